/- The document of chapter 19: any operation; Check. -/
import Derived.Test.YtdmjiaicgbcodaaPgN
import Derived.Test.YtdmjiaicgbcodaaPgJ
import Derived.Test.YtdmjiaicgbcodaaPgE
import Derived.Test.YtdmjiaicgbcodaaLayZ
namespace Go.Proofs.Ytdmjiaicgbcodaa
open Go.ChangeShapes Go.WideShapes Go.ChangeAt Go.RowKit
open Go.ChangeMaps (open_string shut_string)
set_option linter.unusedVariables false
set_option linter.unusedSimpArgs false

set_option maxHeartbeats 4000000 in
set_option maxRecDepth 100000 in
theorem ref_op (x : Cfg) (A : Option Addr) (n c : Nat) (Z : List (List Int)) (q : OpR) (B : Option Addr) (m kk : Nat) (w : World) (h : RG w A n c Z) (h2 : RE w B m kk q.args) (n1 : 1 ≤ n) (n4 : n ≤ 4) (hrows : ∀ (i : Nat) (z : List Int), Z[i]? = some z → 1 ≤ z.length ∧ z.length ≤ 4) :
    Calls Try.prog 73 #[.agg #[.int .i64 x.h, .int .i64 x.z, .int .i64 x.b, .int .i64 x.r, .int .i64 x.d, .int .i64 x.e, .int .i64 x.s, .int .i64 x.p, .int .i64 x.q, .int .i64 x.t, .slice A n c], .agg #[.int .i64 q.k, .int .i64 q.r, .int .i64 q.t, .int .i64 q.c, .int .i64 q.l, .slice B m kk]] w fun e w' => e = .returned (.bool (mayO x.d n Z q)) ∧ Below w.heap.size w w' := by
  obtain ⟨qk, qr, qt, qc, ql, qa⟩ := q
  obtain ⟨R, hR⟩ : ∃ R, mayO x.d n Z ⟨qk, qr, qt, qc, ql, qa⟩ = R := ⟨_, rfl⟩
  rw [hR]
  have hres := Lib.hid hR
  clear hR
  by_cases k0 : qk < 1 ∨ 7 < qk
  · have h17 : inR qk 1 7 = false := by simp [inR]; omega
    have hf := Lib.hid (show mayO x.d n Z ⟨qk, qr, qt, qc, ql, qa⟩ = false from by simp [mayO, h17])
    clear h17
    have bb : Below w.heap.size w ((w.alloc (.cells #[.int .i64 x.h, .int .i64 x.z, .int .i64 x.b, .int .i64 x.r, .int .i64 x.d, .int .i64 x.e, .int .i64 x.s, .int .i64 x.p, .int .i64 x.q, .int .i64 x.t, .slice A n c] 24)).alloc (.cells #[.int .i64 qk, .int .i64 qr, .int .i64 qt, .int .i64 qc, .int .i64 ql, .slice B m kk] 51)) := (by repeat (first | exact Below.refl _ _ | assumption | apply below_drewN' | apply Below.drew | refine Below.alloc ?_ (by first | omega | (simp; done) | (simp; omega)) _ | refine Below.setCell ?_ (by first | omega | (simp; done) | (simp; omega)) _))
    have hQ := Blk.new2 w (.cells #[.int .i64 x.h, .int .i64 x.z, .int .i64 x.b, .int .i64 x.r, .int .i64 x.d, .int .i64 x.e, .int .i64 x.s, .int .i64 x.p, .int .i64 x.q, .int .i64 x.t, .slice A n c] 24) #[.int .i64 qk, .int .i64 qr, .int .i64 qt, .int .i64 qc, .int .i64 ql, .slice B m kk] 51
    have o0 := hQ.cell 0 (v := .int .i64 qk) rfl
    rcases (show qk < 1 ∨ (¬ qk < 1 ∧ 7 < qk) by omega) with k1 | ⟨k1, k2⟩
    · go_enter Try.func73, Try.ntmps73
      go_wp2
      go_ret
      exact ⟨(show Ending.returned (.bool false) = .returned (.bool R) from by rewrite [← hres.out, hf.out]; rfl), bb⟩
    · go_enter Try.func73, Try.ntmps73
      go_wp2
      go_ret
      exact ⟨(show Ending.returned (.bool false) = .returned (.bool R) from by rewrite [← hres.out, hf.out]; rfl), bb⟩
  rcases (show qk = 1 ∨ qk = 2 ∨ qk = 3 ∨ qk = 4 ∨ qk = 5 ∨ qk = 6 ∨ qk = 7 by omega) with rfl | rfl | rfl | rfl | rfl | rfl | rfl
  · exact ref_op1 x A n c Z qr qt qc ql qa R B m kk w h h2 n1 n4 hrows hres
  · exact ref_op2 x A n c Z qr qt qc ql qa R B m kk w h h2 n1 n4 hrows hres
  · exact ref_op3 x A n c Z qr qt qc ql qa R B m kk w h h2 n1 n4 hrows hres
  · exact ref_op4 x A n c Z qr qt qc ql qa R B m kk w h h2 n1 n4 hrows hres
  · exact ref_op5 x A n c Z qr qt qc ql qa R B m kk w h h2 n1 n4 hrows hres
  · exact ref_op6 x A n c Z qr qt qc ql qa R B m kk w h h2 n1 n4 hrows hres
  · exact ref_op7 x A n c Z qr qt qc ql qa R B m kk w h h2 n1 n4 hrows hres

set_option maxHeartbeats 4000000 in
set_option maxRecDepth 100000 in
theorem ref_checkP (x : Cfg) (A : Option Addr) (n c : Nat) (Z : List (List Int)) (A2 : Option Addr) (n2 c2 : Nat) (L : List OpR) (w : World) (h : RG w A n c Z) (h2 : RO w A2 n2 c2 L) :
    Calls Try.prog 29 #[.agg #[.int .i64 x.h, .int .i64 x.z, .int .i64 x.b, .int .i64 x.r, .int .i64 x.d, .int .i64 x.e, .int .i64 x.s, .int .i64 x.p, .int .i64 x.q, .int .i64 x.t, .slice A n c], .slice A2 n2 c2] w fun e w' => e = .returned (.int .i64 (checkP x Z L)) ∧ Below w.heap.size w w' := by
  obtain ⟨R, hR⟩ : ∃ R, checkP x Z L = R := ⟨_, rfl⟩
  rw [hR]
  have hres := Lib.hid hR
  clear hR
  have hZn := h.len
  have hLn := h2.len
  have hnm : n2 ≤ maxLen := Nat.le_trans h2.cap h2.max
  unfold maxLen at hnm
  have hX0 := Blk.new w #[.int .i64 x.h, .int .i64 x.z, .int .i64 x.b, .int .i64 x.r, .int .i64 x.d, .int .i64 x.e, .int .i64 x.s, .int .i64 x.p, .int .i64 x.q, .int .i64 x.t, .slice A n c] 24
  have bb : Below w.heap.size w (w.alloc (.cells #[.int .i64 x.h, .int .i64 x.z, .int .i64 x.b, .int .i64 x.r, .int .i64 x.d, .int .i64 x.e, .int .i64 x.s, .int .i64 x.p, .int .i64 x.q, .int .i64 x.t, .slice A n c] 24)) := (by repeat (first | exact Below.refl _ _ | assumption | apply below_drewN' | apply Below.drew | refine Below.alloc ?_ (by first | omega | (simp; done) | (simp; omega)) _ | refine Below.setCell ?_ (by first | omega | (simp; done) | (simp; omega)) _))
  go_enter Try.func29, Try.ntmps29
  go_wp2_with fail
  generalize w.alloc (.cells #[.int .i64 x.h, .int .i64 x.z, .int .i64 x.b, .int .i64 x.r, .int .i64 x.d, .int .i64 x.e, .int .i64 x.s, .int .i64 x.p, .int .i64 x.q, .int .i64 x.t, .slice A n c] 24) = W1 at *
  obtain ⟨m, hm⟩ : ∃ m, mayC x Z = m := ⟨_, rfl⟩
  refine (hm ▸ ref_may x A n c Z _ (h.below bb)).mono ?_
  rintro e w2 ⟨rfl, e2⟩
  have hX := hX0.below e2 hX0.lt
  have bl := bnext bb e2
  clear hX0 bb e2
  cases m with
  | false =>
    have hm := Lib.hid hm
    go_wp2
    go_ret
    exact ⟨(show Ending.returned (.int .i64 1) = .returned (.int .i64 R) from by rewrite [← hres.out, checkP, if_neg (by rw [hm.out]; simp)]; rfl), bl⟩
  | true =>
  obtain ⟨z1, z4, hrows⟩ := tabs_rows (mayC_tabs hm)
  have hrows := Lib.hid hrows
  have hm := Lib.hid hm
  by_cases l0 : n2 < 1
  · have l1 : (n2 : Int) < 1 := by omega
    have hp := Lib.hid (show inR (L.length : Int) 1 8 = false by simp [inR]; omega)
    go_wp2
    go_ret
    exact ⟨(show Ending.returned (.int .i64 9) = .returned (.int .i64 R) from by rewrite [← hres.out, checkP, if_pos hm.out, if_neg (by rw [hp.out]; simp)]; rfl), bl⟩
  have l1 : ¬ (n2 : Int) < 1 := by omega
  by_cases l8 : 8 < n2
  · have l2 : 8 < (n2 : Int) := by omega
    have hp := Lib.hid (show inR (L.length : Int) 1 8 = false by simp [inR]; omega)
    go_wp2
    go_ret
    exact ⟨(show Ending.returned (.int .i64 9) = .returned (.int .i64 R) from by rewrite [← hres.out, checkP, if_pos hm.out, if_neg (by rw [hp.out]; simp)]; rfl), bl⟩
  have l2 : ¬ 8 < (n2 : Int) := by omega
  have hp := Lib.hid (show inR (L.length : Int) 1 8 = true by simp [inR]; omega)
  have keep := fun {w' w'' : World} (h : (fun w' => Blk w' w.heap.size #[.int .i64 x.h, .int .i64 x.z, .int .i64 x.b, .int .i64 x.r, .int .i64 x.d, .int .i64 x.e, .int .i64 x.s, .int .i64 x.p, .int .i64 x.q, .int .i64 x.t, .slice A n c] 24 ∧ Below w.heap.size w w') w') (hb : Below w'.heap.size w' w'') => (⟨h.1.below hb h.1.lt, bnext h.2 hb⟩ : (fun w' => Blk w' w.heap.size #[.int .i64 x.h, .int .i64 x.z, .int .i64 x.b, .int .i64 x.r, .int .i64 x.d, .int .i64 x.e, .int .i64 x.s, .int .i64 x.p, .int .i64 x.q, .int .i64 x.t, .slice A n c] 24 ∧ Below w.heap.size w w') w'')
  go_wp2
  go_loopw [5] (fun i wr => ∃ k : Nat, k ≤ n2 ∧ i = .int .i64 k ∧ Blk wr w.heap.size #[.int .i64 x.h, .int .i64 x.z, .int .i64 x.b, .int .i64 x.r, .int .i64 x.d, .int .i64 x.e, .int .i64 x.s, .int .i64 x.p, .int .i64 x.q, .int .i64 x.t, .slice A n c] 24 ∧ Below w.heap.size w wr ∧ Hid (∀ (i : Nat) (q : OpR), i < k → L[i]? = some q → mayO x.d Z.length Z q = true)) (fun i _ => n2 - (intOf i).toNat)
  case atStart => exact ⟨0, by omega, rfl, hX, bl, Lib.hid (fun i e hi => absurd hi (by omega))⟩
  case round =>
    clear hX bl
    obtain ⟨k, hk, rfl, hX, bl, hall⟩ := hrel
    by_cases hlt : k < n2
    · obtain ⟨q, hq⟩ : ∃ q, L[k]? = some q := ⟨_, List.getElem?_eq_getElem (by omega)⟩
      obtain ⟨g, o, rfl, hc⟩ := (h2.below bl).at_ (by omega)
      obtain ⟨B, m, kk, hE, hcs⟩ := hc k q hq
      obtain ⟨b, hb⟩ : ∃ b, mayO x.d n Z q = b := ⟨_, rfl⟩
      have HF := Lib.hid (fun w h h2 => hb ▸ ref_op x A n c Z q B m kk w h h2 (by omega) (by omega) hrows.out)
      have p0 : wr.cell? ⟨g, o + k * 6, none⟩ = some (.int .i64 q.k) := hcs 0 (.int .i64 q.k) rfl
      have p1 := hcs 1 (.int .i64 q.r) rfl
      have p2 := hcs 2 (.int .i64 q.t) rfl
      have p3 := hcs 3 (.int .i64 q.c) rfl
      have p4 := hcs 4 (.int .i64 q.l) rfl
      have p5 := hcs 5 (.slice B m kk) rfl
      have hg : g < wr.heap.size := World.block_lt_of_cell? wr _ p0
      have hbh := Lib.hid (show mayO x.d Z.length Z q = b by rw [hZn]; exact hb)
      have hqh := Lib.hid hq
      clear hcs hc hb hq
      have keep3 := fun {w' w'' : World} (h : (fun w' => Blk w' w.heap.size #[.int .i64 x.h, .int .i64 x.z, .int .i64 x.b, .int .i64 x.r, .int .i64 x.d, .int .i64 x.e, .int .i64 x.s, .int .i64 x.p, .int .i64 x.q, .int .i64 x.t, .slice A n c] 24 ∧ Below w.heap.size w w' ∧ Below wr.heap.size wr w') w') (hb : Below w'.heap.size w' w'') => (⟨h.1.below hb h.1.lt, bnext h.2.1 hb, bnext h.2.2 hb⟩ : (fun w' => Blk w' w.heap.size #[.int .i64 x.h, .int .i64 x.z, .int .i64 x.b, .int .i64 x.r, .int .i64 x.d, .int .i64 x.e, .int .i64 x.s, .int .i64 x.p, .int .i64 x.q, .int .i64 x.t, .slice A n c] 24 ∧ Below w.heap.size w w' ∧ Below wr.heap.size wr w') w'')
      have hS0 : (fun w' => Blk w' w.heap.size #[.int .i64 x.h, .int .i64 x.z, .int .i64 x.b, .int .i64 x.r, .int .i64 x.d, .int .i64 x.e, .int .i64 x.s, .int .i64 x.p, .int .i64 x.q, .int .i64 x.t, .slice A n c] 24 ∧ Below w.heap.size w w' ∧ Below wr.heap.size wr w') wr := ⟨hX, bl, Below.refl _ _⟩
      cases b with
      | true =>
        go_wp2_with fail
        have hvo := Free.val
        refine Free.wp_facts (M := [0, 0, 0, 6, 14, 31, 63]) (D := [[], [], [], [(1, 24), (2, 25)], [(3, 26)], [(0, 23), (4, 27)], [(5, 28)]]) (outs := [6]) (soles := []) (E := [(0, 23, false), (1, 24, false), (2, 25, false), (3, 26, false), (4, 27, false), (5, 28, false), (6, 29, true)]) (N := 42) (S := (fun w' => Blk w' w.heap.size #[.int .i64 x.h, .int .i64 x.z, .int .i64 x.b, .int .i64 x.r, .int .i64 x.d, .int .i64 x.e, .int .i64 x.s, .int .i64 x.p, .int .i64 x.q, .int .i64 x.t, .slice A n c] 24 ∧ Below w.heap.size w w' ∧ Below wr.heap.size wr w')) [Free.Fact.is ?_, Free.Fact.is ?_, Free.Fact.is ?_, Free.Fact.is ?_, Free.Fact.is ?_, Free.Fact.is ?_, Free.Fact.is ?_] (by kernel_rfl) (by kernel_rfl) rfl (⟨hS0.1.drew, hS0.2.1.drew, hS0.2.2.drew⟩) ?_ ?_
        rotate_left 7
        refine Free.cons ?_ ?_
        · intro w' hS; intro K hK; have hX := hS.1; have a0 := hX.cell 0 (v := .int .i64 x.h) rfl; have a1 := hX.cell 1 (v := .int .i64 x.z) rfl; have a2 := hX.cell 2 (v := .int .i64 x.b) rfl; have a3 := hX.cell 3 (v := .int .i64 x.r) rfl; have a4 := hX.cell 4 (v := .int .i64 x.d) rfl; have a5 := hX.cell 5 (v := .int .i64 x.e) rfl; have a6 := hX.cell 6 (v := .int .i64 x.s) rfl; have a7 := hX.cell 7 (v := .int .i64 x.p) rfl; have a8 := hX.cell 8 (v := .int .i64 x.q) rfl; have a9 := hX.cell 9 (v := .int .i64 x.t) rfl; have a10 := hX.cell 10 (v := .slice A n c) rfl; have o0 := (hS.2.2.cell (p := ⟨g, o + k * 6, none⟩) hg).trans p0; have o1 := (hS.2.2.cell (p := ⟨g, o + k * 6 + 1, none⟩) hg).trans p1; have o2 := (hS.2.2.cell (p := ⟨g, o + k * 6 + 2, none⟩) hg).trans p2; have o3 := (hS.2.2.cell (p := ⟨g, o + k * 6 + 3, none⟩) hg).trans p3; have o4 := (hS.2.2.cell (p := ⟨g, o + k * 6 + 4, none⟩) hg).trans p4; have o5 := (hS.2.2.cell (p := ⟨g, o + k * 6 + 5, none⟩) hg).trans p5; first | (refine Free.run_yes (by rfl) ?_; go_simp; refine Free.o hK hS ?_; exact rfl) | (refine Free.run_no (by rfl) (Free.o hK hS ?_); exact rfl)
        refine Free.cons ?_ ?_
        · intro w' hS; intro K hK; have hX := hS.1; have a0 := hX.cell 0 (v := .int .i64 x.h) rfl; have a1 := hX.cell 1 (v := .int .i64 x.z) rfl; have a2 := hX.cell 2 (v := .int .i64 x.b) rfl; have a3 := hX.cell 3 (v := .int .i64 x.r) rfl; have a4 := hX.cell 4 (v := .int .i64 x.d) rfl; have a5 := hX.cell 5 (v := .int .i64 x.e) rfl; have a6 := hX.cell 6 (v := .int .i64 x.s) rfl; have a7 := hX.cell 7 (v := .int .i64 x.p) rfl; have a8 := hX.cell 8 (v := .int .i64 x.q) rfl; have a9 := hX.cell 9 (v := .int .i64 x.t) rfl; have a10 := hX.cell 10 (v := .slice A n c) rfl; have o0 := (hS.2.2.cell (p := ⟨g, o + k * 6, none⟩) hg).trans p0; have o1 := (hS.2.2.cell (p := ⟨g, o + k * 6 + 1, none⟩) hg).trans p1; have o2 := (hS.2.2.cell (p := ⟨g, o + k * 6 + 2, none⟩) hg).trans p2; have o3 := (hS.2.2.cell (p := ⟨g, o + k * 6 + 3, none⟩) hg).trans p3; have o4 := (hS.2.2.cell (p := ⟨g, o + k * 6 + 4, none⟩) hg).trans p4; have o5 := (hS.2.2.cell (p := ⟨g, o + k * 6 + 5, none⟩) hg).trans p5; first | (refine Free.run_yes (by rfl) ?_; go_simp; refine Free.o hK hS ?_; exact rfl) | (refine Free.run_no (by rfl) (Free.o hK hS ?_); exact rfl)
        refine Free.cons ?_ ?_
        · intro w' hS; intro K hK; have hX := hS.1; have a0 := hX.cell 0 (v := .int .i64 x.h) rfl; have a1 := hX.cell 1 (v := .int .i64 x.z) rfl; have a2 := hX.cell 2 (v := .int .i64 x.b) rfl; have a3 := hX.cell 3 (v := .int .i64 x.r) rfl; have a4 := hX.cell 4 (v := .int .i64 x.d) rfl; have a5 := hX.cell 5 (v := .int .i64 x.e) rfl; have a6 := hX.cell 6 (v := .int .i64 x.s) rfl; have a7 := hX.cell 7 (v := .int .i64 x.p) rfl; have a8 := hX.cell 8 (v := .int .i64 x.q) rfl; have a9 := hX.cell 9 (v := .int .i64 x.t) rfl; have a10 := hX.cell 10 (v := .slice A n c) rfl; have o0 := (hS.2.2.cell (p := ⟨g, o + k * 6, none⟩) hg).trans p0; have o1 := (hS.2.2.cell (p := ⟨g, o + k * 6 + 1, none⟩) hg).trans p1; have o2 := (hS.2.2.cell (p := ⟨g, o + k * 6 + 2, none⟩) hg).trans p2; have o3 := (hS.2.2.cell (p := ⟨g, o + k * 6 + 3, none⟩) hg).trans p3; have o4 := (hS.2.2.cell (p := ⟨g, o + k * 6 + 4, none⟩) hg).trans p4; have o5 := (hS.2.2.cell (p := ⟨g, o + k * 6 + 5, none⟩) hg).trans p5; first | (refine Free.run_yes (by rfl) ?_; go_simp; refine Free.o hK hS ?_; exact rfl) | (refine Free.run_no (by rfl) (Free.o hK hS ?_); exact rfl)
        refine Free.cons ?_ ?_
        · intro w' hS; (rintro _ rfl); (rintro _ rfl); intro K hK; have hX := hS.1; have a0 := hX.cell 0 (v := .int .i64 x.h) rfl; have a1 := hX.cell 1 (v := .int .i64 x.z) rfl; have a2 := hX.cell 2 (v := .int .i64 x.b) rfl; have a3 := hX.cell 3 (v := .int .i64 x.r) rfl; have a4 := hX.cell 4 (v := .int .i64 x.d) rfl; have a5 := hX.cell 5 (v := .int .i64 x.e) rfl; have a6 := hX.cell 6 (v := .int .i64 x.s) rfl; have a7 := hX.cell 7 (v := .int .i64 x.p) rfl; have a8 := hX.cell 8 (v := .int .i64 x.q) rfl; have a9 := hX.cell 9 (v := .int .i64 x.t) rfl; have a10 := hX.cell 10 (v := .slice A n c) rfl; have o0 := (hS.2.2.cell (p := ⟨g, o + k * 6, none⟩) hg).trans p0; have o1 := (hS.2.2.cell (p := ⟨g, o + k * 6 + 1, none⟩) hg).trans p1; have o2 := (hS.2.2.cell (p := ⟨g, o + k * 6 + 2, none⟩) hg).trans p2; have o3 := (hS.2.2.cell (p := ⟨g, o + k * 6 + 3, none⟩) hg).trans p3; have o4 := (hS.2.2.cell (p := ⟨g, o + k * 6 + 4, none⟩) hg).trans p4; have o5 := (hS.2.2.cell (p := ⟨g, o + k * 6 + 5, none⟩) hg).trans p5; first | (refine Free.run_yes (by rfl) ?_; go_simp; refine Free.o hK hS ?_; exact rfl) | (refine Free.run_no (by rfl) (Free.o hK hS ?_); exact rfl)
        refine Free.cons ?_ ?_
        · intro w' hS; (rintro _ rfl); intro K hK; have hX := hS.1; have a0 := hX.cell 0 (v := .int .i64 x.h) rfl; have a1 := hX.cell 1 (v := .int .i64 x.z) rfl; have a2 := hX.cell 2 (v := .int .i64 x.b) rfl; have a3 := hX.cell 3 (v := .int .i64 x.r) rfl; have a4 := hX.cell 4 (v := .int .i64 x.d) rfl; have a5 := hX.cell 5 (v := .int .i64 x.e) rfl; have a6 := hX.cell 6 (v := .int .i64 x.s) rfl; have a7 := hX.cell 7 (v := .int .i64 x.p) rfl; have a8 := hX.cell 8 (v := .int .i64 x.q) rfl; have a9 := hX.cell 9 (v := .int .i64 x.t) rfl; have a10 := hX.cell 10 (v := .slice A n c) rfl; have o0 := (hS.2.2.cell (p := ⟨g, o + k * 6, none⟩) hg).trans p0; have o1 := (hS.2.2.cell (p := ⟨g, o + k * 6 + 1, none⟩) hg).trans p1; have o2 := (hS.2.2.cell (p := ⟨g, o + k * 6 + 2, none⟩) hg).trans p2; have o3 := (hS.2.2.cell (p := ⟨g, o + k * 6 + 3, none⟩) hg).trans p3; have o4 := (hS.2.2.cell (p := ⟨g, o + k * 6 + 4, none⟩) hg).trans p4; have o5 := (hS.2.2.cell (p := ⟨g, o + k * 6 + 5, none⟩) hg).trans p5; first | (refine Free.run_yes (by rfl) ?_; go_simp; refine Free.o hK hS ?_; exact rfl) | (refine Free.run_no (by rfl) (Free.o hK hS ?_); exact rfl)
        refine Free.cons ?_ ?_
        · intro w' hS; (rintro _ rfl); (rintro _ rfl); intro K hK; have hX := hS.1; have a0 := hX.cell 0 (v := .int .i64 x.h) rfl; have a1 := hX.cell 1 (v := .int .i64 x.z) rfl; have a2 := hX.cell 2 (v := .int .i64 x.b) rfl; have a3 := hX.cell 3 (v := .int .i64 x.r) rfl; have a4 := hX.cell 4 (v := .int .i64 x.d) rfl; have a5 := hX.cell 5 (v := .int .i64 x.e) rfl; have a6 := hX.cell 6 (v := .int .i64 x.s) rfl; have a7 := hX.cell 7 (v := .int .i64 x.p) rfl; have a8 := hX.cell 8 (v := .int .i64 x.q) rfl; have a9 := hX.cell 9 (v := .int .i64 x.t) rfl; have a10 := hX.cell 10 (v := .slice A n c) rfl; have o0 := (hS.2.2.cell (p := ⟨g, o + k * 6, none⟩) hg).trans p0; have o1 := (hS.2.2.cell (p := ⟨g, o + k * 6 + 1, none⟩) hg).trans p1; have o2 := (hS.2.2.cell (p := ⟨g, o + k * 6 + 2, none⟩) hg).trans p2; have o3 := (hS.2.2.cell (p := ⟨g, o + k * 6 + 3, none⟩) hg).trans p3; have o4 := (hS.2.2.cell (p := ⟨g, o + k * 6 + 4, none⟩) hg).trans p4; have o5 := (hS.2.2.cell (p := ⟨g, o + k * 6 + 5, none⟩) hg).trans p5; refine Free.run_yes (by rfl) ?_; (go_simp; go_at_call 73; refine (HF.out _ (h.below hS.2.1) (hE.below hS.2.2)).mono ?_; rintro e w' ⟨rfl, hb⟩; simp only [Free.valOf, Act.put, List.setIfInBounds_toArray, List.set_cons_zero, List.set_cons_succ, Array.getD_eq_getD_getElem?, List.getElem?_toArray, List.getElem?_cons_succ, List.getElem?_cons_zero, Option.getD_some]; refine hK.out _ _ ?_ (keep3 hS hb) (.inr hb); exact rfl)
        refine Free.cons ?_ ?_
        · intro w' hS; (rintro _ rfl); intro K hK; have hX := hS.1; have a0 := hX.cell 0 (v := .int .i64 x.h) rfl; have a1 := hX.cell 1 (v := .int .i64 x.z) rfl; have a2 := hX.cell 2 (v := .int .i64 x.b) rfl; have a3 := hX.cell 3 (v := .int .i64 x.r) rfl; have a4 := hX.cell 4 (v := .int .i64 x.d) rfl; have a5 := hX.cell 5 (v := .int .i64 x.e) rfl; have a6 := hX.cell 6 (v := .int .i64 x.s) rfl; have a7 := hX.cell 7 (v := .int .i64 x.p) rfl; have a8 := hX.cell 8 (v := .int .i64 x.q) rfl; have a9 := hX.cell 9 (v := .int .i64 x.t) rfl; have a10 := hX.cell 10 (v := .slice A n c) rfl; have o0 := (hS.2.2.cell (p := ⟨g, o + k * 6, none⟩) hg).trans p0; have o1 := (hS.2.2.cell (p := ⟨g, o + k * 6 + 1, none⟩) hg).trans p1; have o2 := (hS.2.2.cell (p := ⟨g, o + k * 6 + 2, none⟩) hg).trans p2; have o3 := (hS.2.2.cell (p := ⟨g, o + k * 6 + 3, none⟩) hg).trans p3; have o4 := (hS.2.2.cell (p := ⟨g, o + k * 6 + 4, none⟩) hg).trans p4; have o5 := (hS.2.2.cell (p := ⟨g, o + k * 6 + 5, none⟩) hg).trans p5; first | (refine Free.run_yes (by rfl) ?_; go_simp; refine Free.o hK hS ?_; exact rfl) | (refine Free.run_no (by rfl) (Free.o hK hS ?_); exact rfl)
        exact Free.nil
        clear hvo
        intro w' hS; intro v0; intro v1; intro v2; intro v3; intro v4; intro v5; (rintro _ rfl); (try simp only [Act.put, List.setIfInBounds_toArray, List.set_cons_zero, List.set_cons_succ]); refine Free.toldE_nil ?_
        replace hX := hS.1
        replace bl := hS.2.1
        clear hS hS0 p0 p1 p2 p3 p4 p5 hE keep3
        go_wp2
        go_roundw
        case rel =>
          refine ⟨k + 1, by omega, by go_num, hX, bl, Lib.hid fun i e hi he => ?_⟩
          by_cases ei : i = k
          · subst ei; rw [hqh.out] at he; injection he with he; rw [← he]; exact hbh.out
          · exact hall.out i e (by omega) he
        case measure => simp [intOf]; omega
      | false =>
        have hno := Lib.hid (ops_no hqh.out hbh.out)
        go_wp2_with fail
        have hvo := Free.val
        refine Free.wp_facts (M := [0, 0, 0, 6, 14, 31, 63]) (D := [[], [], [], [(1, 24), (2, 25)], [(3, 26)], [(0, 23), (4, 27)], [(5, 28)]]) (outs := [6]) (soles := []) (E := [(0, 23, false), (1, 24, false), (2, 25, false), (3, 26, false), (4, 27, false), (5, 28, false), (6, 29, true)]) (N := 42) (S := (fun w' => Blk w' w.heap.size #[.int .i64 x.h, .int .i64 x.z, .int .i64 x.b, .int .i64 x.r, .int .i64 x.d, .int .i64 x.e, .int .i64 x.s, .int .i64 x.p, .int .i64 x.q, .int .i64 x.t, .slice A n c] 24 ∧ Below w.heap.size w w' ∧ Below wr.heap.size wr w')) [Free.Fact.is ?_, Free.Fact.is ?_, Free.Fact.is ?_, Free.Fact.is ?_, Free.Fact.is ?_, Free.Fact.is ?_, Free.Fact.is ?_] (by kernel_rfl) (by kernel_rfl) rfl (⟨hS0.1.drew, hS0.2.1.drew, hS0.2.2.drew⟩) ?_ ?_
        rotate_left 7
        refine Free.cons ?_ ?_
        · intro w' hS; intro K hK; have hX := hS.1; have a0 := hX.cell 0 (v := .int .i64 x.h) rfl; have a1 := hX.cell 1 (v := .int .i64 x.z) rfl; have a2 := hX.cell 2 (v := .int .i64 x.b) rfl; have a3 := hX.cell 3 (v := .int .i64 x.r) rfl; have a4 := hX.cell 4 (v := .int .i64 x.d) rfl; have a5 := hX.cell 5 (v := .int .i64 x.e) rfl; have a6 := hX.cell 6 (v := .int .i64 x.s) rfl; have a7 := hX.cell 7 (v := .int .i64 x.p) rfl; have a8 := hX.cell 8 (v := .int .i64 x.q) rfl; have a9 := hX.cell 9 (v := .int .i64 x.t) rfl; have a10 := hX.cell 10 (v := .slice A n c) rfl; have o0 := (hS.2.2.cell (p := ⟨g, o + k * 6, none⟩) hg).trans p0; have o1 := (hS.2.2.cell (p := ⟨g, o + k * 6 + 1, none⟩) hg).trans p1; have o2 := (hS.2.2.cell (p := ⟨g, o + k * 6 + 2, none⟩) hg).trans p2; have o3 := (hS.2.2.cell (p := ⟨g, o + k * 6 + 3, none⟩) hg).trans p3; have o4 := (hS.2.2.cell (p := ⟨g, o + k * 6 + 4, none⟩) hg).trans p4; have o5 := (hS.2.2.cell (p := ⟨g, o + k * 6 + 5, none⟩) hg).trans p5; first | (refine Free.run_yes (by rfl) ?_; go_simp; refine Free.o hK hS ?_; exact rfl) | (refine Free.run_no (by rfl) (Free.o hK hS ?_); exact rfl)
        refine Free.cons ?_ ?_
        · intro w' hS; intro K hK; have hX := hS.1; have a0 := hX.cell 0 (v := .int .i64 x.h) rfl; have a1 := hX.cell 1 (v := .int .i64 x.z) rfl; have a2 := hX.cell 2 (v := .int .i64 x.b) rfl; have a3 := hX.cell 3 (v := .int .i64 x.r) rfl; have a4 := hX.cell 4 (v := .int .i64 x.d) rfl; have a5 := hX.cell 5 (v := .int .i64 x.e) rfl; have a6 := hX.cell 6 (v := .int .i64 x.s) rfl; have a7 := hX.cell 7 (v := .int .i64 x.p) rfl; have a8 := hX.cell 8 (v := .int .i64 x.q) rfl; have a9 := hX.cell 9 (v := .int .i64 x.t) rfl; have a10 := hX.cell 10 (v := .slice A n c) rfl; have o0 := (hS.2.2.cell (p := ⟨g, o + k * 6, none⟩) hg).trans p0; have o1 := (hS.2.2.cell (p := ⟨g, o + k * 6 + 1, none⟩) hg).trans p1; have o2 := (hS.2.2.cell (p := ⟨g, o + k * 6 + 2, none⟩) hg).trans p2; have o3 := (hS.2.2.cell (p := ⟨g, o + k * 6 + 3, none⟩) hg).trans p3; have o4 := (hS.2.2.cell (p := ⟨g, o + k * 6 + 4, none⟩) hg).trans p4; have o5 := (hS.2.2.cell (p := ⟨g, o + k * 6 + 5, none⟩) hg).trans p5; first | (refine Free.run_yes (by rfl) ?_; go_simp; refine Free.o hK hS ?_; exact rfl) | (refine Free.run_no (by rfl) (Free.o hK hS ?_); exact rfl)
        refine Free.cons ?_ ?_
        · intro w' hS; intro K hK; have hX := hS.1; have a0 := hX.cell 0 (v := .int .i64 x.h) rfl; have a1 := hX.cell 1 (v := .int .i64 x.z) rfl; have a2 := hX.cell 2 (v := .int .i64 x.b) rfl; have a3 := hX.cell 3 (v := .int .i64 x.r) rfl; have a4 := hX.cell 4 (v := .int .i64 x.d) rfl; have a5 := hX.cell 5 (v := .int .i64 x.e) rfl; have a6 := hX.cell 6 (v := .int .i64 x.s) rfl; have a7 := hX.cell 7 (v := .int .i64 x.p) rfl; have a8 := hX.cell 8 (v := .int .i64 x.q) rfl; have a9 := hX.cell 9 (v := .int .i64 x.t) rfl; have a10 := hX.cell 10 (v := .slice A n c) rfl; have o0 := (hS.2.2.cell (p := ⟨g, o + k * 6, none⟩) hg).trans p0; have o1 := (hS.2.2.cell (p := ⟨g, o + k * 6 + 1, none⟩) hg).trans p1; have o2 := (hS.2.2.cell (p := ⟨g, o + k * 6 + 2, none⟩) hg).trans p2; have o3 := (hS.2.2.cell (p := ⟨g, o + k * 6 + 3, none⟩) hg).trans p3; have o4 := (hS.2.2.cell (p := ⟨g, o + k * 6 + 4, none⟩) hg).trans p4; have o5 := (hS.2.2.cell (p := ⟨g, o + k * 6 + 5, none⟩) hg).trans p5; first | (refine Free.run_yes (by rfl) ?_; go_simp; refine Free.o hK hS ?_; exact rfl) | (refine Free.run_no (by rfl) (Free.o hK hS ?_); exact rfl)
        refine Free.cons ?_ ?_
        · intro w' hS; (rintro _ rfl); (rintro _ rfl); intro K hK; have hX := hS.1; have a0 := hX.cell 0 (v := .int .i64 x.h) rfl; have a1 := hX.cell 1 (v := .int .i64 x.z) rfl; have a2 := hX.cell 2 (v := .int .i64 x.b) rfl; have a3 := hX.cell 3 (v := .int .i64 x.r) rfl; have a4 := hX.cell 4 (v := .int .i64 x.d) rfl; have a5 := hX.cell 5 (v := .int .i64 x.e) rfl; have a6 := hX.cell 6 (v := .int .i64 x.s) rfl; have a7 := hX.cell 7 (v := .int .i64 x.p) rfl; have a8 := hX.cell 8 (v := .int .i64 x.q) rfl; have a9 := hX.cell 9 (v := .int .i64 x.t) rfl; have a10 := hX.cell 10 (v := .slice A n c) rfl; have o0 := (hS.2.2.cell (p := ⟨g, o + k * 6, none⟩) hg).trans p0; have o1 := (hS.2.2.cell (p := ⟨g, o + k * 6 + 1, none⟩) hg).trans p1; have o2 := (hS.2.2.cell (p := ⟨g, o + k * 6 + 2, none⟩) hg).trans p2; have o3 := (hS.2.2.cell (p := ⟨g, o + k * 6 + 3, none⟩) hg).trans p3; have o4 := (hS.2.2.cell (p := ⟨g, o + k * 6 + 4, none⟩) hg).trans p4; have o5 := (hS.2.2.cell (p := ⟨g, o + k * 6 + 5, none⟩) hg).trans p5; first | (refine Free.run_yes (by rfl) ?_; go_simp; refine Free.o hK hS ?_; exact rfl) | (refine Free.run_no (by rfl) (Free.o hK hS ?_); exact rfl)
        refine Free.cons ?_ ?_
        · intro w' hS; (rintro _ rfl); intro K hK; have hX := hS.1; have a0 := hX.cell 0 (v := .int .i64 x.h) rfl; have a1 := hX.cell 1 (v := .int .i64 x.z) rfl; have a2 := hX.cell 2 (v := .int .i64 x.b) rfl; have a3 := hX.cell 3 (v := .int .i64 x.r) rfl; have a4 := hX.cell 4 (v := .int .i64 x.d) rfl; have a5 := hX.cell 5 (v := .int .i64 x.e) rfl; have a6 := hX.cell 6 (v := .int .i64 x.s) rfl; have a7 := hX.cell 7 (v := .int .i64 x.p) rfl; have a8 := hX.cell 8 (v := .int .i64 x.q) rfl; have a9 := hX.cell 9 (v := .int .i64 x.t) rfl; have a10 := hX.cell 10 (v := .slice A n c) rfl; have o0 := (hS.2.2.cell (p := ⟨g, o + k * 6, none⟩) hg).trans p0; have o1 := (hS.2.2.cell (p := ⟨g, o + k * 6 + 1, none⟩) hg).trans p1; have o2 := (hS.2.2.cell (p := ⟨g, o + k * 6 + 2, none⟩) hg).trans p2; have o3 := (hS.2.2.cell (p := ⟨g, o + k * 6 + 3, none⟩) hg).trans p3; have o4 := (hS.2.2.cell (p := ⟨g, o + k * 6 + 4, none⟩) hg).trans p4; have o5 := (hS.2.2.cell (p := ⟨g, o + k * 6 + 5, none⟩) hg).trans p5; first | (refine Free.run_yes (by rfl) ?_; go_simp; refine Free.o hK hS ?_; exact rfl) | (refine Free.run_no (by rfl) (Free.o hK hS ?_); exact rfl)
        refine Free.cons ?_ ?_
        · intro w' hS; (rintro _ rfl); (rintro _ rfl); intro K hK; have hX := hS.1; have a0 := hX.cell 0 (v := .int .i64 x.h) rfl; have a1 := hX.cell 1 (v := .int .i64 x.z) rfl; have a2 := hX.cell 2 (v := .int .i64 x.b) rfl; have a3 := hX.cell 3 (v := .int .i64 x.r) rfl; have a4 := hX.cell 4 (v := .int .i64 x.d) rfl; have a5 := hX.cell 5 (v := .int .i64 x.e) rfl; have a6 := hX.cell 6 (v := .int .i64 x.s) rfl; have a7 := hX.cell 7 (v := .int .i64 x.p) rfl; have a8 := hX.cell 8 (v := .int .i64 x.q) rfl; have a9 := hX.cell 9 (v := .int .i64 x.t) rfl; have a10 := hX.cell 10 (v := .slice A n c) rfl; have o0 := (hS.2.2.cell (p := ⟨g, o + k * 6, none⟩) hg).trans p0; have o1 := (hS.2.2.cell (p := ⟨g, o + k * 6 + 1, none⟩) hg).trans p1; have o2 := (hS.2.2.cell (p := ⟨g, o + k * 6 + 2, none⟩) hg).trans p2; have o3 := (hS.2.2.cell (p := ⟨g, o + k * 6 + 3, none⟩) hg).trans p3; have o4 := (hS.2.2.cell (p := ⟨g, o + k * 6 + 4, none⟩) hg).trans p4; have o5 := (hS.2.2.cell (p := ⟨g, o + k * 6 + 5, none⟩) hg).trans p5; refine Free.run_yes (by rfl) ?_; (go_simp; go_at_call 73; refine (HF.out _ (h.below hS.2.1) (hE.below hS.2.2)).mono ?_; rintro e w' ⟨rfl, hb⟩; simp only [Free.valOf, Act.put, List.setIfInBounds_toArray, List.set_cons_zero, List.set_cons_succ, Array.getD_eq_getD_getElem?, List.getElem?_toArray, List.getElem?_cons_succ, List.getElem?_cons_zero, Option.getD_some]; refine hK.out _ _ ?_ (keep3 hS hb) (.inr hb); exact rfl)
        refine Free.cons ?_ ?_
        · intro w' hS; (rintro _ rfl); intro K hK; have hX := hS.1; have a0 := hX.cell 0 (v := .int .i64 x.h) rfl; have a1 := hX.cell 1 (v := .int .i64 x.z) rfl; have a2 := hX.cell 2 (v := .int .i64 x.b) rfl; have a3 := hX.cell 3 (v := .int .i64 x.r) rfl; have a4 := hX.cell 4 (v := .int .i64 x.d) rfl; have a5 := hX.cell 5 (v := .int .i64 x.e) rfl; have a6 := hX.cell 6 (v := .int .i64 x.s) rfl; have a7 := hX.cell 7 (v := .int .i64 x.p) rfl; have a8 := hX.cell 8 (v := .int .i64 x.q) rfl; have a9 := hX.cell 9 (v := .int .i64 x.t) rfl; have a10 := hX.cell 10 (v := .slice A n c) rfl; have o0 := (hS.2.2.cell (p := ⟨g, o + k * 6, none⟩) hg).trans p0; have o1 := (hS.2.2.cell (p := ⟨g, o + k * 6 + 1, none⟩) hg).trans p1; have o2 := (hS.2.2.cell (p := ⟨g, o + k * 6 + 2, none⟩) hg).trans p2; have o3 := (hS.2.2.cell (p := ⟨g, o + k * 6 + 3, none⟩) hg).trans p3; have o4 := (hS.2.2.cell (p := ⟨g, o + k * 6 + 4, none⟩) hg).trans p4; have o5 := (hS.2.2.cell (p := ⟨g, o + k * 6 + 5, none⟩) hg).trans p5; first | (refine Free.run_yes (by rfl) ?_; go_simp; refine Free.o hK hS ?_; exact rfl) | (refine Free.run_no (by rfl) (Free.o hK hS ?_); exact rfl)
        exact Free.nil
        clear hvo
        intro w' hS; intro v0; intro v1; intro v2; intro v3; intro v4; intro v5; (rintro _ rfl); (try simp only [Act.put, List.setIfInBounds_toArray, List.set_cons_zero, List.set_cons_succ]); refine Free.toldE_nil ?_
        replace bl := hS.2.1
        clear hS hS0 p0 p1 p2 p3 p4 p5 hE keep3
        go_wp2
        go_ret
        exact ⟨(show Ending.returned (.int .i64 9) = .returned (.int .i64 R) from by rewrite [← hres.out, checkP, if_pos hm.out, if_neg (by rw [hno.out]; simp)]; rfl), bl⟩
    · have hkn : n2 = k := by omega
      subst hkn
      have hyes := Lib.hid (ops_yes (L := L) (fun i q hi hq => hall.out i q (by omega) hq))
      clear hall
      have HRd := Lib.hid (fun w h => ref_Reads A2 n2 c2 L w h)
      have HWr := Lib.hid (fun w h => ref_Writes A2 n2 c2 L w h)
      obtain ⟨rd, hrd⟩ : ∃ r : Nat, countK readK L = r := ⟨_, rfl⟩
      obtain ⟨wr', hwr⟩ : ∃ r : Nat, countK writeK L = r := ⟨_, rfl⟩
      rw [hrd] at HRd
      rw [hwr] at HWr
      have hrd := Lib.hid hrd
      have hwr := Lib.hid hwr
      have hS0 := And.intro hX bl
      clear hX bl
      by_cases k1 : x.r < rd
      · have kd : decide (x.r < (rd : Int)) = true := decide_eq_true k1
        go_wp2_with fail
        have hvo := Free.val
        refine Free.wp_facts (M := [0, 1, 0, 4, 15, 31, 63, 127, 63, 319, 1023, 2047]) (D := [[], [(0, 30)], [], [(2, 32)], [(1, 31), (3, 33)], [(4, 34)], [(5, 35)], [(6, 36), (5, 35)], [(5, 35)], [(8, 38), (5, 35)], [(7, 37), (9, 39), (5, 35)], [(5, 35), (10, 40)]]) (outs := [11]) (soles := []) (E := [(0, 30, false), (1, 31, false), (2, 32, false), (3, 33, false), (4, 34, false), (5, 35, false), (6, 36, false), (7, 37, false), (8, 38, false), (9, 39, false), (10, 40, false), (11, 41, true)]) (N := 42) (S := (fun w' => Blk w' w.heap.size #[.int .i64 x.h, .int .i64 x.z, .int .i64 x.b, .int .i64 x.r, .int .i64 x.d, .int .i64 x.e, .int .i64 x.s, .int .i64 x.p, .int .i64 x.q, .int .i64 x.t, .slice A n c] 24 ∧ Below w.heap.size w w')) [Free.Fact.is ?_, Free.Fact.is ?_, Free.Fact.is ?_, Free.Fact.is ?_, Free.Fact.is ?_, Free.Fact.is ?_, Free.Fact.is ?_, Free.Fact.is ?_, Free.Fact.is ?_, Free.Fact.is ?_, Free.Fact.is ?_, Free.Fact.is ?_] (by kernel_rfl) (by kernel_rfl) rfl (⟨hS0.1.drew, hS0.2.drew⟩) ?_ ?_
        rotate_left 12
        refine Free.cons ?_ ?_
        · intro w' hS; intro K hK; have hX := hS.1; have a3 := hX.cell 3 (v := .int .i64 x.r) rfl; have a5 := hX.cell 5 (v := .int .i64 x.e) rfl; first | (refine Free.run_yes (by rfl) ?_; go_simp; refine Free.o hK hS ?_; exact rfl) | (refine Free.run_no (by rfl) (Free.o hK hS ?_); exact rfl)
        refine Free.cons ?_ ?_
        · intro w' hS; (rintro _ rfl); intro K hK; have hX := hS.1; have a3 := hX.cell 3 (v := .int .i64 x.r) rfl; have a5 := hX.cell 5 (v := .int .i64 x.e) rfl; refine Free.run_yes (by rfl) ?_; (go_simp; go_at_call 31; refine (HRd.out _ (h2.below hS.2)).mono ?_; rintro e w' ⟨rfl, hb⟩; go_simp; refine Free.c hK (keep hS hb) hb ?_; exact rfl)
        refine Free.cons ?_ ?_
        · intro w' hS; intro K hK; have hX := hS.1; have a3 := hX.cell 3 (v := .int .i64 x.r) rfl; have a5 := hX.cell 5 (v := .int .i64 x.e) rfl; first | (refine Free.run_yes (by rfl) ?_; go_simp; refine Free.o hK hS ?_; exact rfl) | (refine Free.run_no (by rfl) (Free.o hK hS ?_); exact rfl)
        refine Free.cons ?_ ?_
        · intro w' hS; (rintro _ rfl); intro K hK; have hX := hS.1; have a3 := hX.cell 3 (v := .int .i64 x.r) rfl; have a5 := hX.cell 5 (v := .int .i64 x.e) rfl; first | (refine Free.run_yes (by rfl) ?_; go_simp; refine Free.o hK hS ?_; exact rfl) | (refine Free.run_no (by rfl) (Free.o hK hS ?_); exact rfl)
        refine Free.cons ?_ ?_
        · intro w' hS; (rintro _ rfl); (rintro _ rfl); intro K hK; have hX := hS.1; have a3 := hX.cell 3 (v := .int .i64 x.r) rfl; have a5 := hX.cell 5 (v := .int .i64 x.e) rfl; first | (refine Free.run_yes (by rfl) ?_; go_simp; refine Free.o hK hS ?_; exact rfl) | (refine Free.run_no (by rfl) (Free.o hK hS ?_); exact rfl)
        refine Free.cons ?_ ?_
        · intro w' hS; (rintro _ rfl); intro K hK; have hX := hS.1; have a3 := hX.cell 3 (v := .int .i64 x.r) rfl; have a5 := hX.cell 5 (v := .int .i64 x.e) rfl; first | (refine Free.run_yes (by rfl) ?_; go_simp; refine Free.o hK hS ?_; exact rfl) | (refine Free.run_no (by rfl) (Free.o hK hS ?_); exact rfl)
        refine Free.cons ?_ ?_
        · intro w' hS; (rintro _ rfl); intro K hK; have hX := hS.1; have a3 := hX.cell 3 (v := .int .i64 x.r) rfl; have a5 := hX.cell 5 (v := .int .i64 x.e) rfl; first | (refine Free.run_yes (by rfl) ?_; go_simp; refine Free.o hK hS ?_; exact rfl) | (refine Free.run_no (by rfl) (Free.o hK hS ?_); exact rfl)
        refine Free.cons ?_ ?_
        · intro w' hS; (rintro _ rfl); (rintro _ rfl); intro K hK; have hX := hS.1; have a3 := hX.cell 3 (v := .int .i64 x.r) rfl; have a5 := hX.cell 5 (v := .int .i64 x.e) rfl; first | (refine Free.run_yes (by rfl) ?_; go_simp; (fail); go_simp; refine Free.c hK (keep hS hb) hb ?_; exact rfl) | (refine Free.run_no (by rfl) (Free.o hK hS ?_); exact rfl)
        refine Free.cons ?_ ?_
        · intro w' hS; (rintro _ rfl); intro K hK; have hX := hS.1; have a3 := hX.cell 3 (v := .int .i64 x.r) rfl; have a5 := hX.cell 5 (v := .int .i64 x.e) rfl; first | (refine Free.run_yes (by rfl) ?_; go_simp; refine Free.o hK hS ?_; exact rfl) | (refine Free.run_no (by rfl) (Free.o hK hS ?_); exact rfl)
        refine Free.cons ?_ ?_
        · intro w' hS; (rintro _ rfl); (rintro _ rfl); intro K hK; have hX := hS.1; have a3 := hX.cell 3 (v := .int .i64 x.r) rfl; have a5 := hX.cell 5 (v := .int .i64 x.e) rfl; first | (refine Free.run_yes (by rfl) ?_; go_simp; refine Free.o hK hS ?_; exact rfl) | (refine Free.run_no (by rfl) (Free.o hK hS ?_); exact rfl)
        refine Free.cons ?_ ?_
        · intro w' hS; (rintro _ rfl); (rintro _ rfl); (rintro _ rfl); intro K hK; have hX := hS.1; have a3 := hX.cell 3 (v := .int .i64 x.r) rfl; have a5 := hX.cell 5 (v := .int .i64 x.e) rfl; first | (refine Free.run_yes (by rfl) ?_; go_simp; refine Free.o hK hS ?_; exact rfl) | (refine Free.run_no (by rfl) (Free.o hK hS ?_); exact rfl)
        refine Free.cons ?_ ?_
        · intro w' hS; (rintro _ rfl); (rintro _ rfl); intro K hK; have hX := hS.1; have a3 := hX.cell 3 (v := .int .i64 x.r) rfl; have a5 := hX.cell 5 (v := .int .i64 x.e) rfl; first | (refine Free.run_yes (by rfl) ?_; go_simp; refine Free.o hK hS ?_; exact rfl) | (refine Free.run_no (by rfl) (Free.o hK hS ?_); exact rfl)
        exact Free.nil
        clear hvo
        intro w' hS; intro v0; intro v1; intro v2; intro v3; intro v4; intro v5; intro v6; intro v7; intro v8; intro v9; intro v10; (rintro _ rfl); (try simp only [Act.put, List.setIfInBounds_toArray, List.set_cons_zero, List.set_cons_succ]); refine Free.toldE_nil ?_
        go_wp2
        go_ret
        exact ⟨(show Ending.returned (.int .i64 9) = .returned (.int .i64 R) from by rewrite [← hres.out, checkP, if_pos hm.out, if_neg (by rw [hrd.out]; omega)]; rfl), hS.2⟩
      have kd : decide (x.r < (rd : Int)) = false := decide_eq_false k1
      by_cases k2 : x.e < wr'
      · have ke : decide (x.e < (wr' : Int)) = true := decide_eq_true k2
        go_wp2_with fail
        have hvo := Free.val
        refine Free.wp_facts (M := [0, 1, 0, 4, 15, 31, 63, 127, 63, 319, 1023, 2047]) (D := [[], [(0, 30)], [], [(2, 32)], [(1, 31), (3, 33)], [(4, 34)], [(5, 35)], [(6, 36), (5, 35)], [(5, 35)], [(8, 38), (5, 35)], [(7, 37), (9, 39), (5, 35)], [(5, 35), (10, 40)]]) (outs := [11]) (soles := []) (E := [(0, 30, false), (1, 31, false), (2, 32, false), (3, 33, false), (4, 34, false), (5, 35, false), (6, 36, false), (7, 37, false), (8, 38, false), (9, 39, false), (10, 40, false), (11, 41, true)]) (N := 42) (S := (fun w' => Blk w' w.heap.size #[.int .i64 x.h, .int .i64 x.z, .int .i64 x.b, .int .i64 x.r, .int .i64 x.d, .int .i64 x.e, .int .i64 x.s, .int .i64 x.p, .int .i64 x.q, .int .i64 x.t, .slice A n c] 24 ∧ Below w.heap.size w w')) [Free.Fact.is ?_, Free.Fact.is ?_, Free.Fact.is ?_, Free.Fact.is ?_, Free.Fact.is ?_, Free.Fact.is ?_, Free.Fact.is ?_, Free.Fact.is ?_, Free.Fact.is ?_, Free.Fact.is ?_, Free.Fact.is ?_, Free.Fact.is ?_] (by kernel_rfl) (by kernel_rfl) rfl (⟨hS0.1.drew, hS0.2.drew⟩) ?_ ?_
        rotate_left 12
        refine Free.cons ?_ ?_
        · intro w' hS; intro K hK; have hX := hS.1; have a3 := hX.cell 3 (v := .int .i64 x.r) rfl; have a5 := hX.cell 5 (v := .int .i64 x.e) rfl; first | (refine Free.run_yes (by rfl) ?_; go_simp; refine Free.o hK hS ?_; exact rfl) | (refine Free.run_no (by rfl) (Free.o hK hS ?_); exact rfl)
        refine Free.cons ?_ ?_
        · intro w' hS; (rintro _ rfl); intro K hK; have hX := hS.1; have a3 := hX.cell 3 (v := .int .i64 x.r) rfl; have a5 := hX.cell 5 (v := .int .i64 x.e) rfl; refine Free.run_yes (by rfl) ?_; (go_simp; go_at_call 31; refine (HRd.out _ (h2.below hS.2)).mono ?_; rintro e w' ⟨rfl, hb⟩; go_simp; refine Free.c hK (keep hS hb) hb ?_; exact rfl)
        refine Free.cons ?_ ?_
        · intro w' hS; intro K hK; have hX := hS.1; have a3 := hX.cell 3 (v := .int .i64 x.r) rfl; have a5 := hX.cell 5 (v := .int .i64 x.e) rfl; first | (refine Free.run_yes (by rfl) ?_; go_simp; refine Free.o hK hS ?_; exact rfl) | (refine Free.run_no (by rfl) (Free.o hK hS ?_); exact rfl)
        refine Free.cons ?_ ?_
        · intro w' hS; (rintro _ rfl); intro K hK; have hX := hS.1; have a3 := hX.cell 3 (v := .int .i64 x.r) rfl; have a5 := hX.cell 5 (v := .int .i64 x.e) rfl; first | (refine Free.run_yes (by rfl) ?_; go_simp; refine Free.o hK hS ?_; exact rfl) | (refine Free.run_no (by rfl) (Free.o hK hS ?_); exact rfl)
        refine Free.cons ?_ ?_
        · intro w' hS; (rintro _ rfl); (rintro _ rfl); intro K hK; have hX := hS.1; have a3 := hX.cell 3 (v := .int .i64 x.r) rfl; have a5 := hX.cell 5 (v := .int .i64 x.e) rfl; first | (refine Free.run_yes (by rfl) ?_; go_simp; refine Free.o hK hS ?_; exact rfl) | (refine Free.run_no (by rfl) (Free.o hK hS ?_); exact rfl)
        refine Free.cons ?_ ?_
        · intro w' hS; (rintro _ rfl); intro K hK; have hX := hS.1; have a3 := hX.cell 3 (v := .int .i64 x.r) rfl; have a5 := hX.cell 5 (v := .int .i64 x.e) rfl; first | (refine Free.run_yes (by rfl) ?_; go_simp; refine Free.o hK hS ?_; exact rfl) | (refine Free.run_no (by rfl) (Free.o hK hS ?_); exact rfl)
        refine Free.cons ?_ ?_
        · intro w' hS; (rintro _ rfl); intro K hK; have hX := hS.1; have a3 := hX.cell 3 (v := .int .i64 x.r) rfl; have a5 := hX.cell 5 (v := .int .i64 x.e) rfl; first | (refine Free.run_yes (by rfl) ?_; go_simp; refine Free.o hK hS ?_; exact rfl) | (refine Free.run_no (by rfl) (Free.o hK hS ?_); exact rfl)
        refine Free.cons ?_ ?_
        · intro w' hS; (rintro _ rfl); (rintro _ rfl); intro K hK; have hX := hS.1; have a3 := hX.cell 3 (v := .int .i64 x.r) rfl; have a5 := hX.cell 5 (v := .int .i64 x.e) rfl; refine Free.run_yes (by rfl) ?_; (go_simp; go_at_call 33; refine (HWr.out _ (h2.below hS.2)).mono ?_; rintro e w' ⟨rfl, hb⟩; go_simp; refine Free.c hK (keep hS hb) hb ?_; exact rfl)
        refine Free.cons ?_ ?_
        · intro w' hS; (rintro _ rfl); intro K hK; have hX := hS.1; have a3 := hX.cell 3 (v := .int .i64 x.r) rfl; have a5 := hX.cell 5 (v := .int .i64 x.e) rfl; first | (refine Free.run_yes (by rfl) ?_; go_simp; refine Free.o hK hS ?_; exact rfl) | (refine Free.run_no (by rfl) (Free.o hK hS ?_); exact rfl)
        refine Free.cons ?_ ?_
        · intro w' hS; (rintro _ rfl); (rintro _ rfl); intro K hK; have hX := hS.1; have a3 := hX.cell 3 (v := .int .i64 x.r) rfl; have a5 := hX.cell 5 (v := .int .i64 x.e) rfl; first | (refine Free.run_yes (by rfl) ?_; go_simp; refine Free.o hK hS ?_; exact rfl) | (refine Free.run_no (by rfl) (Free.o hK hS ?_); exact rfl)
        refine Free.cons ?_ ?_
        · intro w' hS; (rintro _ rfl); (rintro _ rfl); (rintro _ rfl); intro K hK; have hX := hS.1; have a3 := hX.cell 3 (v := .int .i64 x.r) rfl; have a5 := hX.cell 5 (v := .int .i64 x.e) rfl; first | (refine Free.run_yes (by rfl) ?_; go_simp; refine Free.o hK hS ?_; exact rfl) | (refine Free.run_no (by rfl) (Free.o hK hS ?_); exact rfl)
        refine Free.cons ?_ ?_
        · intro w' hS; (rintro _ rfl); (rintro _ rfl); intro K hK; have hX := hS.1; have a3 := hX.cell 3 (v := .int .i64 x.r) rfl; have a5 := hX.cell 5 (v := .int .i64 x.e) rfl; first | (refine Free.run_yes (by rfl) ?_; go_simp; refine Free.o hK hS ?_; exact rfl) | (refine Free.run_no (by rfl) (Free.o hK hS ?_); exact rfl)
        exact Free.nil
        clear hvo
        intro w' hS; intro v0; intro v1; intro v2; intro v3; intro v4; intro v5; intro v6; intro v7; intro v8; intro v9; intro v10; (rintro _ rfl); (try simp only [Act.put, List.setIfInBounds_toArray, List.set_cons_zero, List.set_cons_succ]); refine Free.toldE_nil ?_
        go_wp2
        go_ret
        exact ⟨(show Ending.returned (.int .i64 9) = .returned (.int .i64 R) from by rewrite [← hres.out, checkP, if_pos hm.out, if_neg (by rw [hwr.out]; omega)]; rfl), hS.2⟩
      have ke : decide (x.e < (wr' : Int)) = false := decide_eq_false k2
      have hcnt := Lib.hid (show (countK readK L : Int) ≤ x.r ∧ (countK writeK L : Int) ≤ x.e by rw [hrd.out, hwr.out]; omega)
      go_wp2_with fail
      have hvo := Free.val
      refine Free.wp_facts (M := [0, 1, 0, 4, 15, 31, 63, 127, 63, 319, 1023, 2047]) (D := [[], [(0, 30)], [], [(2, 32)], [(1, 31), (3, 33)], [(4, 34)], [(5, 35)], [(6, 36), (5, 35)], [(5, 35)], [(8, 38), (5, 35)], [(7, 37), (9, 39), (5, 35)], [(5, 35), (10, 40)]]) (outs := [11]) (soles := []) (E := [(0, 30, false), (1, 31, false), (2, 32, false), (3, 33, false), (4, 34, false), (5, 35, false), (6, 36, false), (7, 37, false), (8, 38, false), (9, 39, false), (10, 40, false), (11, 41, true)]) (N := 42) (S := (fun w' => Blk w' w.heap.size #[.int .i64 x.h, .int .i64 x.z, .int .i64 x.b, .int .i64 x.r, .int .i64 x.d, .int .i64 x.e, .int .i64 x.s, .int .i64 x.p, .int .i64 x.q, .int .i64 x.t, .slice A n c] 24 ∧ Below w.heap.size w w')) [Free.Fact.is ?_, Free.Fact.is ?_, Free.Fact.is ?_, Free.Fact.is ?_, Free.Fact.is ?_, Free.Fact.is ?_, Free.Fact.is ?_, Free.Fact.is ?_, Free.Fact.is ?_, Free.Fact.is ?_, Free.Fact.is ?_, Free.Fact.is ?_] (by kernel_rfl) (by kernel_rfl) rfl (⟨hS0.1.drew, hS0.2.drew⟩) ?_ ?_
      rotate_left 12
      refine Free.cons ?_ ?_
      · intro w' hS; intro K hK; have hX := hS.1; have a3 := hX.cell 3 (v := .int .i64 x.r) rfl; have a5 := hX.cell 5 (v := .int .i64 x.e) rfl; first | (refine Free.run_yes (by rfl) ?_; go_simp; refine Free.o hK hS ?_; exact rfl) | (refine Free.run_no (by rfl) (Free.o hK hS ?_); exact rfl)
      refine Free.cons ?_ ?_
      · intro w' hS; (rintro _ rfl); intro K hK; have hX := hS.1; have a3 := hX.cell 3 (v := .int .i64 x.r) rfl; have a5 := hX.cell 5 (v := .int .i64 x.e) rfl; refine Free.run_yes (by rfl) ?_; (go_simp; go_at_call 31; refine (HRd.out _ (h2.below hS.2)).mono ?_; rintro e w' ⟨rfl, hb⟩; go_simp; refine Free.c hK (keep hS hb) hb ?_; exact rfl)
      refine Free.cons ?_ ?_
      · intro w' hS; intro K hK; have hX := hS.1; have a3 := hX.cell 3 (v := .int .i64 x.r) rfl; have a5 := hX.cell 5 (v := .int .i64 x.e) rfl; first | (refine Free.run_yes (by rfl) ?_; go_simp; refine Free.o hK hS ?_; exact rfl) | (refine Free.run_no (by rfl) (Free.o hK hS ?_); exact rfl)
      refine Free.cons ?_ ?_
      · intro w' hS; (rintro _ rfl); intro K hK; have hX := hS.1; have a3 := hX.cell 3 (v := .int .i64 x.r) rfl; have a5 := hX.cell 5 (v := .int .i64 x.e) rfl; first | (refine Free.run_yes (by rfl) ?_; go_simp; refine Free.o hK hS ?_; exact rfl) | (refine Free.run_no (by rfl) (Free.o hK hS ?_); exact rfl)
      refine Free.cons ?_ ?_
      · intro w' hS; (rintro _ rfl); (rintro _ rfl); intro K hK; have hX := hS.1; have a3 := hX.cell 3 (v := .int .i64 x.r) rfl; have a5 := hX.cell 5 (v := .int .i64 x.e) rfl; first | (refine Free.run_yes (by rfl) ?_; go_simp; refine Free.o hK hS ?_; exact rfl) | (refine Free.run_no (by rfl) (Free.o hK hS ?_); exact rfl)
      refine Free.cons ?_ ?_
      · intro w' hS; (rintro _ rfl); intro K hK; have hX := hS.1; have a3 := hX.cell 3 (v := .int .i64 x.r) rfl; have a5 := hX.cell 5 (v := .int .i64 x.e) rfl; first | (refine Free.run_yes (by rfl) ?_; go_simp; refine Free.o hK hS ?_; exact rfl) | (refine Free.run_no (by rfl) (Free.o hK hS ?_); exact rfl)
      refine Free.cons ?_ ?_
      · intro w' hS; (rintro _ rfl); intro K hK; have hX := hS.1; have a3 := hX.cell 3 (v := .int .i64 x.r) rfl; have a5 := hX.cell 5 (v := .int .i64 x.e) rfl; first | (refine Free.run_yes (by rfl) ?_; go_simp; refine Free.o hK hS ?_; exact rfl) | (refine Free.run_no (by rfl) (Free.o hK hS ?_); exact rfl)
      refine Free.cons ?_ ?_
      · intro w' hS; (rintro _ rfl); (rintro _ rfl); intro K hK; have hX := hS.1; have a3 := hX.cell 3 (v := .int .i64 x.r) rfl; have a5 := hX.cell 5 (v := .int .i64 x.e) rfl; refine Free.run_yes (by rfl) ?_; (go_simp; go_at_call 33; refine (HWr.out _ (h2.below hS.2)).mono ?_; rintro e w' ⟨rfl, hb⟩; go_simp; refine Free.c hK (keep hS hb) hb ?_; exact rfl)
      refine Free.cons ?_ ?_
      · intro w' hS; (rintro _ rfl); intro K hK; have hX := hS.1; have a3 := hX.cell 3 (v := .int .i64 x.r) rfl; have a5 := hX.cell 5 (v := .int .i64 x.e) rfl; first | (refine Free.run_yes (by rfl) ?_; go_simp; refine Free.o hK hS ?_; exact rfl) | (refine Free.run_no (by rfl) (Free.o hK hS ?_); exact rfl)
      refine Free.cons ?_ ?_
      · intro w' hS; (rintro _ rfl); (rintro _ rfl); intro K hK; have hX := hS.1; have a3 := hX.cell 3 (v := .int .i64 x.r) rfl; have a5 := hX.cell 5 (v := .int .i64 x.e) rfl; first | (refine Free.run_yes (by rfl) ?_; go_simp; refine Free.o hK hS ?_; exact rfl) | (refine Free.run_no (by rfl) (Free.o hK hS ?_); exact rfl)
      refine Free.cons ?_ ?_
      · intro w' hS; (rintro _ rfl); (rintro _ rfl); (rintro _ rfl); intro K hK; have hX := hS.1; have a3 := hX.cell 3 (v := .int .i64 x.r) rfl; have a5 := hX.cell 5 (v := .int .i64 x.e) rfl; first | (refine Free.run_yes (by rfl) ?_; go_simp; refine Free.o hK hS ?_; exact rfl) | (refine Free.run_no (by rfl) (Free.o hK hS ?_); exact rfl)
      refine Free.cons ?_ ?_
      · intro w' hS; (rintro _ rfl); (rintro _ rfl); intro K hK; have hX := hS.1; have a3 := hX.cell 3 (v := .int .i64 x.r) rfl; have a5 := hX.cell 5 (v := .int .i64 x.e) rfl; first | (refine Free.run_yes (by rfl) ?_; go_simp; refine Free.o hK hS ?_; exact rfl) | (refine Free.run_no (by rfl) (Free.o hK hS ?_); exact rfl)
      exact Free.nil
      clear hvo
      intro w' hS; intro v0; intro v1; intro v2; intro v3; intro v4; intro v5; intro v6; intro v7; intro v8; intro v9; intro v10; (rintro _ rfl); (try simp only [Act.put, List.setIfInBounds_toArray, List.set_cons_zero, List.set_cons_succ]); refine Free.toldE_nil ?_
      go_wp2
      go_ret
      exact ⟨(show Ending.returned (.int .i64 0) = .returned (.int .i64 R) from by rewrite [← hres.out, checkP, if_pos hm.out, if_pos ⟨hp.out, hcnt.out.1, hcnt.out.2, hyes.out⟩]; rfl), hS.2⟩
end Go.Proofs.Ytdmjiaicgbcodaa
