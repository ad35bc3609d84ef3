/- Merged: LayK, LayL, LayG, LayH, LayPure, LayI, LayP, CgS, LayN, LayQ, LayR, LayV, LayPure2, LayPure3, LayW, LayX, LayY, LayNeg, CgU, CgW, CgX. -/
import Derived.Test.YtjpgiohdaadieaaRk3
/- Contract of lay.Of. -/
namespace Go.Proofs.Ytjpgiohdaadieaa
open Go.ChangeShapes Go.WideShapes Go.ChangeAt Go.RowKit
open Go.ChangeMaps (open_string shut_string)
set_option linter.unusedVariables false
set_option linter.unusedSimpArgs false
set_option maxRecDepth 100000

theorem info_int : (Try.prog.info? 3).map (fun i => (i.zero, i.size, i.bytes)) = some (some (.int .i64 0), 1, 8) := by kernel_rfl
theorem info_ints : (Try.prog.info? 70).map (fun i => (i.zero, i.size, i.bytes)) = some (some (.slice none 0 0), 1, 24) := by kernel_rfl
theorem info_is {P : Program} {t : TypeId} {z : Value} {a b : Nat} (h : (P.info? t).map (fun i => (i.zero, i.size, i.bytes)) = some (some z, a, b)) : ∃ i, P.info? t = some i ∧ i.zero = some z ∧ i.size = a ∧ i.bytes = b := by
  cases hi : P.info? t with
  | none => rw [hi] at h; cases h
  | some i => rw [hi] at h; simp at h; exact ⟨i, rfl, h.1, h.2.1, h.2.2⟩
theorem run_mkrows (w : World) (n : Nat) (hn : n ≤ 1000) : (Instr.makeSlice 22 (.int .i64 n) (.int .i64 n)).run Try.prog w = .ok (.slice (some ⟨w.heap.size, 0, none⟩) n n) (w.alloc (.cells (madeCells #[.slice none 0 0] n) 70)) := by
  obtain ⟨i, hi, hz, h1, h2⟩ := info_is info_ints
  have := run_make (P := Try.prog) w 22 70 i _ Try.underlying22 hi hz .i64 .i64 n n (by omega) (Int.le_refl _) (by rw [h2]; omega) (by omega)
  simp only [Int.toNat_natCast, h1, Nat.mul_one] at this
  exact this

/-- append of numbers onto nil. -/
theorem run_appi (ty : TypeId) (w : World) (l : List Int) (A : Option Addr) (m c : Nat) (hr : RN w A m c l) (h0 : 1 ≤ m) (hm : m ≤ 1000) :
    ∃ k cs, (Builtin.append_ #[70, 70] ty #[.slice none 0 0, .slice A m c]).run Try.prog w = .ok (.slice (some ⟨w.heap.size, 0, none⟩) m k) (w.drew.alloc (.cells cs 3)) := by
  obtain ⟨i0, hi, hz, h1, h2⟩ := info_is info_int
  obtain ⟨g, o, rfl, hc⟩ := hr.at_ (by omega)
  have hl := hr.len
  refine ⟨_, _, run_append_nil (P := Try.prog) w 70 ty 3 i0 _ Try.underlying70 hi hz ⟨g, o, none⟩ m c (l.map (.int .i64)) (by rw [List.length_map, h1, hl, Nat.mul_one]) ?_ (by omega) (by omega) (by rw [h2]; omega)⟩
  intro j v hv
  rw [List.getElem?_map] at hv
  cases hj : l[j]? with
  | none => rw [hj] at hv; cases hv
  | some y =>
    rw [hj] at hv
    injection hv with hv
    rw [← hv, Addr.add_lit]
    exact hc j y hj
theorem wpList_appi {ops : Array Oper} {o : Oper} {a : Act} {w : World} {rest : List Oper} {Q : Exit → Act → World → Prop} (hgd : o.guard = none) (s x : Operand) (hop : o.op = Op.call { callee := Callee.builtin Builtin.append, args := #[s, x], argTypes := #[70, 70] })
    (l : List Int) (A : Option Addr) (m c : Nat) (hs : a.eval s = .slice none 0 0) (hx : a.eval x = .slice A m c) (hr : RN w A m c l) (h0 : 1 ≤ m) (hm : m ≤ 1000)
    (h : ∀ k cs, wpList Try.prog ops Q rest (a.put o.dst (.slice (some ⟨w.heap.size, 0, none⟩) m k)) (w.drew.alloc (.cells cs 3))) : wpList Try.prog ops Q (o :: rest) a w := by
  refine wpList_plain hgd fun K hK => ?_
  obtain ⟨k, cs, hrun⟩ := run_appi o.type w l A m c hr h0 hm
  unfold Oper.wp execOp
  simp only [hop, resolve, invoke, builtin, Sem.run_bind, Sem.run_pure, Result.andThen_ok, List.map_toArray, List.map_cons, List.map_nil, hs, hx, hrun]
  exact hK _ _ (h k cs)

theorem tabs_rows {Z : List (List Int)} (h : tabsOk Z = true) : 1 ≤ Z.length ∧ Z.length ≤ 4 ∧ ∀ (i : Nat) (z : List Int), Z[i]? = some z → 1 ≤ z.length ∧ z.length ≤ 4 := by
  unfold tabsOk at h
  rw [Bool.and_eq_true] at h
  have a := inR_true h.2
  refine ⟨by omega, by omega, fun i z hz => ?_⟩
  have hm := List.all_eq_true.1 h.1 z (List.mem_of_getElem? hz)
  unfold rowOk at hm
  rw [Bool.and_eq_true] at hm
  have b := inR_true hm.2
  omega
theorem mayC_tabs {x : Cfg} {Z : List (List Int)} (h : mayC x Z = true) : tabsOk Z = true := by
  simp only [mayC, Bool.and_eq_true] at h
  exact h.2.2.2.2.2.2.2.2.2.2

theorem Blk.set11 {w : World} {g t : Nat} {u0 u1 u2 u3 u4 u5 u6 u7 u8 u9 u10 : Value} (h : Blk w g #[u0, u1, u2, u3, u4, u5, u6, u7, u8, u9, u10] t) (v0 v1 v2 v3 v4 v5 v6 v7 v8 v9 v10 : Value) : Blk (((((((((((w.setCell ⟨g, 0, none⟩ v0).setCell ⟨g, 1, none⟩ v1).setCell ⟨g, 2, none⟩ v2).setCell ⟨g, 3, none⟩ v3).setCell ⟨g, 4, none⟩ v4).setCell ⟨g, 5, none⟩ v5).setCell ⟨g, 6, none⟩ v6).setCell ⟨g, 7, none⟩ v7).setCell ⟨g, 8, none⟩ v8).setCell ⟨g, 9, none⟩ v9).setCell ⟨g, 10, none⟩ v10) g #[v0, v1, v2, v3, v4, v5, v6, v7, v8, v9, v10] t := by
  have := (((((((((((h.set 0 v0).set 1 v1).set 2 v2).set 3 v3).set 4 v4).set 5 v5).set 6 v6).set 7 v7).set 8 v8).set 9 v9).set 10 v10)
  simpa only [List.setIfInBounds_toArray, List.set_cons_zero, List.set_cons_succ] using this

set_option maxHeartbeats 1000000 in
set_option maxRecDepth 100000 in
theorem lay_of (x : Cfg) (A : Option Addr) (n c : Nat) (Z : List (List Int)) (w : World) (h : RG w A n c Z) (hm : mayC x Z = true) :
    Calls Try.prog 9 #[.agg #[.int .i64 x.h, .int .i64 x.z, .int .i64 x.b, .int .i64 x.r, .int .i64 x.d, .int .i64 x.e, .int .i64 x.s, .int .i64 x.p, .int .i64 x.q, .int .i64 x.t, .slice A n c]] w fun e w' => ∃ B k, e = .returned (.tuple #[.agg #[.int .i64 x.h, .int .i64 x.z, .int .i64 x.b, .int .i64 x.r, .int .i64 x.d, .int .i64 x.e, .int .i64 x.s, .int .i64 x.p, .int .i64 x.q, .int .i64 x.t, .slice (some B) n k], .int .i64 0]) ∧ Below w.heap.size w w' := by
  have HM := Lib.hid (fun w h => hm ▸ lay_may x A n c Z w h)
  obtain ⟨n0, n1, hrw⟩ := tabs_rows (mayC_tabs hm)
  have hZn := h.len
  have hrows := Lib.hid hrw
  clear hm hrw
  have bb : Below w.heap.size w ((w.alloc (.cells #[.int .i64 x.h, .int .i64 x.z, .int .i64 x.b, .int .i64 x.r, .int .i64 x.d, .int .i64 x.e, .int .i64 x.s, .int .i64 x.p, .int .i64 x.q, .int .i64 x.t, .slice A n c] 24)).alloc (.cells #[.int .i64 0, .int .i64 0, .int .i64 0, .int .i64 0, .int .i64 0, .int .i64 0, .int .i64 0, .int .i64 0, .int .i64 0, .int .i64 0, .slice none 0 0] 28)) := (by repeat (first | exact Below.refl _ _ | assumption | apply below_drewN' | apply Below.drew | refine Below.alloc ?_ (by first | omega | (simp; done) | (simp; omega)) _ | refine Below.setCell ?_ (by first | omega | (simp; done) | (simp; omega)) _))
  have hr0 := Blk.new2 w (.cells #[.int .i64 x.h, .int .i64 x.z, .int .i64 x.b, .int .i64 x.r, .int .i64 x.d, .int .i64 x.e, .int .i64 x.s, .int .i64 x.p, .int .i64 x.q, .int .i64 x.t, .slice A n c] 24) #[.int .i64 0, .int .i64 0, .int .i64 0, .int .i64 0, .int .i64 0, .int .i64 0, .int .i64 0, .int .i64 0, .int .i64 0, .int .i64 0, .slice none 0 0] 28
  have hx0 := (Blk.new w #[.int .i64 x.h, .int .i64 x.z, .int .i64 x.b, .int .i64 x.r, .int .i64 x.d, .int .i64 x.e, .int .i64 x.s, .int .i64 x.p, .int .i64 x.q, .int .i64 x.t, .slice A n c] 24).alloc (.cells #[.int .i64 0, .int .i64 0, .int .i64 0, .int .i64 0, .int .i64 0, .int .i64 0, .int .i64 0, .int .i64 0, .int .i64 0, .int .i64 0, .slice none 0 0] 28)
  have h1 := h.below bb
  go_enter Try.func9, Try.ntmps9
  go_wp2_with fail
  generalize (w.alloc (.cells #[.int .i64 x.h, .int .i64 x.z, .int .i64 x.b, .int .i64 x.r, .int .i64 x.d, .int .i64 x.e, .int .i64 x.s, .int .i64 x.p, .int .i64 x.q, .int .i64 x.t, .slice A n c] 24)).alloc (.cells #[.int .i64 0, .int .i64 0, .int .i64 0, .int .i64 0, .int .i64 0, .int .i64 0, .int .i64 0, .int .i64 0, .int .i64 0, .int .i64 0, .slice none 0 0] 28) = W1 at *
  refine (HM.out _ h1).mono ?_
  rintro e w3 ⟨rfl, hb⟩
  have hX := hx0.below hb hx0.lt
  have hR := hr0.below hb hr0.lt
  have b3 := bnext bb hb
  have hXlt := hX.lt
  clear hx0 hr0 bb hb h1
  have bR := Below.refl w3.heap.size w3
  have a0 := (hX.below bR hXlt).cell 0 (v := .int .i64 x.h) rfl; have a1 := (hX.below bR hXlt).cell 1 (v := .int .i64 x.z) rfl; have a2 := (hX.below bR hXlt).cell 2 (v := .int .i64 x.b) rfl; have a3 := (hX.below bR hXlt).cell 3 (v := .int .i64 x.r) rfl; have a4 := (hX.below bR hXlt).cell 4 (v := .int .i64 x.d) rfl; have a5 := (hX.below bR hXlt).cell 5 (v := .int .i64 x.e) rfl; have a6 := (hX.below bR hXlt).cell 6 (v := .int .i64 x.s) rfl; have a7 := (hX.below bR hXlt).cell 7 (v := .int .i64 x.p) rfl; have a8 := (hX.below bR hXlt).cell 8 (v := .int .i64 x.q) rfl; have a9 := (hX.below bR hXlt).cell 9 (v := .int .i64 x.t) rfl; have a10 := (hX.below bR hXlt).cell 10 (v := .slice A n c) rfl
  have hmk := fun w => run_mkrows w n (by omega)
  go_wp2
  have b4 : Below w.heap.size w (w3.alloc (.cells (madeCells #[.slice none 0 0] n) 70)) := (by repeat (first | exact Below.refl _ _ | assumption | apply below_drewN' | apply Below.drew | refine Below.alloc ?_ (by first | omega | (simp; done) | (simp; omega)) _ | refine Below.setCell ?_ (by first | omega | (simp; done) | (simp; omega)) _))
  have hG0 := Blk.new w3 (madeCells #[.slice none 0 0] n) 70
  have hX4 := hX.alloc (.cells (madeCells #[.slice none 0 0] n) 70)
  have hR4 := hR.alloc (.cells (madeCells #[.slice none 0 0] n) 70)
  have hms := size_madeCells #[.slice none 0 0] n
  have g3 : w.heap.size + 2 ≤ w3.heap.size := by have := hR.lt; omega
  clear a0 a1 a2 a3 a4 a5 a6 a7 a8 a9 a10 bR b3 hX hR hXlt
  generalize w3.heap.size = G at *
  go_loopw [18] (fun i wr => ∃ k : Nat, k ≤ n ∧ i = .int .i64 k ∧ Blk wr w.heap.size #[.int .i64 x.h, .int .i64 x.z, .int .i64 x.b, .int .i64 x.r, .int .i64 x.d, .int .i64 x.e, .int .i64 x.s, .int .i64 x.p, .int .i64 x.q, .int .i64 x.t, .slice A n c] 24 ∧ Blk wr (w.heap.size + 1) #[.int .i64 0, .int .i64 0, .int .i64 0, .int .i64 0, .int .i64 0, .int .i64 0, .int .i64 0, .int .i64 0, .int .i64 0, .int .i64 0, .slice none 0 0] 28 ∧ (∃ cs, Blk wr G cs 70 ∧ cs.size = n) ∧ Below w.heap.size w wr) (fun i _ => n - (intOf i).toNat)
  case atStart => exact ⟨0, by omega, rfl, hX4, hR4, ⟨_, hG0, hms⟩, b4⟩
  case round =>
    obtain ⟨k, hk, rfl, hX, hR, ⟨cs, hG, hcs⟩, br⟩ := hrel
    clear hX4 hR4 hG0 hms b4
    by_cases hlt : k < n
    · obtain ⟨z, hz⟩ : ∃ z, Z[k]? = some z := ⟨_, List.getElem?_eq_getElem (by omega)⟩
      obtain ⟨g, o, rfl, hc⟩ := (h.below br).at_ (by omega)
      obtain ⟨B, kk, hcell, hrow⟩ := hc k z hz
      obtain ⟨z0, z1⟩ := hrows.out k z hz
      clear hc hz
      obtain ⟨u, hu⟩ : ∃ u, cs[k]? = some u := ⟨_, Array.getElem?_eq_getElem (by omega)⟩
      have hgl := hG.lt
      have cu := hG.cell k hu
      have gu := hG.fz k
      go_wp2_with (refine wpList_appi rfl _ _ rfl z B z.length kk rfl rfl hrow z0 (by omega) ?_; intro kc ncs)
      go_roundw
      case rel =>
        refine ⟨k + 1, by omega, by go_num, (by repeat (first | assumption | apply Blk.drewN | apply Blk.drew | apply Blk.alloc | refine Blk.other ?_ (by first | omega | (simp; done) | (simp; omega)) _)), (by repeat (first | assumption | apply Blk.drewN | apply Blk.drew | apply Blk.alloc | refine Blk.other ?_ (by first | omega | (simp; done) | (simp; omega)) _)), ⟨_, ((hG.set k _).alloc _).drew, ?_⟩, (by repeat (first | exact Below.refl _ _ | assumption | apply below_drewN' | apply Below.drew | refine Below.alloc ?_ (by first | omega | (simp; done) | (simp; omega)) _ | refine Below.setCell ?_ (by first | omega | (simp; done) | (simp; omega)) _))⟩
        rw [Array.size_setIfInBounds]
        exact hcs
      case measure => simp [intOf]; omega
    · have hkn : n = k := by omega
      subst hkn
      have hXlt := hX.lt
      have bR := Below.refl wr.heap.size wr
      have a0 := (hX.below bR hXlt).cell 0 (v := .int .i64 x.h) rfl; have a1 := (hX.below bR hXlt).cell 1 (v := .int .i64 x.z) rfl; have a2 := (hX.below bR hXlt).cell 2 (v := .int .i64 x.b) rfl; have a3 := (hX.below bR hXlt).cell 3 (v := .int .i64 x.r) rfl; have a4 := (hX.below bR hXlt).cell 4 (v := .int .i64 x.d) rfl; have a5 := (hX.below bR hXlt).cell 5 (v := .int .i64 x.e) rfl; have a6 := (hX.below bR hXlt).cell 6 (v := .int .i64 x.s) rfl; have a7 := (hX.below bR hXlt).cell 7 (v := .int .i64 x.p) rfl; have a8 := (hX.below bR hXlt).cell 8 (v := .int .i64 x.q) rfl; have a9 := (hX.below bR hXlt).cell 9 (v := .int .i64 x.t) rfl; have a10 := (hX.below bR hXlt).cell 10 (v := .slice A n c) rfl
      have c0 := hR.cell 0 (v := .int .i64 0) rfl
      have c1 := hR.cell 1 (v := .int .i64 0) rfl
      have c2 := hR.cell 2 (v := .int .i64 0) rfl
      have c3 := hR.cell 3 (v := .int .i64 0) rfl
      have c4 := hR.cell 4 (v := .int .i64 0) rfl
      have c5 := hR.cell 5 (v := .int .i64 0) rfl
      have c6 := hR.cell 6 (v := .int .i64 0) rfl
      have c7 := hR.cell 7 (v := .int .i64 0) rfl
      have c8 := hR.cell 8 (v := .int .i64 0) rfl
      have c9 := hR.cell 9 (v := .int .i64 0) rfl
      have c10 := hR.cell 10 (v := .slice none 0 0) rfl
      have f10 := hX.fz 10
      have g0 := hR.fz 0
      have g1 := hR.fz 1
      have g2 := hR.fz 2
      have g3' := hR.fz 3
      have g4 := hR.fz 4
      have g5 := hR.fz 5
      have g6 := hR.fz 6
      have g7 := hR.fz 7
      have g8 := hR.fz 8
      have g9 := hR.fz 9
      have g10 := hR.fz 10
      go_wp2
      have hf := Blk.set11 (hR.other (p := ⟨w.heap.size, 10, none⟩) (by simp) (.slice (some ⟨G, 0, none⟩) n n)) (.int .i64 x.h) (.int .i64 x.z) (.int .i64 x.b) (.int .i64 x.r) (.int .i64 x.d) (.int .i64 x.e) (.int .i64 x.s) (.int .i64 x.p) (.int .i64 x.q) (.int .i64 x.t) (.slice (some ⟨G, 0, none⟩) n n)
      have bF : Below w.heap.size w ((((((((((((wr.setCell ⟨w.heap.size, 10, none⟩ (.slice (some ⟨G, 0, none⟩) n n)).setCell ⟨w.heap.size + 1, 0, none⟩ (.int .i64 x.h)).setCell ⟨w.heap.size + 1, 1, none⟩ (.int .i64 x.z)).setCell ⟨w.heap.size + 1, 2, none⟩ (.int .i64 x.b)).setCell ⟨w.heap.size + 1, 3, none⟩ (.int .i64 x.r)).setCell ⟨w.heap.size + 1, 4, none⟩ (.int .i64 x.d)).setCell ⟨w.heap.size + 1, 5, none⟩ (.int .i64 x.e)).setCell ⟨w.heap.size + 1, 6, none⟩ (.int .i64 x.s)).setCell ⟨w.heap.size + 1, 7, none⟩ (.int .i64 x.p)).setCell ⟨w.heap.size + 1, 8, none⟩ (.int .i64 x.q)).setCell ⟨w.heap.size + 1, 9, none⟩ (.int .i64 x.t)).setCell ⟨w.heap.size + 1, 10, none⟩ (.slice (some ⟨G, 0, none⟩) n n)) := ((((((((((((br.setCell (p := ⟨w.heap.size, 10, none⟩) (Nat.le_refl _) _).setCell (p := ⟨w.heap.size + 1, 0, none⟩) (Nat.le_succ _) _).setCell (p := ⟨w.heap.size + 1, 1, none⟩) (Nat.le_succ _) _).setCell (p := ⟨w.heap.size + 1, 2, none⟩) (Nat.le_succ _) _).setCell (p := ⟨w.heap.size + 1, 3, none⟩) (Nat.le_succ _) _).setCell (p := ⟨w.heap.size + 1, 4, none⟩) (Nat.le_succ _) _).setCell (p := ⟨w.heap.size + 1, 5, none⟩) (Nat.le_succ _) _).setCell (p := ⟨w.heap.size + 1, 6, none⟩) (Nat.le_succ _) _).setCell (p := ⟨w.heap.size + 1, 7, none⟩) (Nat.le_succ _) _).setCell (p := ⟨w.heap.size + 1, 8, none⟩) (Nat.le_succ _) _).setCell (p := ⟨w.heap.size + 1, 9, none⟩) (Nat.le_succ _) _).setCell (p := ⟨w.heap.size + 1, 10, none⟩) (Nat.le_succ _) _)
      generalize ((((((((((((wr.setCell ⟨w.heap.size, 10, none⟩ (.slice (some ⟨G, 0, none⟩) n n)).setCell ⟨w.heap.size + 1, 0, none⟩ (.int .i64 x.h)).setCell ⟨w.heap.size + 1, 1, none⟩ (.int .i64 x.z)).setCell ⟨w.heap.size + 1, 2, none⟩ (.int .i64 x.b)).setCell ⟨w.heap.size + 1, 3, none⟩ (.int .i64 x.r)).setCell ⟨w.heap.size + 1, 4, none⟩ (.int .i64 x.d)).setCell ⟨w.heap.size + 1, 5, none⟩ (.int .i64 x.e)).setCell ⟨w.heap.size + 1, 6, none⟩ (.int .i64 x.s)).setCell ⟨w.heap.size + 1, 7, none⟩ (.int .i64 x.p)).setCell ⟨w.heap.size + 1, 8, none⟩ (.int .i64 x.q)).setCell ⟨w.heap.size + 1, 9, none⟩ (.int .i64 x.t)).setCell ⟨w.heap.size + 1, 10, none⟩ (.slice (some ⟨G, 0, none⟩) n n)) = WF at *
      clear c0 c1 c2 c3 c4 c5 c6 c7 c8 c9 c10 g0 g1 g2 g3' g4 g5 g6 g7 g8 g9 g10 f10 a0 a1 a2 a3 a4 a5 a6 a7 a8 a9 a10
      have z0 := hf.cell 0 (v := .int .i64 x.h) rfl
      have z1 := hf.cell 1 (v := .int .i64 x.z) rfl
      have z2 := hf.cell 2 (v := .int .i64 x.b) rfl
      have z3 := hf.cell 3 (v := .int .i64 x.r) rfl
      have z4 := hf.cell 4 (v := .int .i64 x.d) rfl
      have z5 := hf.cell 5 (v := .int .i64 x.e) rfl
      have z6 := hf.cell 6 (v := .int .i64 x.s) rfl
      have z7 := hf.cell 7 (v := .int .i64 x.p) rfl
      have z8 := hf.cell 8 (v := .int .i64 x.q) rfl
      have z9 := hf.cell 9 (v := .int .i64 x.t) rfl
      have z10 := hf.cell 10 (v := .slice (some ⟨G, 0, none⟩) n n) rfl
      refine bodyPost_ret (v := .tuple #[.agg #[.int .i64 x.h, .int .i64 x.z, .int .i64 x.b, .int .i64 x.r, .int .i64 x.d, .int .i64 x.e, .int .i64 x.s, .int .i64 x.p, .int .i64 x.q, .int .i64 x.t, .slice (some ⟨G, 0, none⟩) n n], .int .i64 0]) (by simp [results, Try.results9, go_sem, z0, z1, z2, z3, z4, z5, z6, z7, z8, z9, z10]) rfl ⟨⟨G, 0, none⟩, n, rfl, bF⟩
end Go.Proofs.Ytjpgiohdaadieaa
/- The smallest configuration, and what it fixes. -/
namespace Go.Proofs.Ytjpgiohdaadieaa
open Go.ChangeShapes Go.WideShapes Go.ChangeAt Go.RowKit
open Go.ChangeMaps (open_string shut_string)
set_option linter.unusedVariables false
set_option linter.unusedSimpArgs false
set_option maxRecDepth 100000

def smallC : Cfg := ⟨0, 1, 1, 1, 1, 1, 0, 1, 1, 1⟩
theorem RG.one {W : World} {g1 g2 t1 t2 : Nat} (h1 : Blk W g1 #[.int .i64 1] t1) (h2 : Blk W g2 #[.slice (some ⟨g1, 0, none⟩) 1 1] t2) : RG W (some ⟨g2, 0, none⟩) 1 1 [[1]] := by
  refine ⟨rfl, Nat.le_refl _, (by unfold maxLen; omega), (fun h => by cases h), fun _ => ⟨g2, 0, rfl, fun i z hz => ?_⟩⟩
  have hi : i = 0 := by have := (List.getElem?_eq_some_iff.1 hz).1; simp at this; exact this
  subst hi
  simp at hz
  subst hz
  exact ⟨some ⟨g1, 0, none⟩, 1, h2.cell 0 rfl, RN.of_blk h1 rfl rfl (by decide)⟩
set_option maxHeartbeats 1000000 in
set_option maxRecDepth 100000 in
theorem small_any (w : World) : Calls Try.prog 25 #[] w fun e w' => ∃ A, e = .returned (.agg #[.int .i64 0, .int .i64 1, .int .i64 1, .int .i64 1, .int .i64 1, .int .i64 1, .int .i64 0, .int .i64 1, .int .i64 1, .int .i64 1, .slice A 1 1]) ∧ RG w' A 1 1 [[1]] ∧ Below w.heap.size w w' := by
  have hr := Blk.new w #[.int .i64 0, .int .i64 0, .int .i64 0, .int .i64 0, .int .i64 0, .int .i64 0, .int .i64 0, .int .i64 0, .int .i64 0, .int .i64 0, .slice none 0 0] 24
  have bF : Below w.heap.size w (((w.alloc (.cells #[.int .i64 0, .int .i64 1, .int .i64 1, .int .i64 1, .int .i64 1, .int .i64 1, .int .i64 0, .int .i64 1, .int .i64 1, .int .i64 1, .slice (some ⟨w.heap.size + 1 + 1, 0, none⟩) 1 1] 24)).alloc (.cells #[.int .i64 1] 3)).alloc (.cells #[.slice (some ⟨w.heap.size + 1, 0, none⟩) 1 1] 70)) := (by repeat (first | exact Below.refl _ _ | assumption | apply below_drewN' | apply Below.drew | refine Below.alloc ?_ (by first | omega | (simp; done) | (simp; omega)) _ | refine Below.setCell ?_ (by first | omega | (simp; done) | (simp; omega)) _))
  have h0 := ((Blk.new w #[.int .i64 0, .int .i64 1, .int .i64 1, .int .i64 1, .int .i64 1, .int .i64 1, .int .i64 0, .int .i64 1, .int .i64 1, .int .i64 1, .slice (some ⟨w.heap.size + 1 + 1, 0, none⟩) 1 1] 24).alloc (.cells #[.int .i64 1] 3)).alloc (.cells #[.slice (some ⟨w.heap.size + 1, 0, none⟩) 1 1] 70)
  have h1 := (Blk.new2 w (.cells #[.int .i64 0, .int .i64 1, .int .i64 1, .int .i64 1, .int .i64 1, .int .i64 1, .int .i64 0, .int .i64 1, .int .i64 1, .int .i64 1, .slice (some ⟨w.heap.size + 1 + 1, 0, none⟩) 1 1] 24) #[.int .i64 1] 3).alloc (.cells #[.slice (some ⟨w.heap.size + 1, 0, none⟩) 1 1] 70)
  have h2 := Blk.new2 (w.alloc (.cells #[.int .i64 0, .int .i64 1, .int .i64 1, .int .i64 1, .int .i64 1, .int .i64 1, .int .i64 0, .int .i64 1, .int .i64 1, .int .i64 1, .slice (some ⟨w.heap.size + 1 + 1, 0, none⟩) 1 1] 24)) (.cells #[.int .i64 1] 3) #[.slice (some ⟨w.heap.size + 1, 0, none⟩) 1 1] 70
  rw [World.size_alloc] at h2
  go_enter Try.func25, Try.ntmps25
  go_wp2
  generalize (((w.alloc (.cells #[.int .i64 0, .int .i64 1, .int .i64 1, .int .i64 1, .int .i64 1, .int .i64 1, .int .i64 0, .int .i64 1, .int .i64 1, .int .i64 1, .slice (some ⟨w.heap.size + 1 + 1, 0, none⟩) 1 1] 24)).alloc (.cells #[.int .i64 1] 3)).alloc (.cells #[.slice (some ⟨w.heap.size + 1, 0, none⟩) 1 1] 70)) = WF at *
  have z0 := h0.cell 0 (v := .int .i64 0) rfl
  have z1 := h0.cell 1 (v := .int .i64 1) rfl
  have z2 := h0.cell 2 (v := .int .i64 1) rfl
  have z3 := h0.cell 3 (v := .int .i64 1) rfl
  have z4 := h0.cell 4 (v := .int .i64 1) rfl
  have z5 := h0.cell 5 (v := .int .i64 1) rfl
  have z6 := h0.cell 6 (v := .int .i64 0) rfl
  have z7 := h0.cell 7 (v := .int .i64 1) rfl
  have z8 := h0.cell 8 (v := .int .i64 1) rfl
  have z9 := h0.cell 9 (v := .int .i64 1) rfl
  have z10 := h0.cell 10 (v := .slice (some ⟨w.heap.size + 1 + 1, 0, none⟩) 1 1) rfl
  refine bodyPost_ret (v := .agg #[.int .i64 0, .int .i64 1, .int .i64 1, .int .i64 1, .int .i64 1, .int .i64 1, .int .i64 0, .int .i64 1, .int .i64 1, .int .i64 1, .slice (some ⟨w.heap.size + 1 + 1, 0, none⟩) 1 1]) (by simp [results, Try.results25, go_sem, z0, z1, z2, z3, z4, z5, z6, z7, z8, z9, z10]) rfl ⟨_, rfl, RG.one h1 h2, bF⟩

theorem small_B : smallC.B := by constructor <;> decide
theorem small_may : mayC smallC [[1]] = true := by decide
theorem none_may : mayC ⟨0, 0, 0, 0, 0, 0, 0, 0, 0, 0⟩ [] = false := by decide
theorem small_payload (A : Option Addr) (n c : Nat) (w : World) : Calls Try.prog 24 #[.agg #[.int .i64 0, .int .i64 1, .int .i64 1, .int .i64 1, .int .i64 1, .int .i64 1, .int .i64 0, .int .i64 1, .int .i64 1, .int .i64 1, .slice A n c]] w fun e w' => e = .returned (.int .i64 38) ∧ Below w.heap.size w w' := by
  exact lay_payload smallC A n c w small_B
theorem small_slots (A : Option Addr) (n c : Nat) (w : World) : Calls Try.prog 75 #[.agg #[.int .i64 0, .int .i64 1, .int .i64 1, .int .i64 1, .int .i64 1, .int .i64 1, .int .i64 0, .int .i64 1, .int .i64 1, .int .i64 1, .slice A n c]] w fun e w' => e = .returned (.int .i64 2) ∧ Below w.heap.size w w' := by
  exact lay_slots smallC A n c w small_B
theorem small_of (A : Option Addr) (w : World) (h : RG w A 1 1 [[1]]) : Calls Try.prog 9 #[.agg #[.int .i64 0, .int .i64 1, .int .i64 1, .int .i64 1, .int .i64 1, .int .i64 1, .int .i64 0, .int .i64 1, .int .i64 1, .int .i64 1, .slice A 1 1]] w fun e w' => ∃ B k, e = .returned (.tuple #[.agg #[.int .i64 0, .int .i64 1, .int .i64 1, .int .i64 1, .int .i64 1, .int .i64 1, .int .i64 0, .int .i64 1, .int .i64 1, .int .i64 1, .slice (some B) 1 k], .int .i64 0]) ∧ Below w.heap.size w w' := lay_of smallC A 1 1 [[1]] w h small_may
theorem none_no (w : World) : Calls Try.prog 26 #[.agg #[.int .i64 0, .int .i64 0, .int .i64 0, .int .i64 0, .int .i64 0, .int .i64 0, .int .i64 0, .int .i64 0, .int .i64 0, .int .i64 0, .slice none 0 0]] w fun e w' => e = .returned (.bool false) ∧ Below w.heap.size w w' := lay_may ⟨0, 0, 0, 0, 0, 0, 0, 0, 0, 0⟩ none 0 0 [] w (RG.none_ w)
end Go.Proofs.Ytjpgiohdaadieaa
/- Contracts of package lay: areas. -/
namespace Go.Proofs.Ytjpgiohdaadieaa
open Go.ChangeShapes Go.WideShapes Go.ChangeAt Go.RowKit
open Go.ChangeMaps (open_string shut_string)
set_option linter.unusedVariables false
set_option linter.unusedSimpArgs false
set_option maxRecDepth 100000

set_option maxHeartbeats 1000000 in
set_option maxRecDepth 100000 in
theorem lay_area (x : Cfg) (A : Option Addr) (n c : Nat) (f i l : Int) (w : World) (h : x.B) (f0 : 0 ≤ f) (f1 : f ≤ 1000000) (i0 : 0 ≤ i) (i1 : i ≤ 1000) (l0 : 1 ≤ l) (l1 : l ≤ 10000) :
    Calls Try.prog 51 #[.agg #[.int .i64 x.h, .int .i64 x.z, .int .i64 x.b, .int .i64 x.r, .int .i64 x.d, .int .i64 x.e, .int .i64 x.s, .int .i64 x.p, .int .i64 x.q, .int .i64 x.t, .slice A n c], .int .i64 f, .int .i64 i, .int .i64 l] w fun e w' => e = .returned (.agg #[.int .i64 (f + i * cellsC x l), .int .i64 (cellsC x l)]) ∧ Below w.heap.size w w' := by
  have HC := Lib.hid (fun w => lay_cells x A n c l w h l0 (by omega))
  have r := cellsC_range h l l0
  have r2 : 0 ≤ i * cellsC x l := Int.mul_nonneg (by omega) (by omega)
  have r3 : i * cellsC x l ≤ 1000 * 10000 := Int.mul_le_mul (by omega) (by omega) (by omega) (by omega)
  clear h
  generalize cellsC x l = k at *
  have w1 : IntKind.i64.wrap (i * k) = i * k := IntWalk.i64_in _ (by omega)
  have w2 : IntKind.i64.wrap (f + i * k) = f + i * k := IntWalk.i64_in _ (by omega)
  have bb : Below w.heap.size w ((w.alloc (.cells #[.int .i64 x.h, .int .i64 x.z, .int .i64 x.b, .int .i64 x.r, .int .i64 x.d, .int .i64 x.e, .int .i64 x.s, .int .i64 x.p, .int .i64 x.q, .int .i64 x.t, .slice A n c] 28)).alloc (.cells #[.int .i64 0, .int .i64 0] 64)) := (by repeat (first | exact Below.refl _ _ | assumption | apply below_drewN' | apply Below.drew | refine Below.alloc ?_ (by first | omega | (simp; done) | (simp; omega)) _ | refine Below.setCell ?_ (by first | omega | (simp; done) | (simp; omega)) _))
  have hr0 := Blk.new2 w (.cells #[.int .i64 x.h, .int .i64 x.z, .int .i64 x.b, .int .i64 x.r, .int .i64 x.d, .int .i64 x.e, .int .i64 x.s, .int .i64 x.p, .int .i64 x.q, .int .i64 x.t, .slice A n c] 28) #[.int .i64 0, .int .i64 0] 64
  go_enter Try.func51, Try.ntmps51
  go_wp2_with fail
  refine (HC.out _).mono ?_
  rintro e w3 ⟨rfl, hb⟩
  have hr := hr0.below hb hr0.lt
  have b3 := bnext bb hb
  have c0 := hr.cell 0 (v := .int .i64 0) rfl
  have c1 := hr.cell 1 (v := .int .i64 0) rfl
  have g0 := hr.fz 0
  have g1 := hr.fz 1
  have hf := (hr.set 0 (.int .i64 (f + i * k))).set 1 (.int .i64 k)
  have hlt := hr.lt
  clear hr0 bb hb hr
  go_wp2
  have bF : Below w.heap.size w ((w3.setCell ⟨w.heap.size + 1, 0, none⟩ (.int .i64 (f + i * k))).setCell ⟨w.heap.size + 1, 1, none⟩ (.int .i64 k)) := (by repeat (first | exact Below.refl _ _ | assumption | apply below_drewN' | apply Below.drew | refine Below.alloc ?_ (by first | omega | (simp; done) | (simp; omega)) _ | refine Below.setCell ?_ (by first | omega | (simp; done) | (simp; omega)) _))
  generalize (w3.setCell ⟨w.heap.size + 1, 0, none⟩ (.int .i64 (f + i * k))).setCell ⟨w.heap.size + 1, 1, none⟩ (.int .i64 k) = WF at *
  have z0 := hf.cell 0 (v := .int .i64 (f + i * k)) rfl
  have z1 := hf.cell 1 (v := .int .i64 k) rfl
  refine bodyPost_ret (v := .agg #[.int .i64 (f + i * k), .int .i64 (k)]) (by simp [results, Try.results51, go_sem, z0, z1]) rfl ⟨rfl, bF⟩
end Go.Proofs.Ytjpgiohdaadieaa
/- Contracts of package lay: whole checkpoints. -/
namespace Go.Proofs.Ytjpgiohdaadieaa
open Go.ChangeShapes Go.WideShapes Go.ChangeAt Go.RowKit
open Go.ChangeMaps (open_string shut_string)
set_option linter.unusedVariables false
set_option linter.unusedSimpArgs false
set_option maxRecDepth 100000

end Go.Proofs.Ytjpgiohdaadieaa
/- Chapter 13's checkpoints and batches, in plain numbers. -/
namespace Go.Proofs.Ytjpgiohdaadieaa
open Go.ChangeShapes Go.WideShapes Go.ChangeAt Go.RowKit
open Go.ChangeMaps (open_string shut_string)
set_option linter.unusedVariables false
set_option linter.unusedSimpArgs false
set_option maxRecDepth 100000

/-- Where a whole checkpoint, a difference, a checkpoint lies: its first cell and its number of cells. -/
def fullC (x : Cfg) (q : Int) : Int × Int := (fullsC x + (q / x.p % 2) * cellsC x (fullLenC x), cellsC x (fullLenC x))
def deltaC (x : Cfg) (q : Int) : Int × Int := if q % x.p = 0 then (0, 0) else (deltasC x + (q / x.p % 2 * (x.p - 1) + q % x.p - 1) * cellsC x (deltaLenC x), cellsC x (deltaLenC x))
def checkC (x : Cfg) (q : Int) : Int × Int := if q % x.p = 0 then fullC x q else deltaC x q

theorem check_full {x : Cfg} {q : Int} (h : q % x.p = 0) : checkC x q = fullC x q := if_pos h
theorem check_delta {x : Cfg} {q : Int} (h : q % x.p ≠ 0) : checkC x q = deltaC x q := if_neg h
/-- Which of the differences. -/
theorem delta_no {x : Cfg} (hx : x.B) {q : Int} (h : q % x.p ≠ 0) : 0 ≤ q / x.p % 2 * (x.p - 1) + q % x.p - 1 ∧ q / x.p % 2 * (x.p - 1) + q % x.p - 1 ≤ 2 * (x.p - 1) - 1 := by
  have hp := hx.p
  have h1 := Int.emod_nonneg q (show x.p ≠ 0 by omega)
  have h2 := Int.emod_lt_of_pos q (show 0 < x.p by omega)
  have h3 : q / x.p % 2 = 0 ∨ q / x.p % 2 = 1 := by omega
  rcases h3 with h3 | h3 <;> rw [h3] <;> omega
theorem delta_lt {x : Cfg} (hx : x.B) {q : Int} (h : q % x.p ≠ 0) : deltasC x ≤ (deltaC x q).1 ∧ (deltaC x q).1 + (deltaC x q).2 ≤ fullsC x := by
  have a := delta_no hx h
  have b := deltaLenC_range hx
  have c := cellsC_range hx (deltaLenC x) b.1
  rw [deltaC, if_neg h]
  unfold fullsC
  generalize q / x.p % 2 * (x.p - 1) + q % x.p - 1 = y at *
  generalize cellsC x (deltaLenC x) = m at *
  have d : 0 ≤ y * m := Int.mul_nonneg a.1 (by omega)
  have e : (y + 1) * m ≤ (2 * (x.p - 1)) * m := Int.mul_le_mul_of_nonneg_right (by omega) (by omega)
  rw [Int.add_mul, Int.one_mul] at e
  refine ⟨?_, ?_⟩ <;> simp only <;> omega
theorem full_ge {x : Cfg} (hx : x.B) (q : Int) : fullsC x ≤ (fullC x q).1 ∧ (fullC x q).1 + (fullC x q).2 ≤ bucketsC x := by
  have b := fullLenC_range hx
  have c := cellsC_range hx (fullLenC x) b.1
  have h3 : q / x.p % 2 = 0 ∨ q / x.p % 2 = 1 := by omega
  unfold bucketsC fullC
  rcases h3 with h3 | h3 <;> rw [h3] <;> simp only <;> omega
theorem delta_ne_full {x : Cfg} (hx : x.B) {q : Int} (h : q % x.p ≠ 0) (r : Int) : deltaC x q ≠ fullC x r := by
  have a := delta_lt hx h
  have b := full_ge hx r
  have c := cellsC_range hx (deltaLenC x) (deltaLenC_range hx).1
  have e : (deltaC x q).2 = cellsC x (deltaLenC x) := by rw [deltaC, if_neg h]
  intro f
  have f1 : (deltaC x q).1 = (fullC x r).1 := by rw [f]
  omega
theorem div_add {q p : Int} (hp : 1 ≤ p) (k : Int) : (q + k * p) / p = q / p + k ∧ (q + k * p) % p = q % p :=
  ⟨Int.add_mul_ediv_right _ _ (by omega), Int.add_mul_emod_self_right _ _ _⟩
theorem full_2p {x : Cfg} (hx : x.B) (q : Int) : fullC x (q + 2 * x.p) = fullC x q := by
  have hp := hx.p
  have e : (q / x.p + 2) % 2 = q / x.p % 2 := by omega
  rw [fullC, fullC, (div_add (q := q) hp.1 2).1, e]
theorem delta_2p {x : Cfg} (hx : x.B) (q : Int) : deltaC x (q + 2 * x.p) = deltaC x q := by
  have hp := hx.p
  have e : (q / x.p + 2) % 2 = q / x.p % 2 := by omega
  rw [deltaC, deltaC, (div_add (q := q) hp.1 2).1, (div_add (q := q) hp.1 2).2, e]
theorem check_2p {x : Cfg} (hx : x.B) (q : Int) : checkC x (q + 2 * x.p) = checkC x q := by
  have hp := hx.p
  rw [checkC, checkC, full_2p hx, delta_2p hx, (div_add (q := q) hp.1 2).2]
theorem full_p {x : Cfg} (hx : x.B) (q : Int) : fullC x q ≠ fullC x (q + x.p) := by
  have hp := hx.p
  have c := cellsC_range hx (fullLenC x) (fullLenC_range hx).1
  have d := (div_add (q := q) hp.1 1).1
  rw [Int.one_mul] at d
  intro f
  have f1 : (fullC x q).1 = (fullC x (q + x.p)).1 := by rw [f]
  unfold fullC at f1
  rw [d] at f1
  have h3 : q / x.p % 2 = 0 ∧ (q / x.p + 1) % 2 = 1 ∨ q / x.p % 2 = 1 ∧ (q / x.p + 1) % 2 = 0 := by omega
  rcases h3 with ⟨a, b⟩ | ⟨a, b⟩ <;> rw [a, b] at f1 <;> simp only at f1 <;> omega

/-- How many whole checkpoints stand among j from s on. -/
def wholeC (p s j : Int) : Int := (s + j + p - 1) / p - (s + p - 1) / p
theorem whole_zero (p s : Int) : wholeC p s 0 = 0 := by unfold wholeC; rw [Int.add_zero]; omega
theorem whole_next {p : Int} (h1 : 1 ≤ p) (h2 : p ≤ 8) (s j : Int) : wholeC p s (j + 1) = wholeC p s j + if (s + j) % p = 0 then 1 else 0 := by
  have hh : p = 1 ∨ p = 2 ∨ p = 3 ∨ p = 4 ∨ p = 5 ∨ p = 6 ∨ p = 7 ∨ p = 8 := by omega
  unfold wholeC
  rcases hh with rfl | rfl | rfl | rfl | rfl | rfl | rfl | rfl <;> split <;> omega
theorem whole_all {p : Int} (h1 : 1 ≤ p) (s : Int) : wholeC p s p = 1 := by
  have d := (div_add (q := s + p - 1) h1 1).1
  rw [Int.one_mul] at d
  unfold wholeC
  rw [show s + p + p - 1 = s + p - 1 + p by omega, d]
  omega

/-- What the batches from -1 on sum up to, ahead of the i-th. -/
def accC (x : Cfg) (i : Int) : Int := if i ≤ 0 then 0 else if i ≤ x.r then i * x.d else x.r * x.d + x.e
theorem acc_next {x : Cfg} (hx : x.B) {i : Int} (h : -1 ≤ i) : accC x (i + 1) = accC x i + batchC x i := by
  have hr := hx.r
  unfold accC batchC
  by_cases h0 : i < 0
  · rw [if_pos (by omega), if_pos (by omega), if_neg (by omega), if_neg (by omega)]; rfl
  · by_cases h1 : i < x.r
    · rw [if_neg (by omega), if_pos (by omega), if_pos (show 0 ≤ i ∧ i < x.r by omega), Int.add_mul, Int.one_mul]
      by_cases h2 : i ≤ 0
      · have : i = 0 := by omega
        subst this
        rw [if_pos (by omega), Int.zero_mul]
      · rw [if_neg h2, if_pos (by omega)]
    · by_cases h2 : i = x.r
      · subst h2
        rw [if_neg (by omega), if_neg (by omega), if_neg (by omega), if_pos (by omega), if_neg (by omega), if_pos rfl]
      · rw [if_neg (by omega), if_neg (by omega), if_neg (by omega), if_neg (by omega), if_neg (by omega), if_neg h2, Int.add_zero]
theorem acc_all {x : Cfg} (hx : x.B) : accC x (x.r + 2) = slotsC x := by
  have hr := hx.r
  unfold accC slotsC
  rw [if_neg (by omega), if_neg (by omega)]
theorem batch_last {x : Cfg} : batchC x x.r = x.e := by
  unfold batchC
  rw [if_neg (by omega), if_pos rfl]
theorem delta_full_1 {x : Cfg} (hx : x.B) {q : Int} (h : q % x.p ≠ 0) (r : Int) : (deltaC x q).1 ≠ (fullC x r).1 := by
  have a := delta_lt hx h
  have b := full_ge hx r
  have c := cellsC_range hx (deltaLenC x) (deltaLenC_range hx).1
  have e : (deltaC x q).2 = cellsC x (deltaLenC x) := by rw [deltaC, if_neg h]
  omega
theorem full_p_1 {x : Cfg} (hx : x.B) (q : Int) : (fullC x q).1 ≠ (fullC x (q + x.p)).1 := by
  intro h
  exact full_p hx q (Prod.ext h rfl)
theorem acc_range {x : Cfg} (hx : x.B) (i : Int) : 0 ≤ accC x i ∧ accC x i ≤ 1000 := by
  have hr := hx.r
  have hd := hx.d
  have he := hx.e
  unfold accC
  split
  · omega
  · split
    · have a : 0 ≤ i * x.d := Int.mul_nonneg (by omega) (by omega)
      have b : i * x.d ≤ 4 * 8 := Int.mul_le_mul (by omega) (by omega) (by omega) (by omega)
      omega
    · have a : 0 ≤ x.r * x.d := Int.mul_nonneg (by omega) (by omega)
      have b : x.r * x.d ≤ 4 * 8 := Int.mul_le_mul (by omega) (by omega) (by omega) (by omega)
      omega
theorem batch_range {x : Cfg} (hx : x.B) (i : Int) : 0 ≤ batchC x i ∧ batchC x i ≤ 100 := by
  have hd := hx.d
  have he := hx.e
  unfold batchC
  split
  · omega
  · split <;> omega
theorem whole_range {p : Int} (h1 : 1 ≤ p) (h2 : p ≤ 8) (s j : Int) (j0 : 0 ≤ j) (j1 : j ≤ 8) : 0 ≤ wholeC p s j ∧ wholeC p s j ≤ 100 := by
  have hh : p = 1 ∨ p = 2 ∨ p = 3 ∨ p = 4 ∨ p = 5 ∨ p = 6 ∨ p = 7 ∨ p = 8 := by omega
  unfold wholeC
  rcases hh with rfl | rfl | rfl | rfl | rfl | rfl | rfl | rfl <;> omega
end Go.Proofs.Ytjpgiohdaadieaa
/- Contracts of package lay: differences, checkpoints, a bucket's cell. -/
namespace Go.Proofs.Ytjpgiohdaadieaa
open Go.ChangeShapes Go.WideShapes Go.ChangeAt Go.RowKit
open Go.ChangeMaps (open_string shut_string)
set_option linter.unusedVariables false
set_option linter.unusedSimpArgs false
set_option maxRecDepth 100000

end Go.Proofs.Ytjpgiohdaadieaa
/- Contracts of package lay: logs of slots, logs of commands; sums of operations. -/
namespace Go.Proofs.Ytjpgiohdaadieaa
open Go.ChangeShapes Go.WideShapes Go.ChangeAt Go.RowKit
open Go.ChangeMaps (open_string shut_string)
set_option linter.unusedVariables false
set_option linter.unusedSimpArgs false
set_option maxRecDepth 100000

/-- The log of a slot; an epoch's log of commands. -/
def logC (x : Cfg) (i : Int) : Int × Int := if inR i 0 (slotsC x - 1) = true then (2 + i * cellsC x 12, cellsC x 12) else (0, 0)
def clogC (x : Cfg) (q : Int) : Int × Int := (clogsC x + q % 2 * cellsC x (clogLenC x), cellsC x (clogLenC x))

set_option maxHeartbeats 1000000 in
set_option maxRecDepth 100000 in
theorem lay_clog (x : Cfg) (A : Option Addr) (n c : Nat) (q : Int) (w : World) (h : x.B) (q0 : 0 ≤ q) (q1 : q ≤ 4503599627370496) :
    Calls Try.prog 23 #[.agg #[.int .i64 x.h, .int .i64 x.z, .int .i64 x.b, .int .i64 x.r, .int .i64 x.d, .int .i64 x.e, .int .i64 x.s, .int .i64 x.p, .int .i64 x.q, .int .i64 x.t, .slice A n c], .int .i64 q] w fun e w' => e = .returned (.agg #[.int .i64 ((clogC x q).1), .int .i64 ((clogC x q).2)]) ∧ Below w.heap.size w w' := by
  have HS := Lib.hid (fun w => lay_clogs x A n c w h)
  have HL := Lib.hid (fun w => lay_cloglen x A n c w h)
  have r := clogsC_range h
  have r1 := clogLenC_range h
  have e2 : q.tmod 2 = q % 2 := Int.tmod_eq_emod_of_nonneg q0
  have m0 : 0 ≤ q % 2 ∧ q % 2 ≤ 1 := by omega
  have HA := Lib.hid (fun w => lay_area x A n c (clogsC x) (q % 2) (clogLenC x) w h (by omega) (by omega) (by omega) (by omega) (by omega) (by omega))
  unfold clogC
  clear h
  generalize hk : cellsC x (clogLenC x) = k at *
  clear hk
  generalize clogLenC x = m at *
  generalize clogsC x = s at *
  generalize q % 2 = r2 at *
  have w2 : IntKind.i64.wrap r2 = r2 := IntWalk.i64_in _ (by omega)
  have bb : Below w.heap.size w ((w.alloc (.cells #[.int .i64 x.h, .int .i64 x.z, .int .i64 x.b, .int .i64 x.r, .int .i64 x.d, .int .i64 x.e, .int .i64 x.s, .int .i64 x.p, .int .i64 x.q, .int .i64 x.t, .slice A n c] 28)).alloc (.cells #[.int .i64 0, .int .i64 0] 64)) := (by repeat (first | exact Below.refl _ _ | assumption | apply below_drewN' | apply Below.drew | refine Below.alloc ?_ (by first | omega | (simp; done) | (simp; omega)) _ | refine Below.setCell ?_ (by first | omega | (simp; done) | (simp; omega)) _))
  have hr := Blk.new2 w (.cells #[.int .i64 x.h, .int .i64 x.z, .int .i64 x.b, .int .i64 x.r, .int .i64 x.d, .int .i64 x.e, .int .i64 x.s, .int .i64 x.p, .int .i64 x.q, .int .i64 x.t, .slice A n c] 28) #[.int .i64 0, .int .i64 0] 64
  have hX := (Blk.new w #[.int .i64 x.h, .int .i64 x.z, .int .i64 x.b, .int .i64 x.r, .int .i64 x.d, .int .i64 x.e, .int .i64 x.s, .int .i64 x.p, .int .i64 x.q, .int .i64 x.t, .slice A n c] 28).alloc (.cells #[.int .i64 0, .int .i64 0] 64)
  go_enter Try.func23, Try.ntmps23
  go_wp2_with fail
  generalize (w.alloc (.cells #[.int .i64 x.h, .int .i64 x.z, .int .i64 x.b, .int .i64 x.r, .int .i64 x.d, .int .i64 x.e, .int .i64 x.s, .int .i64 x.p, .int .i64 x.q, .int .i64 x.t, .slice A n c] 28)).alloc (.cells #[.int .i64 0, .int .i64 0] 64) = W1 at *
  have keep := fun {w' w'' : World} (h : Blk w' w.heap.size #[.int .i64 x.h, .int .i64 x.z, .int .i64 x.b, .int .i64 x.r, .int .i64 x.d, .int .i64 x.e, .int .i64 x.s, .int .i64 x.p, .int .i64 x.q, .int .i64 x.t, .slice A n c] 28 ∧ (∃ u v, Blk w' (w.heap.size + 1) #[u, v] 64) ∧ Below w.heap.size w w') (hb : Below w'.heap.size w' w'') => (⟨h.1.below hb h.1.lt, (let ⟨u, v, h2⟩ := h.2.1; ⟨u, v, h2.below hb h2.lt⟩), bnext h.2.2 hb⟩ : Blk w'' w.heap.size #[.int .i64 x.h, .int .i64 x.z, .int .i64 x.b, .int .i64 x.r, .int .i64 x.d, .int .i64 x.e, .int .i64 x.s, .int .i64 x.p, .int .i64 x.q, .int .i64 x.t, .slice A n c] 28 ∧ (∃ u v, Blk w'' (w.heap.size + 1) #[u, v] 64) ∧ Below w.heap.size w w'')
  have hvo := Free.val
  refine Free.wp_factsW (M := [0, 0, 2, 0, 8, 0, 38, 127, 255]) (D := [[], [], [(1, 9)], [], [(3, 11)], [], [(5, 13)], [(0, 8), (2, 10), (4, 12), (6, 14)], [(7, 15)]]) (outs := [8]) (soles := [8]) (E := [(0, some 8, false), (1, some 9, false), (2, some 10, false), (3, some 11, false), (4, some 12, false), (5, some 13, false), (6, some 14, false), (7, some 15, false), (8, none, true)]) (N := 16) (S := (fun w' => Blk w' w.heap.size #[.int .i64 x.h, .int .i64 x.z, .int .i64 x.b, .int .i64 x.r, .int .i64 x.d, .int .i64 x.e, .int .i64 x.s, .int .i64 x.p, .int .i64 x.q, .int .i64 x.t, .slice A n c] 28 ∧ (∃ u v, Blk w' (w.heap.size + 1) #[u, v] 64) ∧ Below w.heap.size w w')) [Free.Fact.is ?_, Free.Fact.is ?_, Free.Fact.is ?_, Free.Fact.is ?_, Free.Fact.is ?_, Free.Fact.is ?_, Free.Fact.is ?_, Free.Fact.is ?_, Free.Fact.blk (w.heap.size + 1) #[.int .i64 (s + r2 * k), .int .i64 k] 64] (by kernel_rfl) (by kernel_rfl) rfl (⟨hX.drew, ⟨_, _, hr.drew⟩, bb.drew⟩) ?_ ?_
  rotate_left 8
  refine Free.cons ?_ ?_
  · intro w' hS; intro K hK; have hX := hS.1; have hXlt := hX.lt; have bR := Below.refl w'.heap.size w'; have a0 := (hX.below bR hXlt).cell 0 (v := .int .i64 x.h) rfl; have a1 := (hX.below bR hXlt).cell 1 (v := .int .i64 x.z) rfl; have a2 := (hX.below bR hXlt).cell 2 (v := .int .i64 x.b) rfl; have a3 := (hX.below bR hXlt).cell 3 (v := .int .i64 x.r) rfl; have a4 := (hX.below bR hXlt).cell 4 (v := .int .i64 x.d) rfl; have a5 := (hX.below bR hXlt).cell 5 (v := .int .i64 x.e) rfl; have a6 := (hX.below bR hXlt).cell 6 (v := .int .i64 x.s) rfl; have a7 := (hX.below bR hXlt).cell 7 (v := .int .i64 x.p) rfl; have a8 := (hX.below bR hXlt).cell 8 (v := .int .i64 x.q) rfl; have a9 := (hX.below bR hXlt).cell 9 (v := .int .i64 x.t) rfl; have a10 := (hX.below bR hXlt).cell 10 (v := .slice A n c) rfl; first | (refine Free.run_yes (by rfl) ?_; go_simp; refine Free.o hK hS ?_; exact rfl) | (refine Free.run_no (by rfl) (Free.o hK hS ?_); exact rfl)
  refine Free.cons ?_ ?_
  · intro w' hS; intro K hK; have hX := hS.1; have hXlt := hX.lt; have bR := Below.refl w'.heap.size w'; have a0 := (hX.below bR hXlt).cell 0 (v := .int .i64 x.h) rfl; have a1 := (hX.below bR hXlt).cell 1 (v := .int .i64 x.z) rfl; have a2 := (hX.below bR hXlt).cell 2 (v := .int .i64 x.b) rfl; have a3 := (hX.below bR hXlt).cell 3 (v := .int .i64 x.r) rfl; have a4 := (hX.below bR hXlt).cell 4 (v := .int .i64 x.d) rfl; have a5 := (hX.below bR hXlt).cell 5 (v := .int .i64 x.e) rfl; have a6 := (hX.below bR hXlt).cell 6 (v := .int .i64 x.s) rfl; have a7 := (hX.below bR hXlt).cell 7 (v := .int .i64 x.p) rfl; have a8 := (hX.below bR hXlt).cell 8 (v := .int .i64 x.q) rfl; have a9 := (hX.below bR hXlt).cell 9 (v := .int .i64 x.t) rfl; have a10 := (hX.below bR hXlt).cell 10 (v := .slice A n c) rfl; first | (refine Free.run_yes (by rfl) ?_; go_simp; refine Free.o hK hS ?_; exact rfl) | (refine Free.run_no (by rfl) (Free.o hK hS ?_); exact rfl)
  refine Free.cons ?_ ?_
  · intro w' hS; (rintro _ rfl); intro K hK; have hX := hS.1; have hXlt := hX.lt; have bR := Below.refl w'.heap.size w'; have a0 := (hX.below bR hXlt).cell 0 (v := .int .i64 x.h) rfl; have a1 := (hX.below bR hXlt).cell 1 (v := .int .i64 x.z) rfl; have a2 := (hX.below bR hXlt).cell 2 (v := .int .i64 x.b) rfl; have a3 := (hX.below bR hXlt).cell 3 (v := .int .i64 x.r) rfl; have a4 := (hX.below bR hXlt).cell 4 (v := .int .i64 x.d) rfl; have a5 := (hX.below bR hXlt).cell 5 (v := .int .i64 x.e) rfl; have a6 := (hX.below bR hXlt).cell 6 (v := .int .i64 x.s) rfl; have a7 := (hX.below bR hXlt).cell 7 (v := .int .i64 x.p) rfl; have a8 := (hX.below bR hXlt).cell 8 (v := .int .i64 x.q) rfl; have a9 := (hX.below bR hXlt).cell 9 (v := .int .i64 x.t) rfl; have a10 := (hX.below bR hXlt).cell 10 (v := .slice A n c) rfl; first | (refine Free.run_yes (by rfl) ?_; go_simp; (first | (go_at_call 52; refine (HS.out _).mono ?_; rintro e w' ⟨rfl, hb⟩) | (go_at_call 33; refine (HL.out _).mono ?_; rintro e w' ⟨rfl, hb⟩) | (go_at_call 51; refine (HA.out _).mono ?_; rintro e w' ⟨rfl, hb⟩)); go_simp; refine Free.c hK (keep hS hb) hb ?_; exact rfl) | (refine Free.run_no (by rfl) (Free.o hK hS ?_); exact rfl)
  refine Free.cons ?_ ?_
  · intro w' hS; intro K hK; have hX := hS.1; have hXlt := hX.lt; have bR := Below.refl w'.heap.size w'; have a0 := (hX.below bR hXlt).cell 0 (v := .int .i64 x.h) rfl; have a1 := (hX.below bR hXlt).cell 1 (v := .int .i64 x.z) rfl; have a2 := (hX.below bR hXlt).cell 2 (v := .int .i64 x.b) rfl; have a3 := (hX.below bR hXlt).cell 3 (v := .int .i64 x.r) rfl; have a4 := (hX.below bR hXlt).cell 4 (v := .int .i64 x.d) rfl; have a5 := (hX.below bR hXlt).cell 5 (v := .int .i64 x.e) rfl; have a6 := (hX.below bR hXlt).cell 6 (v := .int .i64 x.s) rfl; have a7 := (hX.below bR hXlt).cell 7 (v := .int .i64 x.p) rfl; have a8 := (hX.below bR hXlt).cell 8 (v := .int .i64 x.q) rfl; have a9 := (hX.below bR hXlt).cell 9 (v := .int .i64 x.t) rfl; have a10 := (hX.below bR hXlt).cell 10 (v := .slice A n c) rfl; first | (refine Free.run_yes (by rfl) ?_; go_simp; refine Free.o hK hS ?_; exact rfl) | (refine Free.run_no (by rfl) (Free.o hK hS ?_); exact rfl)
  refine Free.cons ?_ ?_
  · intro w' hS; (rintro _ rfl); intro K hK; have hX := hS.1; have hXlt := hX.lt; have bR := Below.refl w'.heap.size w'; have a0 := (hX.below bR hXlt).cell 0 (v := .int .i64 x.h) rfl; have a1 := (hX.below bR hXlt).cell 1 (v := .int .i64 x.z) rfl; have a2 := (hX.below bR hXlt).cell 2 (v := .int .i64 x.b) rfl; have a3 := (hX.below bR hXlt).cell 3 (v := .int .i64 x.r) rfl; have a4 := (hX.below bR hXlt).cell 4 (v := .int .i64 x.d) rfl; have a5 := (hX.below bR hXlt).cell 5 (v := .int .i64 x.e) rfl; have a6 := (hX.below bR hXlt).cell 6 (v := .int .i64 x.s) rfl; have a7 := (hX.below bR hXlt).cell 7 (v := .int .i64 x.p) rfl; have a8 := (hX.below bR hXlt).cell 8 (v := .int .i64 x.q) rfl; have a9 := (hX.below bR hXlt).cell 9 (v := .int .i64 x.t) rfl; have a10 := (hX.below bR hXlt).cell 10 (v := .slice A n c) rfl; first | (refine Free.run_yes (by rfl) ?_; go_simp; refine Free.o hK hS ?_; exact rfl) | (refine Free.run_no (by rfl) (Free.o hK hS ?_); exact rfl)
  refine Free.cons ?_ ?_
  · intro w' hS; intro K hK; have hX := hS.1; have hXlt := hX.lt; have bR := Below.refl w'.heap.size w'; have a0 := (hX.below bR hXlt).cell 0 (v := .int .i64 x.h) rfl; have a1 := (hX.below bR hXlt).cell 1 (v := .int .i64 x.z) rfl; have a2 := (hX.below bR hXlt).cell 2 (v := .int .i64 x.b) rfl; have a3 := (hX.below bR hXlt).cell 3 (v := .int .i64 x.r) rfl; have a4 := (hX.below bR hXlt).cell 4 (v := .int .i64 x.d) rfl; have a5 := (hX.below bR hXlt).cell 5 (v := .int .i64 x.e) rfl; have a6 := (hX.below bR hXlt).cell 6 (v := .int .i64 x.s) rfl; have a7 := (hX.below bR hXlt).cell 7 (v := .int .i64 x.p) rfl; have a8 := (hX.below bR hXlt).cell 8 (v := .int .i64 x.q) rfl; have a9 := (hX.below bR hXlt).cell 9 (v := .int .i64 x.t) rfl; have a10 := (hX.below bR hXlt).cell 10 (v := .slice A n c) rfl; first | (refine Free.run_yes (by rfl) ?_; go_simp; refine Free.o hK hS ?_; exact rfl) | (refine Free.run_no (by rfl) (Free.o hK hS ?_); exact rfl)
  refine Free.cons ?_ ?_
  · intro w' hS; (rintro _ rfl); intro K hK; have hX := hS.1; have hXlt := hX.lt; have bR := Below.refl w'.heap.size w'; have a0 := (hX.below bR hXlt).cell 0 (v := .int .i64 x.h) rfl; have a1 := (hX.below bR hXlt).cell 1 (v := .int .i64 x.z) rfl; have a2 := (hX.below bR hXlt).cell 2 (v := .int .i64 x.b) rfl; have a3 := (hX.below bR hXlt).cell 3 (v := .int .i64 x.r) rfl; have a4 := (hX.below bR hXlt).cell 4 (v := .int .i64 x.d) rfl; have a5 := (hX.below bR hXlt).cell 5 (v := .int .i64 x.e) rfl; have a6 := (hX.below bR hXlt).cell 6 (v := .int .i64 x.s) rfl; have a7 := (hX.below bR hXlt).cell 7 (v := .int .i64 x.p) rfl; have a8 := (hX.below bR hXlt).cell 8 (v := .int .i64 x.q) rfl; have a9 := (hX.below bR hXlt).cell 9 (v := .int .i64 x.t) rfl; have a10 := (hX.below bR hXlt).cell 10 (v := .slice A n c) rfl; first | (refine Free.run_yes (by rfl) ?_; go_simp; (first | (go_at_call 52; refine (HS.out _).mono ?_; rintro e w' ⟨rfl, hb⟩) | (go_at_call 33; refine (HL.out _).mono ?_; rintro e w' ⟨rfl, hb⟩) | (go_at_call 51; refine (HA.out _).mono ?_; rintro e w' ⟨rfl, hb⟩)); go_simp; refine Free.c hK (keep hS hb) hb ?_; exact rfl) | (refine Free.run_no (by rfl) (Free.o hK hS ?_); exact rfl)
  refine Free.cons ?_ ?_
  · intro w' hS; (rintro _ rfl); (rintro _ rfl); (rintro _ rfl); (rintro _ rfl); intro K hK; have hX := hS.1; have hXlt := hX.lt; have bR := Below.refl w'.heap.size w'; have a0 := (hX.below bR hXlt).cell 0 (v := .int .i64 x.h) rfl; have a1 := (hX.below bR hXlt).cell 1 (v := .int .i64 x.z) rfl; have a2 := (hX.below bR hXlt).cell 2 (v := .int .i64 x.b) rfl; have a3 := (hX.below bR hXlt).cell 3 (v := .int .i64 x.r) rfl; have a4 := (hX.below bR hXlt).cell 4 (v := .int .i64 x.d) rfl; have a5 := (hX.below bR hXlt).cell 5 (v := .int .i64 x.e) rfl; have a6 := (hX.below bR hXlt).cell 6 (v := .int .i64 x.s) rfl; have a7 := (hX.below bR hXlt).cell 7 (v := .int .i64 x.p) rfl; have a8 := (hX.below bR hXlt).cell 8 (v := .int .i64 x.q) rfl; have a9 := (hX.below bR hXlt).cell 9 (v := .int .i64 x.t) rfl; have a10 := (hX.below bR hXlt).cell 10 (v := .slice A n c) rfl; first | (refine Free.run_yes (by rfl) ?_; go_simp; (first | (go_at_call 52; refine (HS.out _).mono ?_; rintro e w' ⟨rfl, hb⟩) | (go_at_call 33; refine (HL.out _).mono ?_; rintro e w' ⟨rfl, hb⟩) | (go_at_call 51; refine (HA.out _).mono ?_; rintro e w' ⟨rfl, hb⟩)); go_simp; refine Free.c hK (keep hS hb) hb ?_; exact rfl) | (refine Free.run_no (by rfl) (Free.o hK hS ?_); exact rfl)
  refine Free.cons ?_ ?_
  · intro w' hS; (rintro _ rfl); intro K hK; have hX := hS.1; have hXlt := hX.lt; have bR := Below.refl w'.heap.size w'; have a0 := (hX.below bR hXlt).cell 0 (v := .int .i64 x.h) rfl; have a1 := (hX.below bR hXlt).cell 1 (v := .int .i64 x.z) rfl; have a2 := (hX.below bR hXlt).cell 2 (v := .int .i64 x.b) rfl; have a3 := (hX.below bR hXlt).cell 3 (v := .int .i64 x.r) rfl; have a4 := (hX.below bR hXlt).cell 4 (v := .int .i64 x.d) rfl; have a5 := (hX.below bR hXlt).cell 5 (v := .int .i64 x.e) rfl; have a6 := (hX.below bR hXlt).cell 6 (v := .int .i64 x.s) rfl; have a7 := (hX.below bR hXlt).cell 7 (v := .int .i64 x.p) rfl; have a8 := (hX.below bR hXlt).cell 8 (v := .int .i64 x.q) rfl; have a9 := (hX.below bR hXlt).cell 9 (v := .int .i64 x.t) rfl; have a10 := (hX.below bR hXlt).cell 10 (v := .slice A n c) rfl; refine Free.run_yes (by rfl) ?_; (obtain ⟨hx1, ⟨u, v, hr⟩, hbl⟩ := hS; have c0 := hr.cell 0 (v := u) rfl; have c1 := hr.cell 1 (v := v) rfl; have g0 := hr.fz 0; have g1 := hr.fz 1; have hf := (hr.set 0 (.int .i64 (s + r2 * k))).set 1 (.int .i64 k); go_simp; refine hK.out _ _ hf ⟨(by repeat (first | assumption | apply Blk.drewN | apply Blk.drew | apply Blk.alloc | refine Blk.other ?_ (by first | omega | (simp; done) | (simp; omega)) _)), ⟨_, _, hf⟩, (by repeat (first | exact Below.refl _ _ | assumption | apply below_drewN' | apply Below.drew | refine Below.alloc ?_ (by first | omega | (simp; done) | (simp; omega)) _ | refine Below.setCell ?_ (by first | omega | (simp; done) | (simp; omega)) _))⟩ (.inl rfl))
  exact Free.nil
  clear hvo
  intro w' hS; intro v0; intro v1; intro v2; intro v3; intro v4; intro v5; intro v6; intro v7; intro v8 h8; (try simp only [Act.put, List.setIfInBounds_toArray, List.set_cons_zero, List.set_cons_succ]); refine Free.toldW_nil ?_
  have hF : Blk w' (w.heap.size + 1) #[.int .i64 (s + r2 * k), .int .i64 k] 64 := h8
  have z0 := hF.cell 0 (v := .int .i64 (s + r2 * k)) rfl
  have z1 := hF.cell 1 (v := .int .i64 k) rfl
  go_wp2
  refine bodyPost_ret (v := .agg #[.int .i64 (s + r2 * k), .int .i64 (k)]) (by simp [results, Try.results23, go_sem, z0, z1]) rfl ⟨rfl, hS.2.2⟩
end Go.Proofs.Ytjpgiohdaadieaa
/- oublaw24.first: small facts. -/
namespace Go.Proofs.Ytjpgiohdaadieaa
open Go.ChangeShapes Go.WideShapes Go.ChangeAt Go.RowKit
open Go.ChangeMaps (open_string shut_string)
set_option linter.unusedVariables false
set_option linter.unusedSimpArgs false
set_option maxRecDepth 100000
open Go.Deep

def first24 : List UInt8 := encGT smallC ⟨3, [⟨7, 1, []⟩]⟩
theorem f24_may : mayG 1 ⟨3, [⟨7, 1, []⟩]⟩ = true := by decide
theorem f24_bad : mayG 1 ⟨-1, []⟩ = false := by decide
theorem f24_len : first24.length = 76 := by decide
theorem f24_4 : first24[4]? = some 3 := by decide
theorem f24_5 : first24[5]? = some 1 := by decide
theorem f24_9 : first24[9]? = some 7 := by decide
theorem f24_zero : decG smallC (List.replicate 76 0) = (⟨0, []⟩, 0) := by
  have := decG_back (x := smallC) (g := ⟨0, []⟩) small_B (by decide) (fun t ht => by cases ht)
  have e : encGT smallC ⟨0, []⟩ = List.replicate 76 0 := by decide
  rw [e] at this
  exact this

theorem RT.one {w : World} {g t : Nat} {B : Option Addr} {m c : Nat} {n k : Int} {V : List ValR} (h : Blk w g #[.int .i64 n, .int .i64 k, .slice B m c] t) (hV : RV w B m c V) : RT w (some ⟨g, 0, none⟩) 1 1 [⟨n, k, V⟩] := by
  refine ⟨rfl, Nat.le_refl _, by unfold maxLen; omega, (fun h => by cases h), fun _ => ⟨g, 0, rfl, fun i x hx => ?_⟩⟩
  have hi : i = 0 := by have := (List.getElem?_eq_some_iff.1 hx).1; simp at this; exact this
  subst hi
  simp at hx
  subst hx
  exact ⟨B, m, c, hV, h.cell 0 rfl, h.cell 1 rfl, h.cell 2 rfl⟩
theorem field_area (u v : Int) (w : World) : (Instr.field 64 (.agg #[.int .i64 u, .int .i64 v]) 1).run Try.prog w = .ok (.int .i64 v) w := by rfl
/-- A pointer to a log without answers, of epoch 0. -/
def LogZ (w : World) (g : Nat) : Prop := ∃ A c, Blk w g #[.int .i64 0, .slice A 0 c] 39
def RLz (w w' : World) : Prop := (∀ g, LogZ w g → LogZ w' g) ∧ (∀ g cs, Blk w g cs 5 → Blk w' g cs 5)
theorem RLz.of_below {w w' : World} (h : Below w.heap.size w w') : RLz w w' := ⟨fun _ ⟨A, c, hb⟩ => ⟨A, c, hb.below h hb.lt⟩, fun _ _ hb => hb.below h hb.lt⟩
def Free.FactR.logZ (N : Nat) : Free.FactR RLz := { f := fun u w => ∃ g, u = .pointer (some ⟨g, 0, none⟩) ∧ N ≤ g ∧ LogZ w g, stab := fun _ _ _ ⟨g, h, h2, h3⟩ hb => ⟨g, h, h2, hb.1 g h3⟩ }
def Free.FactR.zer (N : Nat) : Free.FactR RLz := { f := fun u w => ∃ g, u = .slice (some ⟨g, 0, none⟩) 76 76 ∧ N ≤ g ∧ Blk w g (bcells (List.replicate 76 0)) 5, stab := fun _ _ _ ⟨g, h, h2, h3⟩ hb => ⟨g, h, h2, hb.2 g _ h3⟩ }
def Free.FactR.dcd : Free.FactR RLz := { f := fun u _ => ∃ A c, u = .tuple #[.agg #[.int .i64 0, .slice A 0 c], .int .i64 0], stab := fun _ _ _ h _ => h }
def Free.FactR.dcd1 : Free.FactR RLz := { f := fun u _ => ∃ A c, u = .agg #[.int .i64 0, .slice A 0 c], stab := fun _ _ _ h _ => h }
def Free.FactR.area2 : Free.FactR RLz := { f := fun u _ => ∃ f : Int, u = .agg #[.int .i64 f, .int .i64 2], stab := fun _ _ _ h _ => h }
def Free.Fact.area2 : Free.Fact := ⟨fun u _ => ∃ f : Int, u = .agg #[.int .i64 f, .int .i64 2], fun _ _ _ h _ => h⟩
theorem RLz.store {w : World} {g : Nat} {A2 : Option Addr} {c2 : Nat} (h : Blk w g #[.int .i64 0, .slice A2 0 c2] 39) (A : Option Addr) (c : Nat) : RLz w ((w.setCell ⟨g, 0, none⟩ (.int .i64 0)).setCell ⟨g, 1, none⟩ (.slice A 0 c)) := by
  have hF := (h.set 0 (.int .i64 0)).set 1 (.slice A 0 c)
  constructor
  · rintro g2 ⟨A3, c3, h3⟩
    by_cases e : g2 = g
    · subst e; exact ⟨A, c, hF⟩
    · exact ⟨A3, c3, (h3.other (p := ⟨g, 0, none⟩) e _).other (p := ⟨g, 1, none⟩) e _⟩
  · intro g2 cs h3
    have e : g2 ≠ g := fun e => absurd (Blk.uniq h (e ▸ h3)) (by decide)
    exact (h3.other (p := ⟨g, 0, none⟩) e _).other (p := ⟨g, 1, none⟩) e _
theorem small_encode (A : Option Addr) (n c : Nat) (g t : Nat) (w : World) (h : Blk w g #[.int .i64 7, .int .i64 1, .slice none 0 0] t) :
    Calls Try.prog 13 #[.agg #[.int .i64 0, .int .i64 1, .int .i64 1, .int .i64 1, .int .i64 1, .int .i64 1, .int .i64 0, .int .i64 1, .int .i64 1, .int .i64 1, .slice A n c], .agg #[.int .i64 3, .slice (some ⟨g, 0, none⟩) 1 1]] w fun r w' => ∃ v, r = .returned (.tuple #[v, .int .i64 0]) ∧ OB w' w.heap.size v first24 ∧ Below w.heap.size w w' :=
  clog_encode smallC A n c 3 (some ⟨g, 0, none⟩) 1 1 [⟨7, 1, []⟩] w (RT.one h (RV.none_ w)) small_B
theorem small_decode (B : Option Addr) (m k : Nat) (A : Option Addr) (n c : Nat) (w : World) (h : RB w A n c (List.replicate 76 0)) :
    Calls Try.prog 16 #[.agg #[.int .i64 0, .int .i64 1, .int .i64 1, .int .i64 1, .int .i64 1, .int .i64 1, .int .i64 0, .int .i64 1, .int .i64 1, .int .i64 1, .slice B m k], .slice A n c] w fun r w' => ∃ A' c', r = .returned (.tuple #[.agg #[.int .i64 0, .slice A' 0 c'], .int .i64 0]) ∧ Below w.heap.size w w' := by
  have hn := h.len
  rw [List.length_replicate] at hn
  refine (clog_decode smallC B m k A n c _ w h (by omega) small_B).mono ?_
  rintro r w' ⟨A', m', c', rfl, hR, hb⟩
  rw [f24_zero] at hR ⊢
  obtain rfl : 0 = m' := hR.len
  exact ⟨A', c', rfl, hb⟩
theorem small_clog (A : Option Addr) (n c : Nat) (w : World) : Calls Try.prog 23 #[.agg #[.int .i64 0, .int .i64 1, .int .i64 1, .int .i64 1, .int .i64 1, .int .i64 1, .int .i64 0, .int .i64 1, .int .i64 1, .int .i64 1, .slice A n c], .int .i64 0] w fun e w' => ∃ f, e = .returned (.agg #[.int .i64 f, .int .i64 2]) ∧ Below w.heap.size w w' := by
  refine (lay_clog smallC A n c 0 w small_B (by omega) (by omega)).mono ?_
  rintro e w' ⟨rfl, hb⟩
  exact ⟨_, rfl, hb⟩
theorem small_may24 (A : Option Addr) (n c : Nat) (w : World) : Calls Try.prog 10 #[.agg #[.int .i64 0, .int .i64 1, .int .i64 1, .int .i64 1, .int .i64 1, .int .i64 1, .int .i64 0, .int .i64 1, .int .i64 1, .int .i64 1, .slice A n c], .agg #[.int .i64 (-1), .slice none 0 0]] w fun e w' => e = .returned (.bool false) ∧ Below w.heap.size w w' := by
  have := clog_may smallC A n c (-1) none 0 0 [] w (RT.none_ w)
  rw [show mayG smallC.t ⟨-1, []⟩ = false from f24_bad] at this
  exact this
set_option maxHeartbeats 8000000 in
theorem first24_any (w : World) : Calls Try.prog 7 #[] w fun e w' => e = .returned (.bool true) ∧ Below w.heap.size w w' := by
  have hb1 : ∀ w, (Instr.build 35 #[(0, .int .i64 1)]).run Try.prog w = .ok (.agg #[.int .i64 1, .slice none 0 0]) w := fun w => by kernel_rfl
  have hb2 : ∀ w, (Instr.build 37 #[(0, .int .i64 7), (1, .agg #[.int .i64 1, .slice none 0 0])]).run Try.prog w = .ok (.agg #[.int .i64 7, .int .i64 1, .slice none 0 0]) w := fun w => by kernel_rfl
  go_enter Try.func7, Try.ntmps7
  go_wp2_with fail
  refine (small_any _).mono ?_
  rintro e w1 ⟨A, rfl, hR, b1⟩
  go_wp2_with fail
  refine (small_of A _ hR).mono ?_
  rintro e w2 ⟨B, k, rfl, b2⟩
  have hX := Blk.new w2 #[.int .i64 0, .int .i64 1, .int .i64 1, .int .i64 1, .int .i64 1, .int .i64 1, .int .i64 0, .int .i64 1, .int .i64 1, .int .i64 1, .slice (some B) 1 k] 28
  have bl := (bnext b1 b2).alloc (by have := b1.size; have := b2.size; omega) (.cells #[.int .i64 0, .int .i64 1, .int .i64 1, .int .i64 1, .int .i64 1, .int .i64 1, .int .i64 0, .int .i64 1, .int .i64 1, .int .i64 1, .slice (some B) 1 k] 28)
  have b9 := Below.refl (w2.alloc (.cells #[.int .i64 0, .int .i64 1, .int .i64 1, .int .i64 1, .int .i64 1, .int .i64 1, .int .i64 0, .int .i64 1, .int .i64 1, .int .i64 1, .slice (some B) 1 k] 28)).heap.size (w2.alloc (.cells #[.int .i64 0, .int .i64 1, .int .i64 1, .int .i64 1, .int .i64 1, .int .i64 1, .int .i64 0, .int .i64 1, .int .i64 1, .int .i64 1, .slice (some B) 1 k] 28))
  have hXlt := hX.lt
  have a0 := (hX.below b9 hXlt).cell 0 (v := .int .i64 0) rfl; have a1 := (hX.below b9 hXlt).cell 1 (v := .int .i64 1) rfl; have a2 := (hX.below b9 hXlt).cell 2 (v := .int .i64 1) rfl; have a3 := (hX.below b9 hXlt).cell 3 (v := .int .i64 1) rfl; have a4 := (hX.below b9 hXlt).cell 4 (v := .int .i64 1) rfl; have a5 := (hX.below b9 hXlt).cell 5 (v := .int .i64 1) rfl; have a6 := (hX.below b9 hXlt).cell 6 (v := .int .i64 0) rfl; have a7 := (hX.below b9 hXlt).cell 7 (v := .int .i64 1) rfl; have a8 := (hX.below b9 hXlt).cell 8 (v := .int .i64 1) rfl; have a9 := (hX.below b9 hXlt).cell 9 (v := .int .i64 1) rfl; have a10 := (hX.below b9 hXlt).cell 10 (v := .slice (some B) 1 k) rfl
  have hT := Blk.new (w2.alloc (.cells #[.int .i64 0, .int .i64 1, .int .i64 1, .int .i64 1, .int .i64 1, .int .i64 1, .int .i64 0, .int .i64 1, .int .i64 1, .int .i64 1, .slice (some B) 1 k] 28)) #[.int .i64 7, .int .i64 1, .slice none 0 0] 37
  rw [World.size_alloc] at hT
  have hX2 := hX.alloc (.cells #[.int .i64 7, .int .i64 1, .slice none 0 0] 37)
  have bl2 := bl.alloc bl.size (.cells #[.int .i64 7, .int .i64 1, .slice none 0 0] 37)
  clear hR b1 b2 b9 bl hX
  go_wp2_with fail
  generalize (w2.alloc (.cells #[.int .i64 0, .int .i64 1, .int .i64 1, .int .i64 1, .int .i64 1, .int .i64 1, .int .i64 0, .int .i64 1, .int .i64 1, .int .i64 1, .slice (some B) 1 k] 28)).alloc (.cells #[.int .i64 7, .int .i64 1, .slice none 0 0] 37) = W3 at *
  refine (small_encode (some B) 1 k _ 37 W3 hT).mono ?_
  rintro e w4 ⟨v4, rfl, hO4, b4⟩
  obtain ⟨A4, c4, rfl, hR4⟩ := hO4.sl 76 f24_len
  have hX4 := hX2.below b4 hX2.lt
  have bl4 := Below.next bl2 b4 (Nat.le_refl _)
  clear hX2 bl2 hT hO4 b4 a0 a1 a2 a3 a4 a5 a6 a7 a8 a9 a10 hXlt
  generalize w2.heap.size = G at *
  have hXlt := hX4.lt
  have HC := Lib.hid (fun w => small_clog (some B) 1 k w)
  have HP := Lib.hid (fun w => small_payload (some B) 1 k w)
  have HD := Lib.hid (fun A n c w h => small_decode (some B) 1 k A n c w h)
  have hmk : ∀ w, (Instr.makeSlice 45 (.int .i64 76) (.int .i64 76)).run Try.prog w = .ok (.slice (some ⟨w.heap.size, 0, none⟩) 76 76) (w.alloc (.cells (bcells (List.replicate 76 0)) 5)) := fun w => run_mk w 76 (by omega)
  have hfd := fun u v w => field_area u v w
  have hw76 : IntKind.i64.wrap 76 = 76 := by decide
  have hw77 : IntKind.i64.wrap (2 * 38) = 76 := by decide
  have hR : ∀ {w w' : World}, Below w.heap.size w w' → RLz w w' := fun h => RLz.of_below h
  have hX := hX4
  go_wp2_with fail
  have hvo := Free.val
  refine Free.wp_factsR (R := RLz) (ss := []) (pures := [0, 1, 3, 4, 5, 6, 11, 14]) (M := [0, 0, 2, 6, 0, 22, 62, 126, 255, 511, 1023, 1023, 0, 6143, 16383]) (D := [[], [], [(1, 25)], [(2, 26)], [], [(4, 28)], [(3, 27), (5, 29)], [(6, 30)], [(0, 24), (7, 31)], [(8, 32)], [(9, 23)], [(9, 23)], [], [(12, 5), (10, 33)], [(11, 34)]]) (outs := [12, 14]) (soles := []) (E := [(0, 24, false), (1, 25, false), (2, 26, false), (3, 27, false), (4, 28, false), (5, 29, false), (6, 30, false), (7, 31, false), (8, 32, false), (9, 23, false), (10, 33, false), (11, 34, false), (12, 5, true), (14, 6, true)]) (N := 92) (S := (fun (_ : Nat) w' => Below w4.heap.size w4 w')) [Free.FactR.is ?_, Free.FactR.is ?_, Free.FactR.area2, Free.FactR.is ?_, Free.FactR.is ?_, Free.FactR.is ?_, Free.FactR.is ?_, Free.FactR.zer w4.heap.size, Free.FactR.dcd, Free.FactR.dcd, Free.FactR.dcd1, Free.FactR.is ?_, Free.FactR.logZ w4.heap.size, Free.FactR.any, Free.FactR.is ?_] (by kernel_rfl) (by kernel_rfl) (by kernel_rfl) rfl rfl (by decide) ((Below.refl _ _).drew) ?_ ?_
  rotate_left 8
  refine Free.cons ?_ ?_
  · intro st hag; (obtain rfl : st = 0 := Nat.le_antisymm hag.2 hag.1); intro w' hS; intro K hK; have a0 := (hX.below hS hXlt).cell 0 (v := .int .i64 0) rfl; have a1 := (hX.below hS hXlt).cell 1 (v := .int .i64 1) rfl; have a2 := (hX.below hS hXlt).cell 2 (v := .int .i64 1) rfl; have a3 := (hX.below hS hXlt).cell 3 (v := .int .i64 1) rfl; have a4 := (hX.below hS hXlt).cell 4 (v := .int .i64 1) rfl; have a5 := (hX.below hS hXlt).cell 5 (v := .int .i64 1) rfl; have a6 := (hX.below hS hXlt).cell 6 (v := .int .i64 0) rfl; have a7 := (hX.below hS hXlt).cell 7 (v := .int .i64 1) rfl; have a8 := (hX.below hS hXlt).cell 8 (v := .int .i64 1) rfl; have a9 := (hX.below hS hXlt).cell 9 (v := .int .i64 1) rfl; have a10 := (hX.below hS hXlt).cell 10 (v := .slice (some B) 1 k) rfl; first | (refine Free.run_yes (by rfl) ?_; go_simp; refine Free.oR hK (hR (Below.refl _ _)) hS ?_; exact rfl) | (refine Free.run_no (by rfl) (Free.oR hK (hR (Below.refl _ _)) hS ?_); exact rfl)
  refine Free.cons ?_ ?_
  · intro st hag; (obtain rfl : st = 0 := Nat.le_antisymm hag.2 hag.1); intro w' hS; intro K hK; have a0 := (hX.below hS hXlt).cell 0 (v := .int .i64 0) rfl; have a1 := (hX.below hS hXlt).cell 1 (v := .int .i64 1) rfl; have a2 := (hX.below hS hXlt).cell 2 (v := .int .i64 1) rfl; have a3 := (hX.below hS hXlt).cell 3 (v := .int .i64 1) rfl; have a4 := (hX.below hS hXlt).cell 4 (v := .int .i64 1) rfl; have a5 := (hX.below hS hXlt).cell 5 (v := .int .i64 1) rfl; have a6 := (hX.below hS hXlt).cell 6 (v := .int .i64 0) rfl; have a7 := (hX.below hS hXlt).cell 7 (v := .int .i64 1) rfl; have a8 := (hX.below hS hXlt).cell 8 (v := .int .i64 1) rfl; have a9 := (hX.below hS hXlt).cell 9 (v := .int .i64 1) rfl; have a10 := (hX.below hS hXlt).cell 10 (v := .slice (some B) 1 k) rfl; first | (refine Free.run_yes (by rfl) ?_; go_simp; refine Free.oR hK (hR (Below.refl _ _)) hS ?_; exact rfl) | (refine Free.run_no (by rfl) (Free.oR hK (hR (Below.refl _ _)) hS ?_); exact rfl)
  refine Free.cons ?_ ?_
  · intro st hag; (obtain rfl : st = 0 := Nat.le_antisymm hag.2 hag.1); intro w' hS; (rintro _ rfl); intro K hK; refine Free.run_yes (by rfl) ?_; (go_simp; go_at_call 23; refine (HC.out _).mono ?_; rintro e w' ⟨f, rfl, hb⟩; refine hK.out _ _ ⟨f, rfl⟩ (Below.next hS hb (Nat.le_refl _)) (.inr (hR hb)))
  refine Free.cons ?_ ?_
  · intro st hag; (obtain rfl : st = 0 := Nat.le_antisymm hag.2 hag.1); intro w' hS; (intro v2 h2); intro K hK; refine Free.run_yes (by rfl) ?_; (obtain ⟨f, rfl⟩ := h2; go_simp; refine Free.oR hK (hR (Below.refl _ _)) hS ?_; exact rfl)
  refine Free.cons ?_ ?_
  · intro st hag; (obtain rfl : st = 0 := Nat.le_antisymm hag.2 hag.1); intro w' hS; intro K hK; have a0 := (hX.below hS hXlt).cell 0 (v := .int .i64 0) rfl; have a1 := (hX.below hS hXlt).cell 1 (v := .int .i64 1) rfl; have a2 := (hX.below hS hXlt).cell 2 (v := .int .i64 1) rfl; have a3 := (hX.below hS hXlt).cell 3 (v := .int .i64 1) rfl; have a4 := (hX.below hS hXlt).cell 4 (v := .int .i64 1) rfl; have a5 := (hX.below hS hXlt).cell 5 (v := .int .i64 1) rfl; have a6 := (hX.below hS hXlt).cell 6 (v := .int .i64 0) rfl; have a7 := (hX.below hS hXlt).cell 7 (v := .int .i64 1) rfl; have a8 := (hX.below hS hXlt).cell 8 (v := .int .i64 1) rfl; have a9 := (hX.below hS hXlt).cell 9 (v := .int .i64 1) rfl; have a10 := (hX.below hS hXlt).cell 10 (v := .slice (some B) 1 k) rfl; first | (refine Free.run_yes (by rfl) ?_; go_simp; refine Free.oR hK (hR (Below.refl _ _)) hS ?_; exact rfl) | (refine Free.run_no (by rfl) (Free.oR hK (hR (Below.refl _ _)) hS ?_); exact rfl)
  refine Free.cons ?_ ?_
  · intro st hag; (obtain rfl : st = 0 := Nat.le_antisymm hag.2 hag.1); intro w' hS; (rintro _ rfl); intro K hK; refine Free.run_yes (by rfl) ?_; (go_simp; go_at_call 24; refine (HP.out _).mono ?_; rintro e w' ⟨rfl, hb⟩; refine hK.out _ _ ?_ (Below.next hS hb (Nat.le_refl _)) (.inr (hR hb)); exact rfl)
  refine Free.cons ?_ ?_
  · intro st hag; (obtain rfl : st = 0 := Nat.le_antisymm hag.2 hag.1); intro w' hS; (rintro _ rfl); (rintro _ rfl); intro K hK; first | (refine Free.run_yes (by rfl) ?_; go_simp; refine Free.oR hK (hR (Below.refl _ _)) hS ?_; exact rfl) | (refine Free.run_no (by rfl) (Free.oR hK (hR (Below.refl _ _)) hS ?_); exact rfl)
  refine Free.cons ?_ ?_
  · intro st hag; (obtain rfl : st = 0 := Nat.le_antisymm hag.2 hag.1); intro w' hS; (rintro _ rfl); intro K hK; refine Free.run_yes (by rfl) ?_; (go_simp; refine hK.out _ _ ⟨_, rfl, hS.size, Blk.new _ _ _⟩ (hS.alloc hS.size _) (.inr (hR ((Below.refl _ _).alloc (Nat.le_refl _) _))))
  refine Free.cons ?_ ?_
  · intro st hag; (obtain rfl : st = 0 := Nat.le_antisymm hag.2 hag.1); intro w' hS; (rintro _ rfl); (intro v7 h7); intro K hK; refine Free.run_yes (by rfl) ?_; (obtain ⟨g7, rfl, hg7, hb7⟩ := h7; go_simp; go_at_call 16; refine (HD.out _ _ _ _ (by have := RB.of_row hb7 (by simp; unfold maxLen; omega); rw [List.length_replicate] at this; exact this)).mono ?_; rintro e w' ⟨A', c', rfl, hb⟩; refine hK.out _ _ ⟨A', c', rfl⟩ (Below.next hS hb (Nat.le_refl _)) (.inr (hR hb)))
  refine Free.cons ?_ ?_
  · intro st hag; (obtain rfl : st = 0 := Nat.le_antisymm hag.2 hag.1); intro w' hS; (intro v8 h8); intro K hK; first | (refine Free.run_yes (by rfl) ?_; go_simp; refine Free.oR hK (hR (Below.refl _ _)) hS ?_; first | exact rfl | assumption) | (refine Free.run_no (by rfl) (Free.oR hK (hR (Below.refl _ _)) hS ?_); exact rfl)
  refine Free.cons ?_ ?_
  · intro st hag; (obtain rfl : st = 0 := Nat.le_antisymm hag.2 hag.1); intro w' hS; (intro v9 h9); intro K hK; refine Free.run_yes (by rfl) ?_; (obtain ⟨A', c', rfl⟩ := h9; go_simp; refine hK.out _ _ ⟨A', c', rfl⟩ hS (.inr (hR (Below.refl _ _))))
  refine Free.cons ?_ ?_
  · intro st hag; (obtain rfl : st = 0 := Nat.le_antisymm hag.2 hag.1); intro w' hS; (intro v9 h9); intro K hK; refine Free.run_yes (by rfl) ?_; (obtain ⟨A', c', rfl⟩ := h9; go_simp; refine Free.oR hK (hR (Below.refl _ _)) hS ?_; exact rfl)
  refine Free.cons ?_ ?_
  · intro st hag; (obtain rfl : st = 0 := Nat.le_antisymm hag.2 hag.1); intro w' hS; intro K hK; refine Free.run_yes (by rfl) ?_; (go_simp; refine hK.out _ _ ⟨_, rfl, hS.size, none, 0, Blk.new _ _ _⟩ (hS.alloc hS.size _) (.inr (hR ((Below.refl _ _).alloc (Nat.le_refl _) _))))
  refine Free.cons ?_ ?_
  · intro st hag; (obtain rfl : st = 0 := Nat.le_antisymm hag.2 hag.1); intro w' hS; (intro v12 h12); (intro v10 h10); intro K hK; refine Free.run_yes (by rfl) ?_; (obtain ⟨A', c', rfl⟩ := h10; obtain ⟨g, rfl, hg, A2, c2, hb12⟩ := h12; have y0 := hb12.cell 0 (v := .int .i64 0) rfl; have y1 := hb12.cell 1 (v := .slice A2 0 c2) rfl; have y2 := hb12.fz 0; have y3 := hb12.fz 1; have hF := (hb12.set 0 (.int .i64 0)).set 1 (.slice A' 0 c'); go_simp; refine hK.out _ _ trivial ((hS.setCell (p := ⟨g, 0, none⟩) hg _).setCell (p := ⟨g, 1, none⟩) hg _) (.inr (RLz.store hb12 A' c')))
  refine Free.cons ?_ ?_
  · intro st hag; (obtain rfl : st = 0 := Nat.le_antisymm hag.2 hag.1); intro w' hS; (rintro _ rfl); intro K hK; first | (refine Free.run_yes (by rfl) ?_; go_simp; refine Free.oR hK (hR (Below.refl _ _)) hS ?_; exact rfl) | (refine Free.run_no (by rfl) (Free.oR hK (hR (Below.refl _ _)) hS ?_); exact rfl)
  exact Free.nil
  clear hvo
  intro w' hS; intro v0; intro v1; intro v2; intro v3; intro v4; intro v5; intro v6; intro v7; intro v8; intro v9; intro v10; intro v11; intro v12 h12; (rintro _ rfl); (try simp only [Act.put, List.setIfInBounds_toArray, List.set_cons_zero, List.set_cons_succ]); refine Free.toldE_nil ?_
  obtain ⟨g12, rfl, hg12, Az, cz, hZ⟩ := h12
  have bl6 := Below.next bl4 hS (Nat.le_refl _)
  have hX6 := hX.below hS hXlt
  have hR6 := hR4.below hS
  obtain ⟨g4, o4, rfl, hc4⟩ := hR6.at_ (by omega)
  have y4 := hc4 4 3 f24_4
  have y5 := hc4 5 1 f24_5
  have y9 := hc4 9 7 f24_9
  have hg4 := World.block_lt_of_cell? w' _ y4
  clear hX hXlt hR4 hR6 hc4 hS hR HD hmk hX4 bl4
  have hX := hX6
  have hXlt := hX6.lt
  have hZlt := hZ.lt
  have HM := Lib.hid (fun w => small_may24 (some B) 1 k w)
  have hb3 : ∀ w, (Instr.build 39 #[(0, .int .i64 (-1))]).run Try.prog w = .ok (.agg #[.int .i64 (-1), .slice none 0 0]) w := fun w => by kernel_rfl
  unfold bv at y4 y5 y9
  have y4' : w'.cell? ⟨g4, o4 + 4, none⟩ = some (.int .u8 3) := y4
  have y5' : w'.cell? ⟨g4, o4 + 5, none⟩ = some (.int .u8 1) := y5
  have y9' : w'.cell? ⟨g4, o4 + 9, none⟩ = some (.int .u8 7) := y9
  clear y4 y5 y9
  have keep := fun {w1 w2 : World} (h : Below w'.heap.size w' w1) (hb : Below w1.heap.size w1 w2) => Below.next h hb (Nat.le_refl _)
  go_wp2_with fail
  have hvo := Free.val
  refine Free.wp_facts (M := [0, 1, 3, 7, 15, 31, 63, 127, 255, 511, 255, 1279, 3327, 255, 11519, 31999, 65535, 131071, 262143, 524287, 1048575, 2097151, 4194303, 8388607, 16777215, 33554431, 67108863, 134217727, 268435455, 536870911, 1073741823, 2147483647, 4294967295, 8589934591, 17179869183, 34359738367, 68719476735, 137438953471, 274877906943, 549755813887, 1099511627775, 2199023255551, 4398046511103, 8796093022207, 17592186044415, 35184372088831, 70368744177663, 140737488355327, 281474976710655, 562949953421311, 1125899906842623, 2251799813685247, 4503599627370495, 4503599627370495, 18014398509481983, 36028797018963967, 72057594037927935, 144115188075855871]) (D := [[], [(0, 35)], [(1, 36)], [(2, 37)], [(3, 38), (2, 37)], [(4, 39), (2, 37)], [(2, 37), (5, 40)], [(6, 41)], [(7, 42)], [(8, 43), (7, 42)], [(7, 42)], [(10, 45), (7, 42)], [(11, 46), (7, 42)], [(7, 42)], [(13, 48), (7, 42)], [(12, 47), (14, 49), (7, 42)], [(9, 44), (15, 50), (7, 42)], [(7, 42), (16, 51)], [(17, 52)], [(18, 53)], [(19, 54), (18, 53)], [(20, 55), (18, 53)], [(21, 56), (18, 53)], [(18, 53), (22, 57)], [(23, 58)], [(24, 59)], [(25, 60), (24, 59)], [(26, 61), (24, 59)], [(27, 62), (24, 59)], [(24, 59), (28, 63)], [(29, 64)], [(30, 65)], [(31, 66), (30, 65)], [(32, 67), (30, 65)], [(33, 68), (30, 65)], [(30, 65), (34, 69)], [(35, 70)], [(36, 71)], [(37, 72), (36, 71)], [(36, 71), (38, 73)], [(39, 74)], [(40, 75)], [(41, 76), (40, 75)], [(42, 77), (40, 75)], [(40, 75), (43, 78)], [(44, 79)], [(45, 80)], [(46, 81), (45, 80)], [(47, 82), (45, 80)], [(48, 83), (45, 80)], [(45, 80), (49, 84)], [(50, 85)], [(51, 86)], [(51, 86)], [(52, 87), (53, 88), (51, 86)], [(54, 89), (51, 86)], [(51, 86), (55, 90)], [(56, 91)]]) (outs := [57]) (soles := []) (E := [(0, 35, false), (1, 36, false), (2, 37, false), (3, 38, false), (4, 39, false), (5, 40, false), (6, 41, false), (7, 42, false), (8, 43, false), (9, 44, false), (10, 45, false), (11, 46, false), (12, 47, false), (13, 48, false), (14, 49, false), (15, 50, false), (16, 51, false), (17, 52, false), (18, 53, false), (19, 54, false), (20, 55, false), (21, 56, false), (22, 57, false), (23, 58, false), (24, 59, false), (25, 60, false), (26, 61, false), (27, 62, false), (28, 63, false), (29, 64, false), (30, 65, false), (31, 66, false), (32, 67, false), (33, 68, false), (34, 69, false), (35, 70, false), (36, 71, false), (37, 72, false), (38, 73, false), (39, 74, false), (40, 75, false), (41, 76, false), (42, 77, false), (43, 78, false), (44, 79, false), (45, 80, false), (46, 81, false), (47, 82, false), (48, 83, false), (49, 84, false), (50, 85, false), (51, 86, false), (52, 87, false), (53, 88, false), (54, 89, false), (55, 90, false), (56, 91, false), (57, 0, true)]) (N := 92) (S := (fun w1 => Below w'.heap.size w' w1)) [Free.Fact.is ?_, Free.Fact.is ?_, Free.Fact.is ?_, Free.Fact.is ?_, Free.Fact.is ?_, Free.Fact.is ?_, Free.Fact.is ?_, Free.Fact.is ?_, Free.Fact.is ?_, Free.Fact.is ?_, Free.Fact.is ?_, Free.Fact.area2, Free.Fact.is ?_, Free.Fact.is ?_, Free.Fact.is ?_, Free.Fact.is ?_, Free.Fact.is ?_, Free.Fact.is ?_, Free.Fact.is ?_, Free.Fact.is ?_, Free.Fact.is ?_, Free.Fact.is ?_, Free.Fact.is ?_, Free.Fact.is ?_, Free.Fact.is ?_, Free.Fact.is ?_, Free.Fact.is ?_, Free.Fact.is ?_, Free.Fact.is ?_, Free.Fact.is ?_, Free.Fact.is ?_, Free.Fact.is ?_, Free.Fact.is ?_, Free.Fact.is ?_, Free.Fact.is ?_, Free.Fact.is ?_, Free.Fact.is ?_, Free.Fact.is ?_, Free.Fact.is ?_, Free.Fact.is ?_, Free.Fact.is ?_, Free.Fact.is ?_, Free.Fact.is ?_, Free.Fact.is ?_, Free.Fact.is ?_, Free.Fact.is ?_, Free.Fact.is ?_, Free.Fact.is ?_, Free.Fact.is ?_, Free.Fact.is ?_, Free.Fact.is ?_, Free.Fact.is ?_, Free.Fact.is ?_, Free.Fact.is ?_, Free.Fact.is ?_, Free.Fact.is ?_, Free.Fact.is ?_, Free.Fact.is ?_] (by kernel_rfl) (by kernel_rfl) rfl ((Below.refl _ _).drew) ?_ ?_
  rotate_left 57
  refine Free.cons ?_ ?_
  · intro w' hS; intro K hK; (try simp only [Act.put, List.setIfInBounds_toArray, List.set_cons_zero, List.set_cons_succ]); first | (refine Free.run_yes (by rfl) ?_; go_simp; refine Free.o hK hS ?_; exact rfl) | (refine Free.run_no (by rfl) (Free.o hK hS ?_); exact rfl)
  refine Free.cons ?_ ?_
  · intro w' hS; (rintro _ rfl); intro K hK; (try simp only [Act.put, List.setIfInBounds_toArray, List.set_cons_zero, List.set_cons_succ]); first | (refine Free.run_yes (by rfl) ?_; go_simp; refine Free.o hK hS ?_; exact rfl) | (refine Free.run_no (by rfl) (Free.o hK hS ?_); exact rfl)
  refine Free.cons ?_ ?_
  · intro w' hS; (rintro _ rfl); intro K hK; (try simp only [Act.put, List.setIfInBounds_toArray, List.set_cons_zero, List.set_cons_succ]); first | (refine Free.run_yes (by rfl) ?_; go_simp; refine Free.o hK hS ?_; exact rfl) | (refine Free.run_no (by rfl) (Free.o hK hS ?_); exact rfl)
  refine Free.cons ?_ ?_
  · intro w' hS; (rintro _ rfl); intro K hK; (try simp only [Act.put, List.setIfInBounds_toArray, List.set_cons_zero, List.set_cons_succ]); first | (refine Free.run_yes (by rfl) ?_; go_simp; refine Free.o hK hS ?_; exact rfl) | (refine Free.run_no (by rfl) (Free.o hK hS ?_); exact rfl)
  refine Free.cons ?_ ?_
  · intro w' hS; (rintro _ rfl); (rintro _ rfl); intro K hK; (try simp only [Act.put, List.setIfInBounds_toArray, List.set_cons_zero, List.set_cons_succ]); first | (refine Free.run_yes (by rfl) ?_; go_simp; refine Free.o hK hS ?_; exact rfl) | (refine Free.run_no (by rfl) (Free.o hK hS ?_); exact rfl)
  refine Free.cons ?_ ?_
  · intro w' hS; (rintro _ rfl); (rintro _ rfl); intro K hK; (try simp only [Act.put, List.setIfInBounds_toArray, List.set_cons_zero, List.set_cons_succ]); first | (refine Free.run_yes (by rfl) ?_; go_simp; refine Free.o hK hS ?_; exact rfl) | (refine Free.run_no (by rfl) (Free.o hK hS ?_); exact rfl)
  refine Free.cons ?_ ?_
  · intro w' hS; (rintro _ rfl); (rintro _ rfl); intro K hK; (try simp only [Act.put, List.setIfInBounds_toArray, List.set_cons_zero, List.set_cons_succ]); first | (refine Free.run_yes (by rfl) ?_; go_simp; refine Free.o hK hS ?_; exact rfl) | (refine Free.run_no (by rfl) (Free.o hK hS ?_); exact rfl)
  refine Free.cons ?_ ?_
  · intro w' hS; (rintro _ rfl); intro K hK; (try simp only [Act.put, List.setIfInBounds_toArray, List.set_cons_zero, List.set_cons_succ]); first | (refine Free.run_yes (by rfl) ?_; go_simp; refine Free.o hK hS ?_; exact rfl) | (refine Free.run_no (by rfl) (Free.o hK hS ?_); exact rfl)
  refine Free.cons ?_ ?_
  · intro w' hS; (rintro _ rfl); intro K hK; (try simp only [Act.put, List.setIfInBounds_toArray, List.set_cons_zero, List.set_cons_succ]); first | (refine Free.run_yes (by rfl) ?_; go_simp; refine Free.o hK hS ?_; exact rfl) | (refine Free.run_no (by rfl) (Free.o hK hS ?_); exact rfl)
  refine Free.cons ?_ ?_
  · intro w' hS; (rintro _ rfl); (rintro _ rfl); intro K hK; (try simp only [Act.put, List.setIfInBounds_toArray, List.set_cons_zero, List.set_cons_succ]); first | (refine Free.run_yes (by rfl) ?_; go_simp; refine Free.o hK hS ?_; exact rfl) | (refine Free.run_no (by rfl) (Free.o hK hS ?_); exact rfl)
  refine Free.cons ?_ ?_
  · intro w' hS; (rintro _ rfl); intro K hK; (try simp only [Act.put, List.setIfInBounds_toArray, List.set_cons_zero, List.set_cons_succ]); have a0 := (hX.below hS hXlt).cell 0 (v := .int .i64 0) rfl; have a1 := (hX.below hS hXlt).cell 1 (v := .int .i64 1) rfl; have a2 := (hX.below hS hXlt).cell 2 (v := .int .i64 1) rfl; have a3 := (hX.below hS hXlt).cell 3 (v := .int .i64 1) rfl; have a4 := (hX.below hS hXlt).cell 4 (v := .int .i64 1) rfl; have a5 := (hX.below hS hXlt).cell 5 (v := .int .i64 1) rfl; have a6 := (hX.below hS hXlt).cell 6 (v := .int .i64 0) rfl; have a7 := (hX.below hS hXlt).cell 7 (v := .int .i64 1) rfl; have a8 := (hX.below hS hXlt).cell 8 (v := .int .i64 1) rfl; have a9 := (hX.below hS hXlt).cell 9 (v := .int .i64 1) rfl; have a10 := (hX.below hS hXlt).cell 10 (v := .slice (some B) 1 k) rfl; first | (refine Free.run_yes (by rfl) ?_; go_simp; refine Free.o hK hS ?_; exact rfl) | (refine Free.run_no (by rfl) (Free.o hK hS ?_); exact rfl)
  refine Free.cons ?_ ?_
  · intro w' hS; (rintro _ rfl); (rintro _ rfl); intro K hK; (try simp only [Act.put, List.setIfInBounds_toArray, List.set_cons_zero, List.set_cons_succ]); refine Free.run_yes (by rfl) ?_; (go_simp; go_at_call 23; refine (HC.out _).mono ?_; rintro e w' ⟨f, rfl, hb⟩; (try simp only [Free.valOf, Act.put, List.setIfInBounds_toArray, List.set_cons_zero, List.set_cons_succ, Array.getD_eq_getD_getElem?, List.getElem?_toArray, List.getElem?_cons_succ, List.getElem?_cons_zero, Option.getD_some]); refine hK.out _ _ ⟨f, rfl⟩ (keep hS hb) (.inr hb))
  refine Free.cons ?_ ?_
  · intro w' hS; (intro v11 h11); (rintro _ rfl); intro K hK; (try simp only [Act.put, List.setIfInBounds_toArray, List.set_cons_zero, List.set_cons_succ]); refine Free.run_yes (by rfl) ?_; (obtain ⟨f, rfl⟩ := h11; go_simp; (try simp only [Free.valOf, Act.put, List.setIfInBounds_toArray, List.set_cons_zero, List.set_cons_succ, Array.getD_eq_getD_getElem?, List.getElem?_toArray, List.getElem?_cons_succ, List.getElem?_cons_zero, Option.getD_some]); refine hK.out _ _ ?_ hS (.inr (Below.refl _ _)); exact rfl)
  refine Free.cons ?_ ?_
  · intro w' hS; (rintro _ rfl); intro K hK; (try simp only [Act.put, List.setIfInBounds_toArray, List.set_cons_zero, List.set_cons_succ]); have a0 := (hX.below hS hXlt).cell 0 (v := .int .i64 0) rfl; have a1 := (hX.below hS hXlt).cell 1 (v := .int .i64 1) rfl; have a2 := (hX.below hS hXlt).cell 2 (v := .int .i64 1) rfl; have a3 := (hX.below hS hXlt).cell 3 (v := .int .i64 1) rfl; have a4 := (hX.below hS hXlt).cell 4 (v := .int .i64 1) rfl; have a5 := (hX.below hS hXlt).cell 5 (v := .int .i64 1) rfl; have a6 := (hX.below hS hXlt).cell 6 (v := .int .i64 0) rfl; have a7 := (hX.below hS hXlt).cell 7 (v := .int .i64 1) rfl; have a8 := (hX.below hS hXlt).cell 8 (v := .int .i64 1) rfl; have a9 := (hX.below hS hXlt).cell 9 (v := .int .i64 1) rfl; have a10 := (hX.below hS hXlt).cell 10 (v := .slice (some B) 1 k) rfl; first | (refine Free.run_yes (by rfl) ?_; go_simp; refine Free.o hK hS ?_; exact rfl) | (refine Free.run_no (by rfl) (Free.o hK hS ?_); exact rfl)
  refine Free.cons ?_ ?_
  · intro w' hS; (rintro _ rfl); (rintro _ rfl); intro K hK; (try simp only [Act.put, List.setIfInBounds_toArray, List.set_cons_zero, List.set_cons_succ]); refine Free.run_yes (by rfl) ?_; (go_simp; go_at_call 24; refine (HP.out _).mono ?_; rintro e w' ⟨rfl, hb⟩; go_simp; refine Free.c hK (keep hS hb) hb ?_; exact rfl)
  refine Free.cons ?_ ?_
  · intro w' hS; (rintro _ rfl); (rintro _ rfl); (rintro _ rfl); intro K hK; (try simp only [Act.put, List.setIfInBounds_toArray, List.set_cons_zero, List.set_cons_succ]); first | (refine Free.run_yes (by rfl) ?_; go_simp; refine Free.o hK hS ?_; exact rfl) | (refine Free.run_no (by rfl) (Free.o hK hS ?_); exact rfl)
  refine Free.cons ?_ ?_
  · intro w' hS; (rintro _ rfl); (rintro _ rfl); (rintro _ rfl); intro K hK; (try simp only [Act.put, List.setIfInBounds_toArray, List.set_cons_zero, List.set_cons_succ]); first | (refine Free.run_yes (by rfl) ?_; go_simp; refine Free.o hK hS ?_; exact rfl) | (refine Free.run_no (by rfl) (Free.o hK hS ?_); exact rfl)
  refine Free.cons ?_ ?_
  · intro w' hS; (rintro _ rfl); (rintro _ rfl); intro K hK; (try simp only [Act.put, List.setIfInBounds_toArray, List.set_cons_zero, List.set_cons_succ]); first | (refine Free.run_yes (by rfl) ?_; go_simp; refine Free.o hK hS ?_; exact rfl) | (refine Free.run_no (by rfl) (Free.o hK hS ?_); exact rfl)
  refine Free.cons ?_ ?_
  · intro w' hS; (rintro _ rfl); intro K hK; (try simp only [Act.put, List.setIfInBounds_toArray, List.set_cons_zero, List.set_cons_succ]); first | (refine Free.run_yes (by rfl) ?_; go_simp; refine Free.o hK hS ?_; exact rfl) | (refine Free.run_no (by rfl) (Free.o hK hS ?_); exact rfl)
  refine Free.cons ?_ ?_
  · intro w' hS; (rintro _ rfl); intro K hK; (try simp only [Act.put, List.setIfInBounds_toArray, List.set_cons_zero, List.set_cons_succ]); first | (refine Free.run_yes (by rfl) ?_; go_simp; refine Free.o hK hS ?_; exact rfl) | (refine Free.run_no (by rfl) (Free.o hK hS ?_); exact rfl)
  refine Free.cons ?_ ?_
  · intro w' hS; (rintro _ rfl); (rintro _ rfl); intro K hK; (try simp only [Act.put, List.setIfInBounds_toArray, List.set_cons_zero, List.set_cons_succ]); first | (refine Free.run_yes (by rfl) ?_; go_simp; refine Free.o hK hS ?_; exact rfl) | (refine Free.run_no (by rfl) (Free.o hK hS ?_); exact rfl)
  refine Free.cons ?_ ?_
  · intro w' hS; (rintro _ rfl); (rintro _ rfl); intro K hK; (try simp only [Act.put, List.setIfInBounds_toArray, List.set_cons_zero, List.set_cons_succ]); have k4 := (hS.cell (p := ⟨g4, o4 + 4, none⟩) hg4).trans y4'; have k5 := (hS.cell (p := ⟨g4, o4 + 5, none⟩) hg4).trans y5'; have k9 := (hS.cell (p := ⟨g4, o4 + 9, none⟩) hg4).trans y9'; first | (refine Free.run_yes (by rfl) ?_; go_simp; refine Free.o hK hS ?_; exact rfl) | (refine Free.run_no (by rfl) (Free.o hK hS ?_); exact rfl)
  refine Free.cons ?_ ?_
  · intro w' hS; (rintro _ rfl); (rintro _ rfl); intro K hK; (try simp only [Act.put, List.setIfInBounds_toArray, List.set_cons_zero, List.set_cons_succ]); first | (refine Free.run_yes (by rfl) ?_; go_simp; refine Free.o hK hS ?_; exact rfl) | (refine Free.run_no (by rfl) (Free.o hK hS ?_); exact rfl)
  refine Free.cons ?_ ?_
  · intro w' hS; (rintro _ rfl); (rintro _ rfl); intro K hK; (try simp only [Act.put, List.setIfInBounds_toArray, List.set_cons_zero, List.set_cons_succ]); first | (refine Free.run_yes (by rfl) ?_; go_simp; refine Free.o hK hS ?_; exact rfl) | (refine Free.run_no (by rfl) (Free.o hK hS ?_); exact rfl)
  refine Free.cons ?_ ?_
  · intro w' hS; (rintro _ rfl); intro K hK; (try simp only [Act.put, List.setIfInBounds_toArray, List.set_cons_zero, List.set_cons_succ]); first | (refine Free.run_yes (by rfl) ?_; go_simp; refine Free.o hK hS ?_; exact rfl) | (refine Free.run_no (by rfl) (Free.o hK hS ?_); exact rfl)
  refine Free.cons ?_ ?_
  · intro w' hS; (rintro _ rfl); intro K hK; (try simp only [Act.put, List.setIfInBounds_toArray, List.set_cons_zero, List.set_cons_succ]); first | (refine Free.run_yes (by rfl) ?_; go_simp; refine Free.o hK hS ?_; exact rfl) | (refine Free.run_no (by rfl) (Free.o hK hS ?_); exact rfl)
  refine Free.cons ?_ ?_
  · intro w' hS; (rintro _ rfl); (rintro _ rfl); intro K hK; (try simp only [Act.put, List.setIfInBounds_toArray, List.set_cons_zero, List.set_cons_succ]); first | (refine Free.run_yes (by rfl) ?_; go_simp; refine Free.o hK hS ?_; exact rfl) | (refine Free.run_no (by rfl) (Free.o hK hS ?_); exact rfl)
  refine Free.cons ?_ ?_
  · intro w' hS; (rintro _ rfl); (rintro _ rfl); intro K hK; (try simp only [Act.put, List.setIfInBounds_toArray, List.set_cons_zero, List.set_cons_succ]); have k4 := (hS.cell (p := ⟨g4, o4 + 4, none⟩) hg4).trans y4'; have k5 := (hS.cell (p := ⟨g4, o4 + 5, none⟩) hg4).trans y5'; have k9 := (hS.cell (p := ⟨g4, o4 + 9, none⟩) hg4).trans y9'; first | (refine Free.run_yes (by rfl) ?_; go_simp; refine Free.o hK hS ?_; exact rfl) | (refine Free.run_no (by rfl) (Free.o hK hS ?_); exact rfl)
  refine Free.cons ?_ ?_
  · intro w' hS; (rintro _ rfl); (rintro _ rfl); intro K hK; (try simp only [Act.put, List.setIfInBounds_toArray, List.set_cons_zero, List.set_cons_succ]); first | (refine Free.run_yes (by rfl) ?_; go_simp; refine Free.o hK hS ?_; exact rfl) | (refine Free.run_no (by rfl) (Free.o hK hS ?_); exact rfl)
  refine Free.cons ?_ ?_
  · intro w' hS; (rintro _ rfl); (rintro _ rfl); intro K hK; (try simp only [Act.put, List.setIfInBounds_toArray, List.set_cons_zero, List.set_cons_succ]); first | (refine Free.run_yes (by rfl) ?_; go_simp; refine Free.o hK hS ?_; exact rfl) | (refine Free.run_no (by rfl) (Free.o hK hS ?_); exact rfl)
  refine Free.cons ?_ ?_
  · intro w' hS; (rintro _ rfl); intro K hK; (try simp only [Act.put, List.setIfInBounds_toArray, List.set_cons_zero, List.set_cons_succ]); first | (refine Free.run_yes (by rfl) ?_; go_simp; refine Free.o hK hS ?_; exact rfl) | (refine Free.run_no (by rfl) (Free.o hK hS ?_); exact rfl)
  refine Free.cons ?_ ?_
  · intro w' hS; (rintro _ rfl); intro K hK; (try simp only [Act.put, List.setIfInBounds_toArray, List.set_cons_zero, List.set_cons_succ]); first | (refine Free.run_yes (by rfl) ?_; go_simp; refine Free.o hK hS ?_; exact rfl) | (refine Free.run_no (by rfl) (Free.o hK hS ?_); exact rfl)
  refine Free.cons ?_ ?_
  · intro w' hS; (rintro _ rfl); (rintro _ rfl); intro K hK; (try simp only [Act.put, List.setIfInBounds_toArray, List.set_cons_zero, List.set_cons_succ]); first | (refine Free.run_yes (by rfl) ?_; go_simp; refine Free.o hK hS ?_; exact rfl) | (refine Free.run_no (by rfl) (Free.o hK hS ?_); exact rfl)
  refine Free.cons ?_ ?_
  · intro w' hS; (rintro _ rfl); (rintro _ rfl); intro K hK; (try simp only [Act.put, List.setIfInBounds_toArray, List.set_cons_zero, List.set_cons_succ]); have k4 := (hS.cell (p := ⟨g4, o4 + 4, none⟩) hg4).trans y4'; have k5 := (hS.cell (p := ⟨g4, o4 + 5, none⟩) hg4).trans y5'; have k9 := (hS.cell (p := ⟨g4, o4 + 9, none⟩) hg4).trans y9'; first | (refine Free.run_yes (by rfl) ?_; go_simp; refine Free.o hK hS ?_; exact rfl) | (refine Free.run_no (by rfl) (Free.o hK hS ?_); exact rfl)
  refine Free.cons ?_ ?_
  · intro w' hS; (rintro _ rfl); (rintro _ rfl); intro K hK; (try simp only [Act.put, List.setIfInBounds_toArray, List.set_cons_zero, List.set_cons_succ]); first | (refine Free.run_yes (by rfl) ?_; go_simp; refine Free.o hK hS ?_; exact rfl) | (refine Free.run_no (by rfl) (Free.o hK hS ?_); exact rfl)
  refine Free.cons ?_ ?_
  · intro w' hS; (rintro _ rfl); (rintro _ rfl); intro K hK; (try simp only [Act.put, List.setIfInBounds_toArray, List.set_cons_zero, List.set_cons_succ]); first | (refine Free.run_yes (by rfl) ?_; go_simp; refine Free.o hK hS ?_; exact rfl) | (refine Free.run_no (by rfl) (Free.o hK hS ?_); exact rfl)
  refine Free.cons ?_ ?_
  · intro w' hS; (rintro _ rfl); intro K hK; (try simp only [Act.put, List.setIfInBounds_toArray, List.set_cons_zero, List.set_cons_succ]); first | (refine Free.run_yes (by rfl) ?_; go_simp; refine Free.o hK hS ?_; exact rfl) | (refine Free.run_no (by rfl) (Free.o hK hS ?_); exact rfl)
  refine Free.cons ?_ ?_
  · intro w' hS; (rintro _ rfl); intro K hK; (try simp only [Act.put, List.setIfInBounds_toArray, List.set_cons_zero, List.set_cons_succ]); first | (refine Free.run_yes (by rfl) ?_; go_simp; refine Free.o hK hS ?_; exact rfl) | (refine Free.run_no (by rfl) (Free.o hK hS ?_); exact rfl)
  refine Free.cons ?_ ?_
  · intro w' hS; (rintro _ rfl); (rintro _ rfl); intro K hK; (try simp only [Act.put, List.setIfInBounds_toArray, List.set_cons_zero, List.set_cons_succ]); first | (refine Free.run_yes (by rfl) ?_; go_simp; refine Free.o hK hS ?_; exact rfl) | (refine Free.run_no (by rfl) (Free.o hK hS ?_); exact rfl)
  refine Free.cons ?_ ?_
  · intro w' hS; (rintro _ rfl); (rintro _ rfl); intro K hK; (try simp only [Act.put, List.setIfInBounds_toArray, List.set_cons_zero, List.set_cons_succ]); first | (refine Free.run_yes (by rfl) ?_; go_simp; refine Free.o hK hS ?_; exact rfl) | (refine Free.run_no (by rfl) (Free.o hK hS ?_); exact rfl)
  refine Free.cons ?_ ?_
  · intro w' hS; (rintro _ rfl); intro K hK; (try simp only [Act.put, List.setIfInBounds_toArray, List.set_cons_zero, List.set_cons_succ]); first | (refine Free.run_yes (by rfl) ?_; go_simp; refine Free.o hK hS ?_; exact rfl) | (refine Free.run_no (by rfl) (Free.o hK hS ?_); exact rfl)
  refine Free.cons ?_ ?_
  · intro w' hS; (rintro _ rfl); intro K hK; (try simp only [Act.put, List.setIfInBounds_toArray, List.set_cons_zero, List.set_cons_succ]); first | (refine Free.run_yes (by rfl) ?_; go_simp; refine Free.o hK hS ?_; exact rfl) | (refine Free.run_no (by rfl) (Free.o hK hS ?_); exact rfl)
  refine Free.cons ?_ ?_
  · intro w' hS; (rintro _ rfl); (rintro _ rfl); intro K hK; (try simp only [Act.put, List.setIfInBounds_toArray, List.set_cons_zero, List.set_cons_succ]); have z0 := (hZ.below hS hZlt).cell 0 (v := .int .i64 0) rfl; have z1 := (hZ.below hS hZlt).cell 1 (v := .slice Az 0 cz) rfl; first | (refine Free.run_yes (by rfl) ?_; go_simp; refine Free.o hK hS ?_; exact rfl) | (refine Free.run_no (by rfl) (Free.o hK hS ?_); exact rfl)
  refine Free.cons ?_ ?_
  · intro w' hS; (rintro _ rfl); (rintro _ rfl); intro K hK; (try simp only [Act.put, List.setIfInBounds_toArray, List.set_cons_zero, List.set_cons_succ]); first | (refine Free.run_yes (by rfl) ?_; go_simp; refine Free.o hK hS ?_; exact rfl) | (refine Free.run_no (by rfl) (Free.o hK hS ?_); exact rfl)
  refine Free.cons ?_ ?_
  · intro w' hS; (rintro _ rfl); (rintro _ rfl); intro K hK; (try simp only [Act.put, List.setIfInBounds_toArray, List.set_cons_zero, List.set_cons_succ]); first | (refine Free.run_yes (by rfl) ?_; go_simp; refine Free.o hK hS ?_; exact rfl) | (refine Free.run_no (by rfl) (Free.o hK hS ?_); exact rfl)
  refine Free.cons ?_ ?_
  · intro w' hS; (rintro _ rfl); intro K hK; (try simp only [Act.put, List.setIfInBounds_toArray, List.set_cons_zero, List.set_cons_succ]); first | (refine Free.run_yes (by rfl) ?_; go_simp; refine Free.o hK hS ?_; exact rfl) | (refine Free.run_no (by rfl) (Free.o hK hS ?_); exact rfl)
  refine Free.cons ?_ ?_
  · intro w' hS; (rintro _ rfl); intro K hK; (try simp only [Act.put, List.setIfInBounds_toArray, List.set_cons_zero, List.set_cons_succ]); first | (refine Free.run_yes (by rfl) ?_; go_simp; refine Free.o hK hS ?_; exact rfl) | (refine Free.run_no (by rfl) (Free.o hK hS ?_); exact rfl)
  refine Free.cons ?_ ?_
  · intro w' hS; (rintro _ rfl); (rintro _ rfl); intro K hK; (try simp only [Act.put, List.setIfInBounds_toArray, List.set_cons_zero, List.set_cons_succ]); have z0 := (hZ.below hS hZlt).cell 0 (v := .int .i64 0) rfl; have z1 := (hZ.below hS hZlt).cell 1 (v := .slice Az 0 cz) rfl; first | (refine Free.run_yes (by rfl) ?_; go_simp; refine Free.o hK hS ?_; exact rfl) | (refine Free.run_no (by rfl) (Free.o hK hS ?_); exact rfl)
  refine Free.cons ?_ ?_
  · intro w' hS; (rintro _ rfl); (rintro _ rfl); intro K hK; (try simp only [Act.put, List.setIfInBounds_toArray, List.set_cons_zero, List.set_cons_succ]); first | (refine Free.run_yes (by rfl) ?_; go_simp; refine Free.o hK hS ?_; exact rfl) | (refine Free.run_no (by rfl) (Free.o hK hS ?_); exact rfl)
  refine Free.cons ?_ ?_
  · intro w' hS; (rintro _ rfl); (rintro _ rfl); intro K hK; (try simp only [Act.put, List.setIfInBounds_toArray, List.set_cons_zero, List.set_cons_succ]); first | (refine Free.run_yes (by rfl) ?_; go_simp; refine Free.o hK hS ?_; exact rfl) | (refine Free.run_no (by rfl) (Free.o hK hS ?_); exact rfl)
  refine Free.cons ?_ ?_
  · intro w' hS; (rintro _ rfl); (rintro _ rfl); intro K hK; (try simp only [Act.put, List.setIfInBounds_toArray, List.set_cons_zero, List.set_cons_succ]); first | (refine Free.run_yes (by rfl) ?_; go_simp; refine Free.o hK hS ?_; exact rfl) | (refine Free.run_no (by rfl) (Free.o hK hS ?_); exact rfl)
  refine Free.cons ?_ ?_
  · intro w' hS; (rintro _ rfl); intro K hK; (try simp only [Act.put, List.setIfInBounds_toArray, List.set_cons_zero, List.set_cons_succ]); first | (refine Free.run_yes (by rfl) ?_; go_simp; refine Free.o hK hS ?_; exact rfl) | (refine Free.run_no (by rfl) (Free.o hK hS ?_); exact rfl)
  refine Free.cons ?_ ?_
  · intro w' hS; (rintro _ rfl); intro K hK; (try simp only [Act.put, List.setIfInBounds_toArray, List.set_cons_zero, List.set_cons_succ]); have a0 := (hX.below hS hXlt).cell 0 (v := .int .i64 0) rfl; have a1 := (hX.below hS hXlt).cell 1 (v := .int .i64 1) rfl; have a2 := (hX.below hS hXlt).cell 2 (v := .int .i64 1) rfl; have a3 := (hX.below hS hXlt).cell 3 (v := .int .i64 1) rfl; have a4 := (hX.below hS hXlt).cell 4 (v := .int .i64 1) rfl; have a5 := (hX.below hS hXlt).cell 5 (v := .int .i64 1) rfl; have a6 := (hX.below hS hXlt).cell 6 (v := .int .i64 0) rfl; have a7 := (hX.below hS hXlt).cell 7 (v := .int .i64 1) rfl; have a8 := (hX.below hS hXlt).cell 8 (v := .int .i64 1) rfl; have a9 := (hX.below hS hXlt).cell 9 (v := .int .i64 1) rfl; have a10 := (hX.below hS hXlt).cell 10 (v := .slice (some B) 1 k) rfl; first | (refine Free.run_yes (by rfl) ?_; go_simp; refine Free.o hK hS ?_; exact rfl) | (refine Free.run_no (by rfl) (Free.o hK hS ?_); exact rfl)
  refine Free.cons ?_ ?_
  · intro w' hS; (rintro _ rfl); intro K hK; (try simp only [Act.put, List.setIfInBounds_toArray, List.set_cons_zero, List.set_cons_succ]); first | (refine Free.run_yes (by rfl) ?_; go_simp; refine Free.o hK hS ?_; exact rfl) | (refine Free.run_no (by rfl) (Free.o hK hS ?_); exact rfl)
  refine Free.cons ?_ ?_
  · intro w' hS; (rintro _ rfl); (rintro _ rfl); (rintro _ rfl); intro K hK; (try simp only [Act.put, List.setIfInBounds_toArray, List.set_cons_zero, List.set_cons_succ]); refine Free.run_yes (by rfl) ?_; (go_simp; go_at_call 10; refine (HM.out _).mono ?_; rintro e w' ⟨rfl, hb⟩; go_simp; refine Free.c hK (keep hS hb) hb ?_; exact rfl)
  refine Free.cons ?_ ?_
  · intro w' hS; (rintro _ rfl); (rintro _ rfl); intro K hK; (try simp only [Act.put, List.setIfInBounds_toArray, List.set_cons_zero, List.set_cons_succ]); first | (refine Free.run_yes (by rfl) ?_; go_simp; refine Free.o hK hS ?_; exact rfl) | (refine Free.run_no (by rfl) (Free.o hK hS ?_); exact rfl)
  refine Free.cons ?_ ?_
  · intro w' hS; (rintro _ rfl); (rintro _ rfl); intro K hK; (try simp only [Act.put, List.setIfInBounds_toArray, List.set_cons_zero, List.set_cons_succ]); first | (refine Free.run_yes (by rfl) ?_; go_simp; refine Free.o hK hS ?_; exact rfl) | (refine Free.run_no (by rfl) (Free.o hK hS ?_); exact rfl)
  refine Free.cons ?_ ?_
  · intro w' hS; (rintro _ rfl); intro K hK; (try simp only [Act.put, List.setIfInBounds_toArray, List.set_cons_zero, List.set_cons_succ]); first | (refine Free.run_yes (by rfl) ?_; go_simp; refine Free.o hK hS ?_; exact rfl) | (refine Free.run_no (by rfl) (Free.o hK hS ?_); exact rfl)
  exact Free.nil
  clear hvo
  intro w' hS; intro v0; intro v1; intro v2; intro v3; intro v4; intro v5; intro v6; intro v7; intro v8; intro v9; intro v10; intro v11; intro v12; intro v13; intro v14; intro v15; intro v16; intro v17; intro v18; intro v19; intro v20; intro v21; intro v22; intro v23; intro v24; intro v25; intro v26; intro v27; intro v28; intro v29; intro v30; intro v31; intro v32; intro v33; intro v34; intro v35; intro v36; intro v37; intro v38; intro v39; intro v40; intro v41; intro v42; intro v43; intro v44; intro v45; intro v46; intro v47; intro v48; intro v49; intro v50; intro v51; intro v52; intro v53; intro v54; intro v55; intro v56; (rintro _ rfl); (try simp only [Act.put, List.setIfInBounds_toArray, List.set_cons_zero, List.set_cons_succ]); refine Free.toldE_nil ?_
  have bl7 := Below.next bl6 hS (Nat.le_refl _)
  go_wp2
  go_ret
  exact ⟨rfl, bl7⟩
end Go.Proofs.Ytjpgiohdaadieaa
/- oublaw13.Few. -/
namespace Go.Proofs.Ytjpgiohdaadieaa
open Go.ChangeShapes Go.WideShapes Go.ChangeAt Go.RowKit
open Go.ChangeMaps (open_string shut_string)
set_option linter.unusedVariables false
set_option linter.unusedSimpArgs false
set_option maxRecDepth 100000

/-- A truth value came back. -/
def AnyBool (e : Ending) : Prop := ∃ b, e = .returned (.bool b)
set_option maxHeartbeats 1000000 in
set_option maxRecDepth 100000 in
theorem few_any (x : Cfg) (A : Option Addr) (n c : Nat) (Z : List (List Int)) (w : World) (h : RG w A n c Z) : Calls Try.prog 8 #[.agg #[.int .i64 x.h, .int .i64 x.z, .int .i64 x.b, .int .i64 x.r, .int .i64 x.d, .int .i64 x.e, .int .i64 x.s, .int .i64 x.p, .int .i64 x.q, .int .i64 x.t, .slice A n c]] w fun e w' => AnyBool e ∧ Below w.heap.size w w' := by
  have hZn := h.len
  have hnm : n ≤ maxLen := Nat.le_trans h.cap h.max
  unfold maxLen at hnm
  have hX0 := Blk.new w #[.int .i64 x.h, .int .i64 x.z, .int .i64 x.b, .int .i64 x.r, .int .i64 x.d, .int .i64 x.e, .int .i64 x.s, .int .i64 x.p, .int .i64 x.q, .int .i64 x.t, .slice A n c] 24
  have bb : Below w.heap.size w (w.alloc (.cells #[.int .i64 x.h, .int .i64 x.z, .int .i64 x.b, .int .i64 x.r, .int .i64 x.d, .int .i64 x.e, .int .i64 x.s, .int .i64 x.p, .int .i64 x.q, .int .i64 x.t, .slice A n c] 24)) := (by repeat (first | exact Below.refl _ _ | assumption | apply below_drewN' | apply Below.drew | refine Below.alloc ?_ (by first | omega | (simp; done) | (simp; omega)) _ | refine Below.setCell ?_ (by first | omega | (simp; done) | (simp; omega)) _))
  go_enter Try.func8, Try.ntmps8
  go_wp2
  generalize w.alloc (.cells #[.int .i64 x.h, .int .i64 x.z, .int .i64 x.b, .int .i64 x.r, .int .i64 x.d, .int .i64 x.e, .int .i64 x.s, .int .i64 x.p, .int .i64 x.q, .int .i64 x.t, .slice A n c] 24) = W1 at *
  go_loopw [3, 4] (fun s i wr => ∃ (k : Nat) (m : Int), k ≤ n ∧ k ≤ 50 ∧ 0 ≤ m ∧ m ≤ k * 2001 ∧ s = .int .i64 m ∧ i = .int .i64 k ∧ Blk wr w.heap.size #[.int .i64 x.h, .int .i64 x.z, .int .i64 x.b, .int .i64 x.r, .int .i64 x.d, .int .i64 x.e, .int .i64 x.s, .int .i64 x.p, .int .i64 x.q, .int .i64 x.t, .slice A n c] 24 ∧ Below w.heap.size w wr) (fun s i _ => 51 - (intOf i).toNat)
  case atStart => exact ⟨0, 0, by omega, by omega, by omega, by omega, rfl, rfl, hX0, bb⟩
  case round =>
    obtain ⟨k, m, hk, hk2, m0, m1, rfl, rfl, hX, br⟩ := hrel
    clear hX0 bb
    have hXlt := hX.lt
    have bR := Below.refl wr.heap.size wr
    have a0 := (hX.below bR hXlt).cell 0 (v := .int .i64 x.h) rfl; have a1 := (hX.below bR hXlt).cell 1 (v := .int .i64 x.z) rfl; have a2 := (hX.below bR hXlt).cell 2 (v := .int .i64 x.b) rfl; have a3 := (hX.below bR hXlt).cell 3 (v := .int .i64 x.r) rfl; have a4 := (hX.below bR hXlt).cell 4 (v := .int .i64 x.d) rfl; have a5 := (hX.below bR hXlt).cell 5 (v := .int .i64 x.e) rfl; have a6 := (hX.below bR hXlt).cell 6 (v := .int .i64 x.s) rfl; have a7 := (hX.below bR hXlt).cell 7 (v := .int .i64 x.p) rfl; have a8 := (hX.below bR hXlt).cell 8 (v := .int .i64 x.q) rfl; have a9 := (hX.below bR hXlt).cell 9 (v := .int .i64 x.t) rfl; have a10 := (hX.below bR hXlt).cell 10 (v := .slice A n c) rfl
    by_cases h1 : k < n
    · by_cases h2 : k < 50
      · obtain ⟨z, hz⟩ : ∃ z, Z[k]? = some z := ⟨_, List.getElem?_eq_getElem (by omega)⟩
        obtain ⟨g, o, rfl, hc⟩ := (h.below br).at_ (by omega)
        obtain ⟨B, kk, hcell, hrow⟩ := hc k z hz
        have hzm : z.length ≤ maxLen := Nat.le_trans hrow.cap hrow.max
        unfold maxLen at hzm
        clear hc hz
        go_wp2
        go_roundw
        case rel => refine ⟨k + 1, m + (if 2001 < (z.length : Int) then 2001 else (z.length : Int)), by omega, by omega, by split <;> omega, by split <;> omega, rfl, by go_num, hX, br⟩
        case measure => simp [intOf]; omega
      · go_wp2
        go_ret
        exact ⟨⟨_, rfl⟩, br⟩
    · go_wp2
      go_ret
      exact ⟨⟨_, rfl⟩, br⟩
end Go.Proofs.Ytjpgiohdaadieaa
/- Contracts of package lay: numbers of operations. -/
namespace Go.Proofs.Ytjpgiohdaadieaa
open Go.ChangeShapes Go.WideShapes Go.ChangeAt Go.RowKit
open Go.ChangeMaps (open_string shut_string)
set_option linter.unusedVariables false
set_option linter.unusedSimpArgs false
set_option maxRecDepth 100000

def logsC (x : Cfg) : Int := slotsC x * cellsC x 12
def pathsC (x : Cfg) (s : Int) : Int := 2 * s * (x.h + 1)
theorem paths_range {x : Cfg} (h : x.B) (s : Int) (s0 : 0 ≤ s) (s1 : s ≤ 1048577) : 0 ≤ pathsC x s ∧ pathsC x s ≤ 100000000 := by
  have hh := h.h
  unfold pathsC
  have a : 0 ≤ 2 * s * (x.h + 1) := Int.mul_nonneg (by omega) (by omega)
  have b : 2 * s * (x.h + 1) ≤ 2097154 * 7 := Int.mul_le_mul (by omega) (by omega) (by omega) (by omega)
  omega
theorem check_cells {x : Cfg} (h : x.B) (q : Int) : 1 ≤ (checkC x q).2 ∧ (checkC x q).2 ≤ 10000 := by
  have a := cellsC_range h _ (fullLenC_range h).1
  have b := cellsC_range h _ (deltaLenC_range h).1
  have a' := fullLenC_range h
  have b' := deltaLenC_range h
  by_cases hz : q % x.p = 0
  · rw [check_full hz]; unfold fullC; simp only; omega
  · rw [check_delta hz, deltaC, if_neg hz]; simp only; omega

theorem area_cells (u v : Int) (w : World) : (Instr.field 64 (.agg #[.int .i64 u, .int .i64 v]) 1).run Try.prog w = .ok (.int .i64 v) w := by rfl
/-- A tick's operations. -/
def tickC (x : Cfg) (q : Int) : Int := x.r + 1 + logsC x + pathsC x (slotsC x) + (checkC x q).2 + cellsC x (clogLenC x) + 3
end Go.Proofs.Ytjpgiohdaadieaa
/- Contracts of package lay: a recovery's operations. -/
namespace Go.Proofs.Ytjpgiohdaadieaa
open Go.ChangeShapes Go.WideShapes Go.ChangeAt Go.RowKit
open Go.ChangeMaps (open_string shut_string)
set_option linter.unusedVariables false
set_option linter.unusedSimpArgs false
set_option maxRecDepth 100000

/-- A recovery's operations. -/
def recovC (x : Cfg) (q s : Int) : Int := 4 + cellsC x (fullLenC x) + logsC x + cellsC x (clogLenC x) + q % x.p * cellsC x (deltaLenC x) + pathsC x s + (checkC x (q + 1)).2 + 3
end Go.Proofs.Ytjpgiohdaadieaa
/- The document of chapter 13: lengths. -/
namespace Go.Proofs.Ytjpgiohdaadieaa
open Go.ChangeShapes Go.WideShapes Go.ChangeAt Go.RowKit
open Go.ChangeMaps (open_string shut_string)
set_option linter.unusedVariables false
set_option linter.unusedSimpArgs false
set_option maxRecDepth 100000

theorem ref_length (z : Int) (w : World) (h0 : 1 ≤ z) (h1 : z ≤ 4) : Calls Try.prog 82 #[.int .i64 z] w fun e w' => e = .returned (.int .i64 (z * 38)) ∧ Below w.heap.size w w' := by
  go_enter Try.func82, Try.ntmps82
  go_wp2
  go_ret
  exact ⟨rfl, (by repeat (first | exact Below.refl _ _ | assumption | apply below_drewN' | apply Below.drew | refine Below.alloc ?_ (by first | omega | (simp; done) | (simp; omega)) _ | refine Below.setCell ?_ (by first | omega | (simp; done) | (simp; omega)) _))⟩
theorem div_up (l s : Int) (hl : 1 ≤ l) (hs : 1 ≤ s) : (l - 1) / s + 1 = l / s + if 0 < l % s then 1 else 0 := by
  have e := Int.mul_ediv_add_emod l s
  have m0 := Int.emod_nonneg l (show s ≠ 0 by omega)
  have m1 := Int.emod_lt_of_pos l (show 0 < s by omega)
  split
  · have : l - 1 = l % s - 1 + l / s * s := by rw [Int.mul_comm] at e; omega
    rw [this, Int.add_mul_ediv_right _ _ (by omega), Int.ediv_eq_zero_of_lt (by omega) (by omega)]
    omega
  · have : l - 1 = s - 1 + (l / s - 1) * s := by rw [Int.mul_comm] at e; rw [Int.sub_mul, Int.one_mul]; omega
    rw [this, Int.add_mul_ediv_right _ _ (by omega), Int.ediv_eq_zero_of_lt (by omega) (by omega)]
    omega
theorem ref_cells2 (l s : Int) (w : World) (hl : 1 ≤ l) (hs : 1 ≤ s) (h2 : l ≤ 1099511627776) (h3 : s ≤ 1099511627776) : Calls Try.prog 65 #[.int .i64 l, .int .i64 s] w fun e w' => e = .returned (.int .i64 ((l - 1) / s + 1)) ∧ Below w.heap.size w w' := by
  have e1 : l.tdiv s = l / s := Int.tdiv_eq_ediv_of_nonneg (by omega)
  have e2 : l.tmod s = l % s := Int.tmod_eq_emod_of_nonneg (by omega)
  have d0 : 0 ≤ l / s := Int.ediv_nonneg (by omega) (by omega)
  have d1 : l / s ≤ l := Int.ediv_le_self _ (by omega)
  have pn : ¬ s = 0 := by omega
  have hd := div_up l s hl hs
  have m1 := Int.emod_lt_of_pos l (show 0 < s by omega)
  have m0 := Int.emod_nonneg l (show s ≠ 0 by omega)
  by_cases h4 : 0 < l % s
  · rw [if_pos h4] at hd
    rw [hd]
    clear hd
    generalize l / s = q at *
    generalize l % s = r at *
    go_enter Try.func65, Try.ntmps65
    go_wp2
    go_ret
    exact ⟨rfl, (by repeat (first | exact Below.refl _ _ | assumption | apply below_drewN' | apply Below.drew | refine Below.alloc ?_ (by first | omega | (simp; done) | (simp; omega)) _ | refine Below.setCell ?_ (by first | omega | (simp; done) | (simp; omega)) _))⟩
  · rw [if_neg h4, Int.add_zero] at hd
    rw [hd]
    clear hd
    generalize l / s = q at *
    generalize l % s = r at *
    go_enter Try.func65, Try.ntmps65
    go_wp2
    go_ret
    exact ⟨rfl, (by repeat (first | exact Below.refl _ _ | assumption | apply below_drewN' | apply Below.drew | refine Below.alloc ?_ (by first | omega | (simp; done) | (simp; omega)) _ | refine Below.setCell ?_ (by first | omega | (simp; done) | (simp; omega)) _))⟩
set_option maxHeartbeats 1000000 in
set_option maxRecDepth 100000 in
theorem ref_payload (x : Cfg) (A : Option Addr) (n c : Nat) (w : World) (h : x.B) : Calls Try.prog 64 #[.agg #[.int .i64 x.h, .int .i64 x.z, .int .i64 x.b, .int .i64 x.r, .int .i64 x.d, .int .i64 x.e, .int .i64 x.s, .int .i64 x.p, .int .i64 x.q, .int .i64 x.t, .slice A n c]] w fun e w' => e = .returned (.int .i64 (x.z * 38)) ∧ Below w.heap.size w w' := by
  have HP := Lib.hid (fun w => ref_length x.z w h.z.1 h.z.2)
  clear h
  have hX0 := Blk.new w #[.int .i64 x.h, .int .i64 x.z, .int .i64 x.b, .int .i64 x.r, .int .i64 x.d, .int .i64 x.e, .int .i64 x.s, .int .i64 x.p, .int .i64 x.q, .int .i64 x.t, .slice A n c] 24
  have bb : Below w.heap.size w (w.alloc (.cells #[.int .i64 x.h, .int .i64 x.z, .int .i64 x.b, .int .i64 x.r, .int .i64 x.d, .int .i64 x.e, .int .i64 x.s, .int .i64 x.p, .int .i64 x.q, .int .i64 x.t, .slice A n c] 24)) := (by repeat (first | exact Below.refl _ _ | assumption | apply below_drewN' | apply Below.drew | refine Below.alloc ?_ (by first | omega | (simp; done) | (simp; omega)) _ | refine Below.setCell ?_ (by first | omega | (simp; done) | (simp; omega)) _))
  have hX := hX0
  go_enter Try.func64, Try.ntmps64
  go_wp2_with fail
  refine (HP.out _).mono ?_
  rintro e w2 ⟨rfl, hb⟩
  go_wp2
  go_ret
  exact ⟨rfl, bnext bb hb⟩
set_option maxHeartbeats 1000000 in
set_option maxRecDepth 100000 in
theorem ref_cloglen (x : Cfg) (A : Option Addr) (n c : Nat) (w : World) (h : x.B) : Calls Try.prog 39 #[.agg #[.int .i64 x.h, .int .i64 x.z, .int .i64 x.b, .int .i64 x.r, .int .i64 x.d, .int .i64 x.e, .int .i64 x.s, .int .i64 x.p, .int .i64 x.q, .int .i64 x.t, .slice A n c]] w fun e w' => e = .returned (.int .i64 (clogLenC x)) ∧ Below w.heap.size w w' := by
  have hs := h.t
  unfold clogLenC
  clear h
  go_enter Try.func39, Try.ntmps39
  go_wp2
  go_ret
  exact ⟨rfl, (by repeat (first | exact Below.refl _ _ | assumption | apply below_drewN' | apply Below.drew | refine Below.alloc ?_ (by first | omega | (simp; done) | (simp; omega)) _ | refine Below.setCell ?_ (by first | omega | (simp; done) | (simp; omega)) _))⟩
end Go.Proofs.Ytjpgiohdaadieaa
/- Chapter 13's numbers of operations, in plain numbers. -/
namespace Go.Proofs.Ytjpgiohdaadieaa
open Go.ChangeShapes Go.WideShapes Go.ChangeAt Go.RowKit
open Go.ChangeMaps (open_string shut_string)
set_option linter.unusedVariables false
set_option linter.unusedSimpArgs false
set_option maxRecDepth 100000

theorem delta_cells {x : Cfg} {q : Int} (h : q % x.p ≠ 0) : (deltaC x q).2 = cellsC x (deltaLenC x) := by rw [deltaC, if_neg h]
theorem check_cells_p {x : Cfg} (hx : x.B) (q : Int) : (checkC x (q + x.p)).2 = (checkC x q).2 := by
  have hp := hx.p
  have d := (div_add (q := q) hp.1 1).2
  rw [Int.one_mul] at d
  unfold checkC deltaC fullC
  rw [d]
  split <;> rfl
theorem tick_p {x : Cfg} (hx : x.B) (q : Int) : tickC x (q + x.p) = tickC x q := by unfold tickC; rw [check_cells_p hx]
theorem tick_is (x : Cfg) (q : Int) : tickC x q = slotsC x * cellsC x 12 + 2 * (x.h + 1) * slotsC x + (checkC x q).2 + cellsC x (clogLenC x) + 1 + x.r + 1 + 2 := by
  unfold tickC logsC pathsC
  have e : 2 * slotsC x * (x.h + 1) = 2 * (x.h + 1) * slotsC x := by rw [Int.mul_assoc, Int.mul_assoc, Int.mul_comm (slotsC x)]
  rw [e]
  omega
theorem recov_is (x : Cfg) (q s : Int) : recovC x q s = 4 + cellsC x (fullLenC x) + q % x.p * cellsC x (deltaLenC x) + slotsC x * cellsC x 12 + cellsC x (clogLenC x) + 2 * (x.h + 1) * s + (checkC x (q + 1)).2 + 1 + 1 + 1 := by
  unfold recovC logsC pathsC
  have e : 2 * s * (x.h + 1) = 2 * (x.h + 1) * s := by rw [Int.mul_assoc, Int.mul_assoc, Int.mul_comm s]
  rw [e]
  omega
theorem recov_next (x : Cfg) (q s : Int) : recovC x q (s + 1) = recovC x q s + 2 * (x.h + 1) := by
  rw [recov_is, recov_is, Int.mul_add, Int.mul_one]
  omega
/-- Behind a whole checkpoint come differences. -/
theorem since_full {p q j : Int} (hp : 1 ≤ p) (h0 : 0 ≤ j) (h1 : j + 1 ≤ q % p) : (q - q % p + 1 + j) % p = j + 1 := by
  have h2 := Int.emod_lt_of_pos q (show 0 < p by omega)
  have e : q - q % p + 1 + j = j + 1 + q / p * p := by
    have := Int.mul_ediv_add_emod q p
    rw [Int.mul_comm] at this
    omega
  rw [e, Int.add_mul_emod_self_right, Int.emod_eq_of_lt (by omega) (by omega)]
theorem log_in {x : Cfg} {i : Int} (h0 : 0 ≤ i) (h1 : i < slotsC x) : logC x i = (2 + i * cellsC x 12, cellsC x 12) := by
  have e : inR i 0 (slotsC x - 1) = true := by simp [inR]; omega
  rw [logC, if_pos e]
end Go.Proofs.Ytjpgiohdaadieaa
/- Chapter 13's areas lie apart, in plain numbers. -/
namespace Go.Proofs.Ytjpgiohdaadieaa
open Go.ChangeShapes Go.WideShapes Go.ChangeAt Go.RowKit
open Go.ChangeMaps (open_string shut_string)
set_option linter.unusedVariables false
set_option linter.unusedSimpArgs false
set_option maxRecDepth 100000

theorem total_range {x : Cfg} (h : x.B) : 3 ≤ totalC x ∧ totalC x ≤ 65536 := by
  have a1 := slotsC_range h
  have a2 := stashC_range h
  have a3 := cells8_range h
  have a4 := leavesC_range' x.h h.h.1 h.h.2
  have hb := h.b
  have he := h.e
  have hp := h.p
  have b1 : 1 ≤ deltaLenC x ∧ deltaLenC x ≤ 2900 := by unfold deltaLenC; omega
  have b2 : 1 ≤ fullLenC x ∧ fullLenC x ≤ 3500 := by unfold fullLenC; omega
  have b3 := clogLenC_range h
  have c1 := cellsC_range h _ b1.1
  have c2 := cellsC_range h _ b2.1
  have c3 := cellsC_range h _ b3.1
  have c4 := clogsC_range h
  have d1 : 0 ≤ 2 * (x.p - 1) * cellsC x (deltaLenC x) := Int.mul_nonneg (by omega) (by omega)
  have d2 : 2 * (x.p - 1) * cellsC x (deltaLenC x) ≤ 14 * 2900 := Int.mul_le_mul (by omega) (by omega) (by omega) (by omega)
  unfold totalC bucketsC fullsC deltasC
  omega
theorem clog_zero (x : Cfg) : clogC x 0 = (clogsC x, cellsC x (clogLenC x)) := by unfold clogC; rw [Int.zero_emod, Int.zero_mul, Int.add_zero]
theorem clog_one (x : Cfg) : clogC x 1 = (clogsC x + cellsC x (clogLenC x), cellsC x (clogLenC x)) := by unfold clogC; rw [show (1 : Int) % 2 = 1 from rfl, Int.one_mul]
theorem full_zero (x : Cfg) : fullC x 0 = (fullsC x, cellsC x (fullLenC x)) := by unfold fullC; rw [Int.zero_ediv, Int.zero_emod, Int.zero_mul, Int.add_zero]
theorem full_one {x : Cfg} (h : x.B) : fullC x x.p = (fullsC x + cellsC x (fullLenC x), cellsC x (fullLenC x)) := by
  have hp := h.p
  unfold fullC
  rw [Int.ediv_self (by omega), show (1 : Int) % 2 = 1 from rfl, Int.one_mul]
/-- How many differences were marked ahead of the i-th. -/
def dnoC (x : Cfg) (i : Int) : Int := if i ≤ x.p then i - 1 else i - 2
theorem dno_next {x : Cfg} {i : Int} (h : i ≠ x.p) : dnoC x (i + 1) = dnoC x i + 1 := by
  unfold dnoC
  by_cases h1 : i < x.p
  · rw [if_pos (by omega), if_pos (by omega)]; omega
  · rw [if_neg (by omega), if_neg (by omega)]; omega
theorem dno_skip {x : Cfg} : dnoC x (x.p + 1) = dnoC x x.p := by
  unfold dnoC
  rw [if_neg (by omega), if_pos (by omega)]; omega
theorem dno_range {x : Cfg} (h : x.B) {i : Int} (h1 : 1 ≤ i) (h2 : i < 2 * x.p) (h3 : i ≠ x.p) : 0 ≤ dnoC x i ∧ dnoC x i + 1 ≤ 2 * (x.p - 1) := by
  unfold dnoC
  split <;> omega
theorem dno_all {x : Cfg} (h : x.B) : dnoC x (2 * x.p) = 2 * (x.p - 1) := by
  have hp := h.p
  unfold dnoC
  rw [if_neg (by omega)]; omega
theorem delta_at {x : Cfg} (h : x.B) {i : Int} (h1 : 1 ≤ i) (h2 : i < 2 * x.p) (h3 : i ≠ x.p) : deltaC x i = (deltasC x + dnoC x i * cellsC x (deltaLenC x), cellsC x (deltaLenC x)) := by
  have hp := h.p
  unfold deltaC dnoC
  by_cases h4 : i < x.p
  · have e1 : i / x.p = 0 := Int.ediv_eq_zero_of_lt (by omega) h4
    have e2 : i % x.p = i := Int.emod_eq_of_lt (by omega) h4
    rw [e1, e2, if_neg (by omega), if_pos (by omega), Int.zero_emod, Int.zero_mul, Int.zero_add]
  · have e0 : i = i - x.p + 1 * x.p := by omega
    have e1 : i / x.p = 1 := by rw [e0, Int.add_mul_ediv_right _ _ (by omega), Int.ediv_eq_zero_of_lt (by omega) (by omega)]; rfl
    have e2 : i % x.p = i - x.p := by rw [e0, Int.add_mul_emod_self_right, Int.emod_eq_of_lt (by omega) (by omega)]; omega
    rw [e1, e2, if_neg (by omega), if_neg (by omega), show (1 : Int) % 2 = 1 from rfl, Int.one_mul]
    congr 3
    omega
theorem bucket_at {x : Cfg} {i v : Int} (h0 : 0 ≤ i) (h1 : i < 2 * leavesC x.h - 1) (v0 : 0 ≤ v) (v1 : v ≤ 1) : bucketC x i v = bucketsC x + 2 * i + v := by
  unfold bucketC
  rw [if_pos ⟨by simp [inR]; omega, by simp [inR]; omega⟩]

/-- What is written next lies apart from what counts. -/
theorem check_apart {x : Cfg} (h : x.B) {q j : Int} (q0 : 0 ≤ q) (j0 : 0 ≤ j) (j1 : j ≤ q % x.p) :
    (checkC x (q + 1)).1 + (checkC x (q + 1)).2 ≤ (checkC x (q - q % x.p + j)).1 ∨ (checkC x (q - q % x.p + j)).1 + (checkC x (q - q % x.p + j)).2 ≤ (checkC x (q + 1)).1 := by
  have hp := h.p
  have r0 := Int.emod_nonneg q (show x.p ≠ 0 by omega)
  have r1 := Int.emod_lt_of_pos q (show 0 < x.p by omega)
  have e0 : q - q % x.p + j = j + q / x.p * x.p := by
    have := Int.mul_ediv_add_emod q x.p
    rw [Int.mul_comm] at this
    omega
  have eb1 : (q - q % x.p + j) / x.p = q / x.p := by rw [e0, Int.add_mul_ediv_right _ _ (by omega), Int.ediv_eq_zero_of_lt j0 (by omega), Int.zero_add]
  have eb2 : (q - q % x.p + j) % x.p = j := by rw [e0, Int.add_mul_emod_self_right, Int.emod_eq_of_lt j0 (by omega)]
  have c := cellsC_range h _ (deltaLenC_range h).1
  have c2 := cellsC_range h _ (fullLenC_range h).1
  by_cases hb : j = 0
  · have hbz : (q - q % x.p + j) % x.p = 0 := by rw [eb2]; exact hb
    rw [check_full hbz]
    by_cases ha : (q + 1) % x.p = 0
    · rw [check_full ha]
      have hr : q % x.p = x.p - 1 := by
        by_cases hlt : q % x.p + 1 < x.p
        · have e1 : q + 1 = q % x.p + 1 + q / x.p * x.p := by
            have := Int.mul_ediv_add_emod q x.p
            rw [Int.mul_comm] at this
            omega
          rw [e1, Int.add_mul_emod_self_right, Int.emod_eq_of_lt (by omega) hlt] at ha
          omega
        · omega
      have ea : (q + 1) / x.p = q / x.p + 1 := by
        have e1 : q + 1 = 0 + (q / x.p + 1) * x.p := by
          have := Int.mul_ediv_add_emod q x.p
          rw [Int.mul_comm] at this
          rw [Int.add_mul, Int.one_mul]
          omega
        rw [e1, Int.add_mul_ediv_right _ _ (by omega), Int.zero_ediv, Int.zero_add]
      unfold fullC
      rw [ea, eb1]
      have h3 : q / x.p % 2 = 0 ∧ (q / x.p + 1) % 2 = 1 ∨ q / x.p % 2 = 1 ∧ (q / x.p + 1) % 2 = 0 := by omega
      rcases h3 with ⟨a, b⟩ | ⟨a, b⟩ <;> rw [a, b] <;> simp only <;> omega
    · rw [check_delta ha]
      have a1 := delta_lt h ha
      have a2 := full_ge h (q - q % x.p + j)
      omega
  · have hbz : (q - q % x.p + j) % x.p ≠ 0 := by rw [eb2]; exact hb
    rw [check_delta hbz]
    by_cases ha : (q + 1) % x.p = 0
    · rw [check_full ha]
      have a1 := delta_lt h hbz
      have a2 := full_ge h (q + 1)
      omega
    · rw [check_delta ha]
      have hlt : q % x.p + 1 < x.p := by
        by_cases hlt : q % x.p + 1 < x.p
        · exact hlt
        · have e1 : q + 1 = 0 + (q / x.p + 1) * x.p := by
            have := Int.mul_ediv_add_emod q x.p
            rw [Int.mul_comm] at this
            rw [Int.add_mul, Int.one_mul]
            omega
          rw [e1, Int.add_mul_emod_self_right, Int.zero_emod] at ha
          exact absurd rfl ha
      have e1 : q + 1 = q % x.p + 1 + q / x.p * x.p := by
        have := Int.mul_ediv_add_emod q x.p
        rw [Int.mul_comm] at this
        omega
      have ea1 : (q + 1) / x.p = q / x.p := by rw [e1, Int.add_mul_ediv_right _ _ (by omega), Int.ediv_eq_zero_of_lt (by omega) hlt, Int.zero_add]
      have ea2 : (q + 1) % x.p = q % x.p + 1 := by
        conv => lhs; rw [e1]
        rw [Int.add_mul_emod_self_right, Int.emod_eq_of_lt (by omega) hlt]
      rw [deltaC, deltaC, if_neg ha, if_neg hbz, ea1, ea2, eb1, eb2]
      simp only
      generalize q / x.p % 2 * (x.p - 1) = E at *
      generalize cellsC x (deltaLenC x) = m at *
      have hmul : (E + j - 1 + 1) * m ≤ (E + (q % x.p + 1) - 1) * m := Int.mul_le_mul_of_nonneg_right (by omega) (by omega)
      rw [Int.add_mul (E + j - 1), Int.one_mul] at hmul
      right
      omega
theorem check_range {x : Cfg} (h : x.B) (q : Int) : 0 ≤ (checkC x q).1 ∧ (checkC x q).1 ≤ 100000 ∧ 1 ≤ (checkC x q).2 ∧ (checkC x q).2 ≤ 10000 := by
  have a := check_cells h q
  have b := bucketsC_range h
  have c := deltasC_range h
  have d := fullsC_range h
  by_cases hz : q % x.p = 0
  · rw [check_full hz] at *
    have e := full_ge h q
    omega
  · rw [check_delta hz] at *
    have e := delta_lt h hz
    omega
theorem clog_range {x : Cfg} (h : x.B) (q : Int) : 0 ≤ (clogC x q).1 ∧ (clogC x q).1 ≤ 100000 := by
  have a := clogsC_range h
  have b := cellsC_range h _ (clogLenC_range h).1
  have c := clogLenC_range h
  have h3 : q % 2 = 0 ∨ q % 2 = 1 := by omega
  unfold clogC
  rcases h3 with e | e <;> rw [e] <;> simp only <;> omega
theorem clog_ne {x : Cfg} (h : x.B) (q : Int) : (clogC x q).1 ≠ (clogC x (q + 1)).1 := by
  have c := cellsC_range h _ (clogLenC_range h).1
  unfold clogC
  have h3 : q % 2 = 0 ∧ (q + 1) % 2 = 1 ∨ q % 2 = 1 ∧ (q + 1) % 2 = 0 := by omega
  rcases h3 with ⟨a, b⟩ | ⟨a, b⟩ <;> rw [a, b] <;> simp only <;> omega
theorem clog_two (x : Cfg) (q : Int) : clogC x (q + 2) = clogC x q := by
  unfold clogC
  rw [show (q + 2) % 2 = q % 2 by omega]
end Go.Proofs.Ytjpgiohdaadieaa
/- The document of chapter 13: where the areas begin. -/
namespace Go.Proofs.Ytjpgiohdaadieaa
open Go.ChangeShapes Go.WideShapes Go.ChangeAt Go.RowKit
open Go.ChangeMaps (open_string shut_string)
set_option linter.unusedVariables false
set_option linter.unusedSimpArgs false
set_option maxRecDepth 100000

theorem Blk.set6 {w : World} {g t : Nat} {u0 u1 u2 u3 u4 u5 : Value} (h : Blk w g #[u0, u1, u2, u3, u4, u5] t) (v0 v1 v2 v3 v4 v5 : Value) : Blk ((((((w.setCell ⟨g, 0, none⟩ v0).setCell ⟨g, 1, none⟩ v1).setCell ⟨g, 2, none⟩ v2).setCell ⟨g, 3, none⟩ v3).setCell ⟨g, 4, none⟩ v4).setCell ⟨g, 5, none⟩ v5) g #[v0, v1, v2, v3, v4, v5] t := by
  have := (((((h.set 0 v0).set 1 v1).set 2 v2).set 3 v3).set 4 v4).set 5 v5
  simpa only [List.setIfInBounds_toArray, List.set_cons_zero, List.set_cons_succ] using this
end Go.Proofs.Ytjpgiohdaadieaa
/- The document of chapter 13: areas. -/
namespace Go.Proofs.Ytjpgiohdaadieaa
open Go.ChangeShapes Go.WideShapes Go.ChangeAt Go.RowKit
open Go.ChangeMaps (open_string shut_string)
set_option linter.unusedVariables false
set_option linter.unusedSimpArgs false
set_option maxRecDepth 100000

def fullA (x : Cfg) (q : Int) : Int × Int := if q < 0 then (0, 0) else fullC x q
def deltaA (x : Cfg) (q : Int) : Int × Int := if q < 0 then (0, 0) else deltaC x q
def checkA (x : Cfg) (q : Int) : Int × Int := if q < 0 then (0, 0) else checkC x q
def clogA (x : Cfg) (q : Int) : Int × Int := if q < 0 then (0, 0) else clogC x q

end Go.Proofs.Ytjpgiohdaadieaa
/- The document of chapter 13: buckets, numbers of operations; what lies ahead of zero. -/
namespace Go.Proofs.Ytjpgiohdaadieaa
open Go.ChangeShapes Go.WideShapes Go.ChangeAt Go.RowKit
open Go.ChangeMaps (open_string shut_string)
set_option linter.unusedVariables false
set_option linter.unusedSimpArgs false
set_option maxRecDepth 100000

def tickA (x : Cfg) (q : Int) : Int := if q < 0 then 0 else tickC x q
def recovA (x : Cfg) (q s : Int) : Int := if q < 0 ∨ s < 0 then 0 else recovC x q s
theorem delta_one {x : Cfg} (h : x.B) (q : Int) : q % x.p * (deltaA x 1).2 = q % x.p * cellsC x (deltaLenC x) ∧ 0 ≤ (deltaA x 1).2 ∧ (deltaA x 1).2 ≤ 4000 := by
  have hp := h.p
  have d0 := deltaLenC_range h
  have d1 := cellsC_range h _ d0.1
  have e : deltaA x 1 = deltaC x 1 := by unfold deltaA; rw [if_neg (by omega)]
  rw [e]
  unfold deltaC
  by_cases h1 : x.p = 1
  · rw [h1, Int.emod_one, Int.zero_mul, Int.zero_mul]
    rw [if_pos (by omega)]
    exact ⟨rfl, by simp, by simp⟩
  · have : (1 : Int) % x.p = 1 := Int.emod_eq_of_lt (by omega) (by omega)
    rw [this, if_neg (by omega)]
    exact ⟨rfl, by simp only; omega, by simp only; omega⟩
end Go.Proofs.Ytjpgiohdaadieaa
/- Package lay ahead of zero, and of a configuration that may not be. -/
namespace Go.Proofs.Ytjpgiohdaadieaa
open Go.ChangeShapes Go.WideShapes Go.ChangeAt Go.RowKit
open Go.ChangeMaps (open_string shut_string)
set_option linter.unusedVariables false
set_option linter.unusedSimpArgs false
set_option maxRecDepth 100000

theorem lay_clog_neg (x : Cfg) (A : Option Addr) (n c : Nat) (q : Int) (w : World) (q0 : q < 0) : Calls Try.prog 23 #[.agg #[.int .i64 x.h, .int .i64 x.z, .int .i64 x.b, .int .i64 x.r, .int .i64 x.d, .int .i64 x.e, .int .i64 x.s, .int .i64 x.p, .int .i64 x.q, .int .i64 x.t, .slice A n c], .int .i64 q] w fun e w' => e = .returned (.agg #[.int .i64 (0), .int .i64 (0)]) ∧ Below w.heap.size w w' := by
  have bb : Below w.heap.size w ((w.alloc (.cells #[.int .i64 x.h, .int .i64 x.z, .int .i64 x.b, .int .i64 x.r, .int .i64 x.d, .int .i64 x.e, .int .i64 x.s, .int .i64 x.p, .int .i64 x.q, .int .i64 x.t, .slice A n c] 28)).alloc (.cells #[.int .i64 0, .int .i64 0] 64)) := (by repeat (first | exact Below.refl _ _ | assumption | apply below_drewN' | apply Below.drew | refine Below.alloc ?_ (by first | omega | (simp; done) | (simp; omega)) _ | refine Below.setCell ?_ (by first | omega | (simp; done) | (simp; omega)) _))
  have hr0 := Blk.new2 w (.cells #[.int .i64 x.h, .int .i64 x.z, .int .i64 x.b, .int .i64 x.r, .int .i64 x.d, .int .i64 x.e, .int .i64 x.s, .int .i64 x.p, .int .i64 x.q, .int .i64 x.t, .slice A n c] 28) #[.int .i64 0, .int .i64 0] 64
  have z0 := hr0.cell 0 (v := .int .i64 0) rfl
  have z1 := hr0.cell 1 (v := .int .i64 0) rfl
  go_enter Try.func23, Try.ntmps23
  go_wp2
  refine bodyPost_ret (v := .agg #[.int .i64 (0), .int .i64 (0)]) (by simp [results, Try.results23, go_sem, z0, z1]) rfl ⟨rfl, bb⟩
theorem lay_clogA (x : Cfg) (A : Option Addr) (n c : Nat) (q : Int) (w : World) (h : x.B) (q1 : q ≤ 4503599627370496) : Calls Try.prog 23 #[.agg #[.int .i64 x.h, .int .i64 x.z, .int .i64 x.b, .int .i64 x.r, .int .i64 x.d, .int .i64 x.e, .int .i64 x.s, .int .i64 x.p, .int .i64 x.q, .int .i64 x.t, .slice A n c], .int .i64 q] w fun e w' => e = .returned (.agg #[.int .i64 ((clogA x q).1), .int .i64 ((clogA x q).2)]) ∧ Below w.heap.size w w' := by
  unfold clogA
  by_cases q0 : q < 0
  · rewrite [if_pos q0]; exact lay_clog_neg x A n c q w q0
  · rewrite [if_neg q0]; exact lay_clog x A n c q w h (by omega) q1
set_option maxHeartbeats 1000000 in
set_option maxRecDepth 100000 in
theorem lay_of_no (x : Cfg) (A : Option Addr) (n c : Nat) (Z : List (List Int)) (w : World) (h : RG w A n c Z) (hm : mayC x Z = false) :
    Calls Try.prog 9 #[.agg #[.int .i64 x.h, .int .i64 x.z, .int .i64 x.b, .int .i64 x.r, .int .i64 x.d, .int .i64 x.e, .int .i64 x.s, .int .i64 x.p, .int .i64 x.q, .int .i64 x.t, .slice A n c]] w fun e w' => e = .returned (.tuple #[.agg #[.int .i64 0, .int .i64 0, .int .i64 0, .int .i64 0, .int .i64 0, .int .i64 0, .int .i64 0, .int .i64 0, .int .i64 0, .int .i64 0, .slice none 0 0], .int .i64 1]) ∧ Below w.heap.size w w' := by
  have HM := Lib.hid (fun w h => hm ▸ lay_may x A n c Z w h)
  clear hm
  have bb : Below w.heap.size w ((w.alloc (.cells #[.int .i64 x.h, .int .i64 x.z, .int .i64 x.b, .int .i64 x.r, .int .i64 x.d, .int .i64 x.e, .int .i64 x.s, .int .i64 x.p, .int .i64 x.q, .int .i64 x.t, .slice A n c] 24)).alloc (.cells #[.int .i64 0, .int .i64 0, .int .i64 0, .int .i64 0, .int .i64 0, .int .i64 0, .int .i64 0, .int .i64 0, .int .i64 0, .int .i64 0, .slice none 0 0] 28)) := (by repeat (first | exact Below.refl _ _ | assumption | apply below_drewN' | apply Below.drew | refine Below.alloc ?_ (by first | omega | (simp; done) | (simp; omega)) _ | refine Below.setCell ?_ (by first | omega | (simp; done) | (simp; omega)) _))
  have hr0 := Blk.new2 w (.cells #[.int .i64 x.h, .int .i64 x.z, .int .i64 x.b, .int .i64 x.r, .int .i64 x.d, .int .i64 x.e, .int .i64 x.s, .int .i64 x.p, .int .i64 x.q, .int .i64 x.t, .slice A n c] 24) #[.int .i64 0, .int .i64 0, .int .i64 0, .int .i64 0, .int .i64 0, .int .i64 0, .int .i64 0, .int .i64 0, .int .i64 0, .int .i64 0, .slice none 0 0] 28
  have h1 := h.below bb
  go_enter Try.func9, Try.ntmps9
  go_wp2_with fail
  generalize (w.alloc (.cells #[.int .i64 x.h, .int .i64 x.z, .int .i64 x.b, .int .i64 x.r, .int .i64 x.d, .int .i64 x.e, .int .i64 x.s, .int .i64 x.p, .int .i64 x.q, .int .i64 x.t, .slice A n c] 24)).alloc (.cells #[.int .i64 0, .int .i64 0, .int .i64 0, .int .i64 0, .int .i64 0, .int .i64 0, .int .i64 0, .int .i64 0, .int .i64 0, .int .i64 0, .slice none 0 0] 28) = W1 at *
  refine (HM.out _ h1).mono ?_
  rintro e w3 ⟨rfl, hb⟩
  have hR := hr0.below hb hr0.lt
  have b3 := bnext bb hb
  clear hr0 bb hb h1
  have c0 := hR.cell 0 (v := .int .i64 0) rfl
  have c1 := hR.cell 1 (v := .int .i64 0) rfl
  have c2 := hR.cell 2 (v := .int .i64 0) rfl
  have c3 := hR.cell 3 (v := .int .i64 0) rfl
  have c4 := hR.cell 4 (v := .int .i64 0) rfl
  have c5 := hR.cell 5 (v := .int .i64 0) rfl
  have c6 := hR.cell 6 (v := .int .i64 0) rfl
  have c7 := hR.cell 7 (v := .int .i64 0) rfl
  have c8 := hR.cell 8 (v := .int .i64 0) rfl
  have c9 := hR.cell 9 (v := .int .i64 0) rfl
  have c10 := hR.cell 10 (v := .slice none 0 0) rfl
  have g0 := hR.fz 0
  have g1 := hR.fz 1
  have g2 := hR.fz 2
  have g3 := hR.fz 3
  have g4 := hR.fz 4
  have g5 := hR.fz 5
  have g6 := hR.fz 6
  have g7 := hR.fz 7
  have g8 := hR.fz 8
  have g9 := hR.fz 9
  have g10 := hR.fz 10
  go_wp2
  have hf := Blk.set11 hR (.int .i64 0) (.int .i64 0) (.int .i64 0) (.int .i64 0) (.int .i64 0) (.int .i64 0) (.int .i64 0) (.int .i64 0) (.int .i64 0) (.int .i64 0) (.slice none 0 0)
  have bF : Below w.heap.size w (((((((((((w3.setCell ⟨w.heap.size + 1, 0, none⟩ (.int .i64 0)).setCell ⟨w.heap.size + 1, 1, none⟩ (.int .i64 0)).setCell ⟨w.heap.size + 1, 2, none⟩ (.int .i64 0)).setCell ⟨w.heap.size + 1, 3, none⟩ (.int .i64 0)).setCell ⟨w.heap.size + 1, 4, none⟩ (.int .i64 0)).setCell ⟨w.heap.size + 1, 5, none⟩ (.int .i64 0)).setCell ⟨w.heap.size + 1, 6, none⟩ (.int .i64 0)).setCell ⟨w.heap.size + 1, 7, none⟩ (.int .i64 0)).setCell ⟨w.heap.size + 1, 8, none⟩ (.int .i64 0)).setCell ⟨w.heap.size + 1, 9, none⟩ (.int .i64 0)).setCell ⟨w.heap.size + 1, 10, none⟩ (.slice none 0 0)) := (((((((((((b3.setCell (p := ⟨w.heap.size + 1, 0, none⟩) (Nat.le_succ _) _).setCell (p := ⟨w.heap.size + 1, 1, none⟩) (Nat.le_succ _) _).setCell (p := ⟨w.heap.size + 1, 2, none⟩) (Nat.le_succ _) _).setCell (p := ⟨w.heap.size + 1, 3, none⟩) (Nat.le_succ _) _).setCell (p := ⟨w.heap.size + 1, 4, none⟩) (Nat.le_succ _) _).setCell (p := ⟨w.heap.size + 1, 5, none⟩) (Nat.le_succ _) _).setCell (p := ⟨w.heap.size + 1, 6, none⟩) (Nat.le_succ _) _).setCell (p := ⟨w.heap.size + 1, 7, none⟩) (Nat.le_succ _) _).setCell (p := ⟨w.heap.size + 1, 8, none⟩) (Nat.le_succ _) _).setCell (p := ⟨w.heap.size + 1, 9, none⟩) (Nat.le_succ _) _).setCell (p := ⟨w.heap.size + 1, 10, none⟩) (Nat.le_succ _) _)
  generalize (((((((((((w3.setCell ⟨w.heap.size + 1, 0, none⟩ (.int .i64 0)).setCell ⟨w.heap.size + 1, 1, none⟩ (.int .i64 0)).setCell ⟨w.heap.size + 1, 2, none⟩ (.int .i64 0)).setCell ⟨w.heap.size + 1, 3, none⟩ (.int .i64 0)).setCell ⟨w.heap.size + 1, 4, none⟩ (.int .i64 0)).setCell ⟨w.heap.size + 1, 5, none⟩ (.int .i64 0)).setCell ⟨w.heap.size + 1, 6, none⟩ (.int .i64 0)).setCell ⟨w.heap.size + 1, 7, none⟩ (.int .i64 0)).setCell ⟨w.heap.size + 1, 8, none⟩ (.int .i64 0)).setCell ⟨w.heap.size + 1, 9, none⟩ (.int .i64 0)).setCell ⟨w.heap.size + 1, 10, none⟩ (.slice none 0 0)) = WF at *
  clear c0 c1 c2 c3 c4 c5 c6 c7 c8 c9 c10 g0 g1 g2 g3 g4 g5 g6 g7 g8 g9 g10
  have z0 := hf.cell 0 (v := .int .i64 0) rfl
  have z1 := hf.cell 1 (v := .int .i64 0) rfl
  have z2 := hf.cell 2 (v := .int .i64 0) rfl
  have z3 := hf.cell 3 (v := .int .i64 0) rfl
  have z4 := hf.cell 4 (v := .int .i64 0) rfl
  have z5 := hf.cell 5 (v := .int .i64 0) rfl
  have z6 := hf.cell 6 (v := .int .i64 0) rfl
  have z7 := hf.cell 7 (v := .int .i64 0) rfl
  have z8 := hf.cell 8 (v := .int .i64 0) rfl
  have z9 := hf.cell 9 (v := .int .i64 0) rfl
  have z10 := hf.cell 10 (v := .slice none 0 0) rfl
  refine bodyPost_ret (v := .tuple #[.agg #[.int .i64 0, .int .i64 0, .int .i64 0, .int .i64 0, .int .i64 0, .int .i64 0, .int .i64 0, .int .i64 0, .int .i64 0, .int .i64 0, .slice none 0 0], .int .i64 1]) (by simp [results, Try.results9, go_sem, z0, z1, z2, z3, z4, z5, z6, z7, z8, z9, z10]) rfl ⟨rfl, bF⟩
end Go.Proofs.Ytjpgiohdaadieaa
/- ClogApart: the walk. -/
namespace Go.Proofs.Ytjpgiohdaadieaa
open Go.ChangeShapes Go.WideShapes Go.ChangeAt Go.RowKit
open Go.ChangeMaps (open_string shut_string)
set_option linter.unusedVariables false
set_option linter.unusedSimpArgs false
set_option maxRecDepth 100000
open Go.Deep

theorem may_empty {x : Cfg} (h : x.B) : mayG x.t ⟨0, []⟩ = true := by
  have := h.t
  unfold mayG mayT
  simp
  omega
def NV (T : List TolR) : Prop := ∀ t ∈ T, ∀ v ∈ t.V, N64 v.n
set_option maxHeartbeats 8000000 in
theorem apart24 (x : Cfg) (A0 : Option Addr) (n0 c0 : Nat) (Z : List (List Int)) (e1 : Int) (A1 : Option Addr) (n1 c1 : Nat) (T1 : List TolR) (e2 : Int) (A2 : Option Addr) (n2 c2 : Nat) (T2 : List TolR) (w : World) (hz : RG w A0 n0 c0 Z) (h1 : RT w A1 n1 c1 T1) (h2 : RT w A2 n2 c2 T2) (hN1 : NV T1) (hN2 : NV T2) :
    Calls Try.prog 6 #[.agg #[.int .i64 x.h, .int .i64 x.z, .int .i64 x.b, .int .i64 x.r, .int .i64 x.d, .int .i64 x.e, .int .i64 x.s, .int .i64 x.p, .int .i64 x.q, .int .i64 x.t, .slice A0 n0 c0], .agg #[.int .i64 e1, .slice A1 n1 c1], .agg #[.int .i64 e2, .slice A2 n2 c2]] w fun e w' => e = .returned (.bool true) ∧ Below w.heap.size w w' := by
  have HF0 := Lib.hid (fun w h => few_any x A0 n0 c0 Z w h)
  have HF1 := Lib.hid (fun w h => few24_any e1 A1 n1 c1 T1 w h)
  have HF2 := Lib.hid (fun w h => few24_any e2 A2 n2 c2 T2 w h)
  obtain ⟨bm, hm⟩ : ∃ b, mayC x Z = b := ⟨_, rfl⟩
  have HO := Lib.hid (fun w h (hm : mayC x Z = true) => lay_of x A0 n0 c0 Z w h hm)
  have HO' := Lib.hid (fun w h (hm : mayC x Z = false) => lay_of_no x A0 n0 c0 Z w h hm)
  have hxB := Lib.hid (fun (hm : mayC x Z = true) => mayC_B hm)
  have HE1 := Lib.hid (fun B k w h (hx : x.B) => clog_encode x (some B) n0 k e1 A1 n1 c1 T1 w h hx)
  have HE2 := Lib.hid (fun B k w h (hx : x.B) => clog_encode x (some B) n0 k e2 A2 n2 c2 T2 w h hx)
  have HE3 := Lib.hid (fun B k w (hx : x.B) => clog_encode x (some B) n0 k 0 none 0 0 [] w (RT.none_ w) hx)
  have hinj := Lib.hid (fun (hx : x.B) h1 h2 => encGT_inj (g := ⟨e1, T1⟩) (h := ⟨e2, T2⟩) hx h1 h2 hN1 hN2)
  have hlen1 := Lib.hid (fun h => encGT_len (x := x) (g := ⟨e1, T1⟩) h)
  have hlen2 := Lib.hid (fun h => encGT_len (x := x) (g := ⟨e2, T2⟩) h)
  have hlen3 := Lib.hid (fun h => encGT_len (x := x) (g := ⟨0, []⟩) h)
  have hno1 := Lib.hid (fun h => encGT_no (x := x) (g := ⟨e1, T1⟩) h)
  have hno2 := Lib.hid (fun h => encGT_no (x := x) (g := ⟨e2, T2⟩) h)
  have hmz := Lib.hid (fun (hx : x.B) => may_empty hx)
  have HS := Lib.hid (fun w h h2 => clog_Same e1 A1 n1 c1 T1 e2 A2 n2 c2 T2 w h h2)
  replace hm := Lib.hid hm
  clear hN1 hN2

  have hX := ((Blk.new w #[.int .i64 x.h, .int .i64 x.z, .int .i64 x.b, .int .i64 x.r, .int .i64 x.d, .int .i64 x.e, .int .i64 x.s, .int .i64 x.p, .int .i64 x.q, .int .i64 x.t, .slice A0 n0 c0] 24).alloc (.cells #[.int .i64 e1, .slice A1 n1 c1] 39)).alloc (.cells #[.int .i64 e2, .slice A2 n2 c2] 39)
  have hG := (Blk.new (w.alloc (.cells #[.int .i64 x.h, .int .i64 x.z, .int .i64 x.b, .int .i64 x.r, .int .i64 x.d, .int .i64 x.e, .int .i64 x.s, .int .i64 x.p, .int .i64 x.q, .int .i64 x.t, .slice A0 n0 c0] 24)) #[.int .i64 e1, .slice A1 n1 c1] 39).alloc (.cells #[.int .i64 e2, .slice A2 n2 c2] 39)
  have hH := Blk.new ((w.alloc (.cells #[.int .i64 x.h, .int .i64 x.z, .int .i64 x.b, .int .i64 x.r, .int .i64 x.d, .int .i64 x.e, .int .i64 x.s, .int .i64 x.p, .int .i64 x.q, .int .i64 x.t, .slice A0 n0 c0] 24)).alloc (.cells #[.int .i64 e1, .slice A1 n1 c1] 39)) #[.int .i64 e2, .slice A2 n2 c2] 39
  have bl : Below w.heap.size w (((w.alloc (.cells #[.int .i64 x.h, .int .i64 x.z, .int .i64 x.b, .int .i64 x.r, .int .i64 x.d, .int .i64 x.e, .int .i64 x.s, .int .i64 x.p, .int .i64 x.q, .int .i64 x.t, .slice A0 n0 c0] 24)).alloc (.cells #[.int .i64 e1, .slice A1 n1 c1] 39)).alloc (.cells #[.int .i64 e2, .slice A2 n2 c2] 39)) := (by repeat (first | exact Below.refl _ _ | assumption | apply below_drewN' | apply Below.drew | refine Below.alloc ?_ (by first | omega | (simp; done) | (simp; omega)) _ | refine Below.setCell ?_ (by first | omega | (simp; done) | (simp; omega)) _))
  simp only [World.size_alloc] at hG hH
  go_enter Try.func6, Try.ntmps6
  go_wp2_with fail
  generalize (((w.alloc (.cells #[.int .i64 x.h, .int .i64 x.z, .int .i64 x.b, .int .i64 x.r, .int .i64 x.d, .int .i64 x.e, .int .i64 x.s, .int .i64 x.p, .int .i64 x.q, .int .i64 x.t, .slice A0 n0 c0] 24)).alloc (.cells #[.int .i64 e1, .slice A1 n1 c1] 39)).alloc (.cells #[.int .i64 e2, .slice A2 n2 c2] 39)) = W3 at *
  refine (first24_any _).mono ?_
  rintro r w4 ⟨rfl, b4⟩
  replace bl := Below.next bl b4 (Nat.le_refl _); replace hX := hX.below b4 hX.lt; replace hG := hG.below b4 hG.lt; replace hH := hH.below b4 hH.lt; have b4h := Lib.hid b4; clear b4
  have a0 := hX.cell 0 (v := .int .i64 x.h) rfl; have a1 := hX.cell 1 (v := .int .i64 x.z) rfl; have a2 := hX.cell 2 (v := .int .i64 x.b) rfl; have a3 := hX.cell 3 (v := .int .i64 x.r) rfl; have a4 := hX.cell 4 (v := .int .i64 x.d) rfl; have a5 := hX.cell 5 (v := .int .i64 x.e) rfl; have a6 := hX.cell 6 (v := .int .i64 x.s) rfl; have a7 := hX.cell 7 (v := .int .i64 x.p) rfl; have a8 := hX.cell 8 (v := .int .i64 x.q) rfl; have a9 := hX.cell 9 (v := .int .i64 x.t) rfl; have a10 := hX.cell 10 (v := .slice A0 n0 c0) rfl
  go_wp2_with fail
  refine (HF0.out _ (hz.below bl)).mono ?_
  rintro r w5 ⟨⟨b0, rfl⟩, b5⟩
  replace bl := Below.next bl b5 (Nat.le_refl _); replace hX := hX.below b5 hX.lt; replace hG := hG.below b5 hG.lt; replace hH := hH.below b5 hH.lt; have b5h := Lib.hid b5; clear b5
  clear a0 a1 a2 a3 a4 a5 a6 a7 a8 a9 a10
  cases b0 with
  | false => (go_wp2_with fail; refine (first24_any _).mono ?_; rintro e w9 ⟨rfl, b9⟩; have bl9 := Below.next bl b9 (Nat.le_refl _); go_wp2; go_ret; exact ⟨rfl, bl9⟩)
  | true =>
  have g0 := hG.cell 0 (v := .int .i64 e1) rfl; have g1 := hG.cell 1 (v := .slice A1 n1 c1) rfl; have g2 := hH.cell 0 (v := .int .i64 e2) rfl; have g3 := hH.cell 1 (v := .slice A2 n2 c2) rfl
  go_wp2_with fail
  refine (HF1.out _ (h1.below bl)).mono ?_
  rintro r w6 ⟨⟨b1, rfl, _⟩, b6⟩
  replace bl := Below.next bl b6 (Nat.le_refl _); replace hX := hX.below b6 hX.lt; replace hG := hG.below b6 hG.lt; replace hH := hH.below b6 hH.lt; have b6h := Lib.hid b6; clear b6
  clear g0 g1 g2 g3
  cases b1 with
  | false => (go_wp2_with fail; refine (first24_any _).mono ?_; rintro e w9 ⟨rfl, b9⟩; have bl9 := Below.next bl b9 (Nat.le_refl _); go_wp2; go_ret; exact ⟨rfl, bl9⟩)
  | true =>
  have g0 := hG.cell 0 (v := .int .i64 e1) rfl; have g1 := hG.cell 1 (v := .slice A1 n1 c1) rfl; have g2 := hH.cell 0 (v := .int .i64 e2) rfl; have g3 := hH.cell 1 (v := .slice A2 n2 c2) rfl
  go_wp2_with fail
  refine (HF2.out _ (h2.below bl)).mono ?_
  rintro r w7 ⟨⟨b2, rfl, _⟩, b7⟩
  replace bl := Below.next bl b7 (Nat.le_refl _); replace hX := hX.below b7 hX.lt; replace hG := hG.below b7 hG.lt; replace hH := hH.below b7 hH.lt; have b7h := Lib.hid b7; clear b7
  clear g0 g1 g2 g3
  cases b2 with
  | false => (go_wp2_with fail; refine (first24_any _).mono ?_; rintro e w9 ⟨rfl, b9⟩; have bl9 := Below.next bl b9 (Nat.le_refl _); go_wp2; go_ret; exact ⟨rfl, bl9⟩)
  | true =>
  have a0 := hX.cell 0 (v := .int .i64 x.h) rfl; have a1 := hX.cell 1 (v := .int .i64 x.z) rfl; have a2 := hX.cell 2 (v := .int .i64 x.b) rfl; have a3 := hX.cell 3 (v := .int .i64 x.r) rfl; have a4 := hX.cell 4 (v := .int .i64 x.d) rfl; have a5 := hX.cell 5 (v := .int .i64 x.e) rfl; have a6 := hX.cell 6 (v := .int .i64 x.s) rfl; have a7 := hX.cell 7 (v := .int .i64 x.p) rfl; have a8 := hX.cell 8 (v := .int .i64 x.q) rfl; have a9 := hX.cell 9 (v := .int .i64 x.t) rfl; have a10 := hX.cell 10 (v := .slice A0 n0 c0) rfl
  go_wp2_with fail
  cases bm with
  | false =>
    refine (HO'.out _ (hz.below bl) hm.out).mono ?_
    rintro r w8 ⟨rfl, b8⟩
    replace bl := Below.next bl b8 (Nat.le_refl _); replace hX := hX.below b8 hX.lt; replace hG := hG.below b8 hG.lt; replace hH := hH.below b8 hH.lt; have b8h := Lib.hid b8; clear b8
    clear a0 a1 a2 a3 a4 a5 a6 a7 a8 a9 a10
    have ba := (Below.refl w8.heap.size w8).alloc (Nat.le_refl _) (.cells #[.int .i64 0, .int .i64 0, .int .i64 0, .int .i64 0, .int .i64 0, .int .i64 0, .int .i64 0, .int .i64 0, .int .i64 0, .int .i64 0, .slice none 0 0] 28)
    replace bl := Below.next bl ba (Nat.le_refl _); replace hX := hX.below ba hX.lt; replace hG := hG.below ba hG.lt; replace hH := hH.below ba hH.lt; have bah := Lib.hid ba; clear ba
    (go_wp2_with fail; refine (first24_any _).mono ?_; rintro e w9 ⟨rfl, b9⟩; have bl9 := Below.next bl b9 (Nat.le_refl _); go_wp2; go_ret; exact ⟨rfl, bl9⟩)
  | true =>
  refine (HO.out _ (hz.below bl) hm.out).mono ?_
  rintro r w8 ⟨B, k, rfl, b8⟩
  replace bl := Below.next bl b8 (Nat.le_refl _); replace hX := hX.below b8 hX.lt; replace hG := hG.below b8 hG.lt; replace hH := hH.below b8 hH.lt; have b8h := Lib.hid b8; clear b8
  clear a0 a1 a2 a3 a4 a5 a6 a7 a8 a9 a10
  have hx := hxB.out hm.out
  have hxh := Lib.hid hx
  have ba := (Below.refl w8.heap.size w8).alloc (Nat.le_refl _) (.cells #[.int .i64 x.h, .int .i64 x.z, .int .i64 x.b, .int .i64 x.r, .int .i64 x.d, .int .i64 x.e, .int .i64 x.s, .int .i64 x.p, .int .i64 x.q, .int .i64 x.t, .slice (some B) n0 k] 28)
  have hL := Blk.new w8 #[.int .i64 x.h, .int .i64 x.z, .int .i64 x.b, .int .i64 x.r, .int .i64 x.d, .int .i64 x.e, .int .i64 x.s, .int .i64 x.p, .int .i64 x.q, .int .i64 x.t, .slice (some B) n0 k] 28
  replace bl := Below.next bl ba (Nat.le_refl _); replace hX := hX.below ba hX.lt; replace hG := hG.below ba hG.lt; replace hH := hH.below ba hH.lt; have bah := Lib.hid ba; clear ba
  have a0 := hL.cell 0 (v := .int .i64 x.h) rfl; have a1 := hL.cell 1 (v := .int .i64 x.z) rfl; have a2 := hL.cell 2 (v := .int .i64 x.b) rfl; have a3 := hL.cell 3 (v := .int .i64 x.r) rfl; have a4 := hL.cell 4 (v := .int .i64 x.d) rfl; have a5 := hL.cell 5 (v := .int .i64 x.e) rfl; have a6 := hL.cell 6 (v := .int .i64 x.s) rfl; have a7 := hL.cell 7 (v := .int .i64 x.p) rfl; have a8 := hL.cell 8 (v := .int .i64 x.q) rfl; have a9 := hL.cell 9 (v := .int .i64 x.t) rfl; have a10 := hL.cell 10 (v := .slice (some B) n0 k) rfl
  have g0 := hG.cell 0 (v := .int .i64 e1) rfl; have g1 := hG.cell 1 (v := .slice A1 n1 c1) rfl; have g2 := hH.cell 0 (v := .int .i64 e2) rfl; have g3 := hH.cell 1 (v := .slice A2 n2 c2) rfl
  obtain ⟨t1, ht1⟩ : ∃ t, (encGT x ⟨e1, T1⟩).length = t := ⟨_, rfl⟩
  obtain ⟨t2, ht2⟩ : ∃ t, (encGT x ⟨e2, T2⟩).length = t := ⟨_, rfl⟩
  have ht3 := hlen3.out (hmz.out hx)
  obtain ⟨tz, htz⟩ : ∃ t, textN x = t := ⟨_, rfl⟩
  rw [htz] at ht3
  obtain ⟨bg, hbg⟩ : ∃ b, mayG x.t ⟨e1, T1⟩ = b := ⟨_, rfl⟩
  obtain ⟨bh, hbh⟩ : ∃ b, mayG x.t ⟨e2, T2⟩ = b := ⟨_, rfl⟩
  obtain ⟨q1, hE1⟩ : ∃ q, encGE x.t ⟨e1, T1⟩ = q := ⟨_, rfl⟩
  obtain ⟨q2, hE2⟩ : ∃ q, encGE x.t ⟨e2, T2⟩ = q := ⟨_, rfl⟩
  have hv1 : Hid (q1 = if bg = true then 0 else 1) := Lib.hid (by rw [← hE1]; unfold encGE; rw [hbg])
  have hv2 : Hid (q2 = if bh = true then 0 else 1) := Lib.hid (by rw [← hE2]; unfold encGE; rw [hbh])
  have hE3 : encGE x.t ⟨0, []⟩ = 0 := encGE_zero.2 (hmz.out hx)
  have hq : Hid (bg = true → bh = true → t1 = tz ∧ t2 = tz ∧ (encGT x ⟨e1, T1⟩ == encGT x ⟨e2, T2⟩) = sameG ⟨e1, T1⟩ ⟨e2, T2⟩) := Lib.hid (fun h1 h2 => ⟨by rw [← ht1, ← htz]; exact hlen1.out (hbg.trans h1), by rw [← ht2, ← htz]; exact hlen2.out (hbh.trans h2), hinj.out hx (hbg.trans h1) (hbh.trans h2)⟩)
  have hq1 : Hid (bg = false → t1 = 0) := Lib.hid (fun h => by rw [← ht1, hno1.out (hbg.trans h)]; rfl)
  have hq2 : Hid (bh = false → t2 = 0) := Lib.hid (fun h => by rw [← ht2, hno2.out (hbh.trans h)]; rfl)
  replace HE1 := Lib.hid (fun w h => hE1 ▸ HE1.out B k w h hx)
  replace HE2 := Lib.hid (fun w h => hE2 ▸ HE2.out B k w h hx)
  replace HE3 := Lib.hid (fun w => hE3 ▸ HE3.out B k w hx)
  obtain ⟨ss, hss⟩ : ∃ s, sameG ⟨e1, T1⟩ ⟨e2, T2⟩ = s := ⟨_, rfl⟩
  rw [hss] at HS hq
  generalize encGT x ⟨e1, T1⟩ = F1 at *
  generalize encGT x ⟨e2, T2⟩ = F2 at *
  generalize encGT x ⟨0, []⟩ = F3 at *
  replace ht1 := Lib.hid ht1
  replace ht2 := Lib.hid ht2
  replace ht3 := Lib.hid ht3
  clear hss hE1 hE2 hE3 hbg hbh htz hx hlen1 hlen2 hlen3 hno1 hno2 hinj HF0 HF1 HF2 HO HO' hxB
  go_wp2_with fail
  generalize w8.alloc (.cells #[.int .i64 x.h, .int .i64 x.z, .int .i64 x.b, .int .i64 x.r, .int .i64 x.d, .int .i64 x.e, .int .i64 x.s, .int .i64 x.p, .int .i64 x.q, .int .i64 x.t, .slice (some B) n0 k] 28) = W9 at *
  refine (HE1.out _ (h1.below bl)).mono ?_
  rintro r w10 ⟨v1, rfl, hO1, b10⟩
  obtain ⟨B1, k1, rfl, hR1⟩ := OB.sl hO1 t1 ht1.out
  replace bl := Below.next bl b10 (Nat.le_refl _); replace hX := hX.below b10 hX.lt; replace hG := hG.below b10 hG.lt; replace hH := hH.below b10 hH.lt; have b10h := Lib.hid b10; clear b10
  replace hL := hL.below b10h.out hL.lt
  clear a0 a1 a2 a3 a4 a5 a6 a7 a8 a9 a10 g0 g1 g2 g3 hO1
  have a0 := hL.cell 0 (v := .int .i64 x.h) rfl; have a1 := hL.cell 1 (v := .int .i64 x.z) rfl; have a2 := hL.cell 2 (v := .int .i64 x.b) rfl; have a3 := hL.cell 3 (v := .int .i64 x.r) rfl; have a4 := hL.cell 4 (v := .int .i64 x.d) rfl; have a5 := hL.cell 5 (v := .int .i64 x.e) rfl; have a6 := hL.cell 6 (v := .int .i64 x.s) rfl; have a7 := hL.cell 7 (v := .int .i64 x.p) rfl; have a8 := hL.cell 8 (v := .int .i64 x.q) rfl; have a9 := hL.cell 9 (v := .int .i64 x.t) rfl; have a10 := hL.cell 10 (v := .slice (some B) n0 k) rfl
  have g0 := hG.cell 0 (v := .int .i64 e1) rfl; have g1 := hG.cell 1 (v := .slice A1 n1 c1) rfl; have g2 := hH.cell 0 (v := .int .i64 e2) rfl; have g3 := hH.cell 1 (v := .slice A2 n2 c2) rfl
  go_wp2_with fail
  refine (HE2.out _ (h2.below bl)).mono ?_
  rintro r w11 ⟨v2, rfl, hO2, b11⟩
  obtain ⟨B2, k2, rfl, hR2⟩ := OB.sl hO2 t2 ht2.out
  replace bl := Below.next bl b11 (Nat.le_refl _); replace hX := hX.below b11 hX.lt; replace hG := hG.below b11 hG.lt; replace hH := hH.below b11 hH.lt; have b11h := Lib.hid b11; clear b11
  replace hL := hL.below b11h.out hL.lt
  replace hR1 := hR1.below b11h.out
  clear a0 a1 a2 a3 a4 a5 a6 a7 a8 a9 a10 g0 g1 g2 g3 hO2
  have a0 := hL.cell 0 (v := .int .i64 x.h) rfl; have a1 := hL.cell 1 (v := .int .i64 x.z) rfl; have a2 := hL.cell 2 (v := .int .i64 x.b) rfl; have a3 := hL.cell 3 (v := .int .i64 x.r) rfl; have a4 := hL.cell 4 (v := .int .i64 x.d) rfl; have a5 := hL.cell 5 (v := .int .i64 x.e) rfl; have a6 := hL.cell 6 (v := .int .i64 x.s) rfl; have a7 := hL.cell 7 (v := .int .i64 x.p) rfl; have a8 := hL.cell 8 (v := .int .i64 x.q) rfl; have a9 := hL.cell 9 (v := .int .i64 x.t) rfl; have a10 := hL.cell 10 (v := .slice (some B) n0 k) rfl
  have hb3 : ∀ w, (Instr.build 39 #[]).run Try.prog w = .ok (.agg #[.int .i64 0, .slice none 0 0]) w := fun w => by kernel_rfl
  go_wp2_with fail
  refine (HE3.out _).mono ?_
  rintro r w12 ⟨v3, rfl, hO3, b12⟩
  obtain ⟨B3, k3, rfl, hR3⟩ := OB.sl hO3 tz ht3.out
  replace bl := Below.next bl b12 (Nat.le_refl _); replace hX := hX.below b12 hX.lt; replace hG := hG.below b12 hG.lt; replace hH := hH.below b12 hH.lt; have b12h := Lib.hid b12; clear b12
  replace hR1 := hR1.below b12h.out
  replace hR2 := hR2.below b12h.out
  clear a0 a1 a2 a3 a4 a5 a6 a7 a8 a9 a10 hO3 hR3
  have HF := Lib.hid (fun w => first24_any w)
  cases bg with
  | false =>
    obtain rfl : q1 = 1 := hv1.out
    obtain rfl : t1 = 0 := hq1.out rfl
    go_wp2_with fail
    refine (HF.out _).mono ?_
    rintro e w13 ⟨rfl, b13⟩
    have bl13 := Below.next bl b13 (Nat.le_refl _)
    go_wp2
    go_ret
    exact ⟨rfl, bl13⟩
  | true =>
  obtain rfl : q1 = 0 := hv1.out
  cases bh with
  | false =>
    obtain rfl : q2 = 1 := hv2.out
    obtain rfl : t2 = 0 := hq2.out rfl
    go_wp2_with fail
    refine (HF.out _).mono ?_
    rintro e w13 ⟨rfl, b13⟩
    have bl13 := Below.next bl b13 (Nat.le_refl _)
    by_cases ht0 : t1 = 0
    · subst ht0
      go_wp2
      go_ret
      exact ⟨rfl, bl13⟩
    · have ht0' : ((t1 : Int) == 0) = false := by rw [beq_eq_false_iff_ne]; omega
      go_wp2
      go_ret
      exact ⟨rfl, bl13⟩
  | true =>
  obtain rfl : q2 = 0 := hv2.out
  obtain ⟨hta, htb, hsame⟩ := hq.out rfl rfl
  rw [hta] at hR1
  rw [htb] at hR2
  have HBy := Lib.hid (fun w (h : RB w B1 tz k1 F1) (h' : RB w B2 tz k2 F2) => hsame ▸ ref_Bytes B1 B2 tz k1 tz k2 F1 F2 w h h')
  subst hta htb
  clear hsame
  have hGlt := hG.lt
  have hHlt := hH.lt
  have keep := fun {w1 w2 : World} (h : Below w12.heap.size w12 w1) (hb : Below w1.heap.size w1 w2) => Below.next h hb (Nat.le_refl _)
  have hN1 := h1.below bl
  have hN2 := h2.below bl
  go_wp2_with fail
  have hvo := Free.val
  refine Free.wp_facts (M := [0, 1, 3, 7, 15, 31, 63, 127, 63, 319, 1023, 2047, 4095, 8191, 16383, 8191, 40959, 131071, 262143, 524287, 1048575, 1048575, 4194303, 1048575, 1048575, 33554431, 67108863, 134217727, 268435455]) (D := [[], [(0, 74)], [(1, 75)], [(2, 76), (1, 75)], [(1, 75), (3, 77)], [(4, 78)], [(5, 79)], [(6, 80), (5, 79)], [(5, 79)], [(8, 82), (5, 79)], [(7, 81), (9, 83), (5, 79)], [(5, 79), (10, 84)], [(11, 85)], [(12, 86)], [(13, 87), (12, 86)], [(12, 86)], [(15, 89), (12, 86)], [(14, 88), (16, 90), (12, 86)], [(12, 86), (17, 91)], [(18, 92)], [(19, 93)], [(19, 93)], [(20, 94), (21, 95), (19, 93)], [(19, 93)], [(19, 93)], [(23, 97), (24, 98), (19, 93)], [(22, 96), (25, 99), (19, 93)], [(19, 93), (26, 100)], [(27, 101)]]) (outs := [28]) (soles := []) (E := [(0, 74, false), (1, 75, false), (2, 76, false), (3, 77, false), (4, 78, false), (5, 79, false), (6, 80, false), (7, 81, false), (8, 82, false), (9, 83, false), (10, 84, false), (11, 85, false), (12, 86, false), (13, 87, false), (14, 88, false), (15, 89, false), (16, 90, false), (17, 91, false), (18, 92, false), (19, 93, false), (20, 94, false), (21, 95, false), (22, 96, false), (23, 97, false), (24, 98, false), (25, 99, false), (26, 100, false), (27, 101, false), (28, 6, true)]) (N := 102) (S := (fun w' => Below w12.heap.size w12 w')) [Free.Fact.is ?_, Free.Fact.is ?_, Free.Fact.is ?_, Free.Fact.is ?_, Free.Fact.is ?_, Free.Fact.is ?_, Free.Fact.is ?_, Free.Fact.is ?_, Free.Fact.is ?_, Free.Fact.is ?_, Free.Fact.is ?_, Free.Fact.is ?_, Free.Fact.is ?_, Free.Fact.is ?_, Free.Fact.is ?_, Free.Fact.is ?_, Free.Fact.is ?_, Free.Fact.is ?_, Free.Fact.is ?_, Free.Fact.is ?_, Free.Fact.is ?_, Free.Fact.is ?_, Free.Fact.is ?_, Free.Fact.is ?_, Free.Fact.is ?_, Free.Fact.is ?_, Free.Fact.is ?_, Free.Fact.is ?_, Free.Fact.is ?_] (by kernel_rfl) (by kernel_rfl) rfl ((Below.refl _ _).drew) ?_ ?_
  rotate_left 29
  refine Free.cons ?_ ?_
  · intro w' hS; intro K hK; refine Free.run_yes (by rfl) ?_; (go_simp; go_at_call 7; refine (HF.out _).mono ?_; rintro e w' ⟨rfl, hb⟩; go_simp; refine Free.c hK (keep hS hb) hb ?_; exact rfl)
  refine Free.cons ?_ ?_
  · intro w' hS; (rintro _ rfl); intro K hK; first | (refine Free.run_yes (by rfl) ?_; go_simp; refine Free.o hK hS ?_; exact rfl) | (refine Free.run_no (by rfl) (Free.o hK hS ?_); exact rfl)
  refine Free.cons ?_ ?_
  · intro w' hS; (rintro _ rfl); intro K hK; first | (refine Free.run_yes (by rfl) ?_; go_simp; refine Free.o hK hS ?_; exact rfl) | (refine Free.run_no (by rfl) (Free.o hK hS ?_); exact rfl)
  refine Free.cons ?_ ?_
  · intro w' hS; (rintro _ rfl); (rintro _ rfl); intro K hK; first | (refine Free.run_yes (by rfl) ?_; go_simp; refine Free.o hK hS ?_; exact rfl) | (refine Free.run_no (by rfl) (Free.o hK hS ?_); exact rfl)
  refine Free.cons ?_ ?_
  · intro w' hS; (rintro _ rfl); (rintro _ rfl); intro K hK; first | (refine Free.run_yes (by rfl) ?_; go_simp; refine Free.o hK hS ?_; exact rfl) | (refine Free.run_no (by rfl) (Free.o hK hS ?_); exact rfl)
  refine Free.cons ?_ ?_
  · intro w' hS; (rintro _ rfl); intro K hK; first | (refine Free.run_yes (by rfl) ?_; go_simp; refine Free.o hK hS ?_; exact rfl) | (refine Free.run_no (by rfl) (Free.o hK hS ?_); exact rfl)
  refine Free.cons ?_ ?_
  · intro w' hS; (rintro _ rfl); intro K hK; first | (refine Free.run_yes (by rfl) ?_; go_simp; refine Free.o hK hS ?_; exact rfl) | (refine Free.run_no (by rfl) (Free.o hK hS ?_); exact rfl)
  refine Free.cons ?_ ?_
  · intro w' hS; (rintro _ rfl); (rintro _ rfl); intro K hK; first | (refine Free.run_yes (by rfl) ?_; go_simp; refine Free.o hK hS ?_; exact rfl) | (refine Free.run_no (by rfl) (Free.o hK hS ?_); exact rfl)
  refine Free.cons ?_ ?_
  · intro w' hS; (rintro _ rfl); intro K hK; first | (refine Free.run_yes (by rfl) ?_; go_simp; refine Free.o hK hS ?_; exact rfl) | (refine Free.run_no (by rfl) (Free.o hK hS ?_); exact rfl)
  refine Free.cons ?_ ?_
  · intro w' hS; (rintro _ rfl); (rintro _ rfl); intro K hK; first | (refine Free.run_yes (by rfl) ?_; go_simp; refine Free.o hK hS ?_; exact rfl) | (refine Free.run_no (by rfl) (Free.o hK hS ?_); exact rfl)
  refine Free.cons ?_ ?_
  · intro w' hS; (rintro _ rfl); (rintro _ rfl); (rintro _ rfl); intro K hK; first | (refine Free.run_yes (by rfl) ?_; go_simp; refine Free.o hK hS ?_; exact rfl) | (refine Free.run_no (by rfl) (Free.o hK hS ?_); exact rfl)
  refine Free.cons ?_ ?_
  · intro w' hS; (rintro _ rfl); (rintro _ rfl); intro K hK; first | (refine Free.run_yes (by rfl) ?_; go_simp; refine Free.o hK hS ?_; exact rfl) | (refine Free.run_no (by rfl) (Free.o hK hS ?_); exact rfl)
  refine Free.cons ?_ ?_
  · intro w' hS; (rintro _ rfl); intro K hK; first | (refine Free.run_yes (by rfl) ?_; go_simp; refine Free.o hK hS ?_; exact rfl) | (refine Free.run_no (by rfl) (Free.o hK hS ?_); exact rfl)
  refine Free.cons ?_ ?_
  · intro w' hS; (rintro _ rfl); intro K hK; first | (refine Free.run_yes (by rfl) ?_; go_simp; refine Free.o hK hS ?_; exact rfl) | (refine Free.run_no (by rfl) (Free.o hK hS ?_); exact rfl)
  refine Free.cons ?_ ?_
  · intro w' hS; (rintro _ rfl); (rintro _ rfl); intro K hK; first | (refine Free.run_yes (by rfl) ?_; go_simp; refine Free.o hK hS ?_; exact rfl) | (refine Free.run_no (by rfl) (Free.o hK hS ?_); exact rfl)
  refine Free.cons ?_ ?_
  · intro w' hS; (rintro _ rfl); intro K hK; first | (refine Free.run_yes (by rfl) ?_; go_simp; refine Free.o hK hS ?_; exact rfl) | (refine Free.run_no (by rfl) (Free.o hK hS ?_); exact rfl)
  refine Free.cons ?_ ?_
  · intro w' hS; (rintro _ rfl); (rintro _ rfl); intro K hK; first | (refine Free.run_yes (by rfl) ?_; go_simp; refine Free.o hK hS ?_; exact rfl) | (refine Free.run_no (by rfl) (Free.o hK hS ?_); exact rfl)
  refine Free.cons ?_ ?_
  · intro w' hS; (rintro _ rfl); (rintro _ rfl); (rintro _ rfl); intro K hK; first | (refine Free.run_yes (by rfl) ?_; go_simp; refine Free.o hK hS ?_; exact rfl) | (refine Free.run_no (by rfl) (Free.o hK hS ?_); exact rfl)
  refine Free.cons ?_ ?_
  · intro w' hS; (rintro _ rfl); (rintro _ rfl); intro K hK; first | (refine Free.run_yes (by rfl) ?_; go_simp; refine Free.o hK hS ?_; exact rfl) | (refine Free.run_no (by rfl) (Free.o hK hS ?_); exact rfl)
  refine Free.cons ?_ ?_
  · intro w' hS; (rintro _ rfl); intro K hK; first | (refine Free.run_yes (by rfl) ?_; go_simp; refine Free.o hK hS ?_; exact rfl) | (refine Free.run_no (by rfl) (Free.o hK hS ?_); exact rfl)
  refine Free.cons ?_ ?_
  · intro w' hS; (rintro _ rfl); intro K hK; first | (refine Free.run_yes (by rfl) ?_; go_simp; refine Free.o hK hS ?_; exact rfl) | (refine Free.run_no (by rfl) (Free.o hK hS ?_); exact rfl)
  refine Free.cons ?_ ?_
  · intro w' hS; (rintro _ rfl); intro K hK; first | (refine Free.run_yes (by rfl) ?_; go_simp; refine Free.o hK hS ?_; exact rfl) | (refine Free.run_no (by rfl) (Free.o hK hS ?_); exact rfl)
  refine Free.cons ?_ ?_
  · intro w' hS; (rintro _ rfl); (rintro _ rfl); (rintro _ rfl); intro K hK; refine Free.run_yes (by rfl) ?_; (go_simp; go_at_call 20; refine (HBy.out _ (hR1.below hS) (hR2.below hS)).mono ?_; rintro e w' ⟨rfl, rfl⟩; (try simp only [Free.valOf, Act.put, List.setIfInBounds_toArray, List.set_cons_zero, List.set_cons_succ, Array.getD_eq_getD_getElem?, List.getElem?_toArray, List.getElem?_cons_succ, List.getElem?_cons_zero, Option.getD_some]); refine hK.out _ _ ?_ hS (.inr (Below.refl _ _)); exact rfl)
  refine Free.cons ?_ ?_
  · intro w' hS; (rintro _ rfl); intro K hK; have g0 := (hG.below hS hGlt).cell 0 (v := .int .i64 e1) rfl; have g1 := (hG.below hS hGlt).cell 1 (v := .slice A1 n1 c1) rfl; have g2 := (hH.below hS hHlt).cell 0 (v := .int .i64 e2) rfl; have g3 := (hH.below hS hHlt).cell 1 (v := .slice A2 n2 c2) rfl; first | (refine Free.run_yes (by rfl) ?_; go_simp; refine Free.o hK hS ?_; exact rfl) | (refine Free.run_no (by rfl) (Free.o hK hS ?_); exact rfl)
  refine Free.cons ?_ ?_
  · intro w' hS; (rintro _ rfl); intro K hK; have g0 := (hG.below hS hGlt).cell 0 (v := .int .i64 e1) rfl; have g1 := (hG.below hS hGlt).cell 1 (v := .slice A1 n1 c1) rfl; have g2 := (hH.below hS hHlt).cell 0 (v := .int .i64 e2) rfl; have g3 := (hH.below hS hHlt).cell 1 (v := .slice A2 n2 c2) rfl; first | (refine Free.run_yes (by rfl) ?_; go_simp; refine Free.o hK hS ?_; exact rfl) | (refine Free.run_no (by rfl) (Free.o hK hS ?_); exact rfl)
  refine Free.cons ?_ ?_
  · intro w' hS; (rintro _ rfl); (rintro _ rfl); (rintro _ rfl); intro K hK; refine Free.run_yes (by rfl) ?_; (go_simp; go_at_call 22; refine (HS.out _ (hN1.below hS) (hN2.below hS)).mono ?_; rintro e w' ⟨rfl, hb⟩; go_simp; refine Free.c hK (keep hS hb) hb ?_; exact rfl)
  refine Free.cons ?_ ?_
  · intro w' hS; (rintro _ rfl); (rintro _ rfl); (rintro _ rfl); intro K hK; first | (refine Free.run_yes (by rfl) ?_; go_simp; refine Free.o hK hS ?_; exact rfl) | (refine Free.run_no (by rfl) (Free.o hK hS ?_); exact rfl)
  refine Free.cons ?_ ?_
  · intro w' hS; (rintro _ rfl); (rintro _ rfl); intro K hK; first | (refine Free.run_yes (by rfl) ?_; go_simp; refine Free.o hK hS ?_; exact rfl) | (refine Free.run_no (by rfl) (Free.o hK hS ?_); exact rfl)
  refine Free.cons ?_ ?_
  · intro w' hS; (rintro _ rfl); intro K hK; first | (refine Free.run_yes (by rfl) ?_; go_simp; refine Free.o hK hS ?_; exact rfl) | (refine Free.run_no (by rfl) (Free.o hK hS ?_); exact rfl)
  exact Free.nil
  clear hvo
  intro w' hS; intro v0; intro v1; intro v2; intro v3; intro v4; intro v5; intro v6; intro v7; intro v8; intro v9; intro v10; intro v11; intro v12; intro v13; intro v14; intro v15; intro v16; intro v17; intro v18; intro v19; intro v20; intro v21; intro v22; intro v23; intro v24; intro v25; intro v26; intro v27; (rintro _ rfl); (try simp only [Act.put, List.setIfInBounds_toArray, List.set_cons_zero, List.set_cons_succ]); refine Free.toldE_nil ?_
  have bl13 := Below.next bl hS (Nat.le_refl _)
  go_wp2
  go_ret
  exact ⟨rfl, bl13⟩
end Go.Proofs.Ytjpgiohdaadieaa
/- ClogRoom: small laws, and what may be. -/
namespace Go.Proofs.Ytjpgiohdaadieaa
open Go.ChangeShapes Go.WideShapes Go.ChangeAt Go.RowKit
open Go.ChangeMaps (open_string shut_string)
set_option linter.unusedVariables false
set_option linter.unusedSimpArgs false
set_option maxRecDepth 100000
open Go.Deep

/-- As many answers as there are transactions. -/
def fullT (n : Int) (t : Nat) : List TolR := (List.range t).map fun (i : Nat) => ⟨n + (i : Int), 1, []⟩
theorem fullT_len (n : Int) (t : Nat) : (fullT n t).length = t := by simp [fullT]
theorem fullT_succ (n : Int) (t : Nat) : fullT n (t + 1) = fullT n t ++ [⟨n + t, 1, []⟩] := by simp [fullT, List.range_succ]
theorem fullT_at (n : Int) (t i : Nat) (h : i < t) : (fullT n t)[i]? = some ⟨n + i, 1, []⟩ := by simp [fullT, h]
theorem ansOk_done : ansOk 1 [] = true := by decide
theorem okT_full {n : Int} {t : Nat} (hn : 1 ≤ n) (hn2 : n ≤ 1000) (ht : t ≤ 8) {i : Nat} (hi : i < t) : okT (fullT n t) i = true := by
  refine okT_yes (fullT_at n t i hi) ?_ (by show n + (i : Int) ≤ 4294967294; omega) ansOk_done
  match i, hi with
  | 0, _ => show (0 : Int) < n + ((0 : Nat) : Int); omega
  | j + 1, hi =>
    show ((fullT n t).getD j default).n < n + ((j + 1 : Nat) : Int)
    rw [getD_of (fullT_at n t j (by omega))]
    show n + (j : Int) < _
    omega
theorem may_full {n : Int} {t : Nat} (hn : 1 ≤ n) (hn2 : n ≤ 1000) (ht : t ≤ 8) : mayG t ⟨0, fullT n t⟩ = true := by
  refine mayG_iff.2 ⟨mayT_yes (fun i hi => okT_full hn hn2 ht (by rw [fullT_len] at hi; exact hi)), by simp, by simp, by simp [fullT_len]⟩
theorem may_out {t e : Int} {T : List TolR} (h : ¬ (0 ≤ e ∧ e ≤ 1099511627774 ∧ (T.length : Int) ≤ t)) : mayG t ⟨e, T⟩ = false := by
  unfold mayG
  rw [Bool.and_eq_false_iff]
  right
  simp
  omega
theorem may_over (n : Int) (t : Nat) (q : TolR) : mayG t ⟨0, fullT n t ++ [q]⟩ = false :=
  may_out (by simp [fullT_len]; omega)
theorem may_twice (n t : Int) : mayG t ⟨0, [⟨n, 1, []⟩, ⟨n, 1, []⟩]⟩ = false :=
  mayG_no (i := 1) (p := ⟨n, 1, []⟩) rfl (.inl (by show ¬ n < n; omega))
def oneV : ValR := ⟨1, 0, []⟩
theorem ansOk_some (k : Int) : ansOk k [oneV, oneV, oneV, oneV] = (k == 1) := by
  by_cases h : k = 1
  · subst h; decide
  · rw [beq_eq_false_iff_ne.2 h]
    cases e : ansOk k [oneV, oneV, oneV, oneV] with | false => rfl | true => exact absurd (ansOk_iff.1 e).2.2.2.2 (by simp; exact h)
theorem may_some {n k t : Int} (hn : 1 ≤ n) (hn2 : n ≤ 1000) (ht : 1 ≤ t) : mayG t ⟨0, [⟨n, k, [oneV, oneV, oneV, oneV]⟩]⟩ = (k == 1) := by
  by_cases h : k = 1
  · subst h
    refine mayG_iff.2 ⟨mayT_yes (fun i hi => ?_), by simp, by simp, by simpa using ht⟩
    obtain rfl : i = 0 := by simpa using hi
    exact okT_yes (p := ⟨n, 1, [oneV, oneV, oneV, oneV]⟩) rfl (by show (0 : Int) < n; omega) (by show n ≤ 4294967294; omega) (by rw [ansOk_some]; rfl)
  · rw [beq_eq_false_iff_ne.2 h]
    exact mayG_no (i := 0) (p := ⟨n, k, [oneV, oneV, oneV, oneV]⟩) rfl (.inr (.inr (by rw [ansOk_some]; exact beq_eq_false_iff_ne.2 h)))
theorem may_many (n t : Int) : mayG t ⟨0, [⟨n, 1, [oneV, oneV, oneV, oneV, oneV]⟩]⟩ = false :=
  mayG_no (i := 0) (p := ⟨n, 1, [oneV, oneV, oneV, oneV, oneV]⟩) rfl (.inr (.inr (show ansOk 1 [oneV, oneV, oneV, oneV, oneV] = false by decide)))

theorem run_mk0v (w : World) : (Instr.makeSlice 33 (.int .i64 0) (.int .i64 0)).run Try.prog w = .ok (.slice (some ⟨w.heap.size, 0, none⟩) 0 0) (w.alloc (.cells #[] 41)) := by
  obtain ⟨i0, hi, hz0, hz1, hz2⟩ := info_parts info_val
  have := run_make (P := Try.prog) w 33 41 i0 _ Try.underlying33 hi hz0 .i64 .i64 0 0 (by omega) (Int.le_refl _) (by omega) (by omega)
  simpa [madeCells, Array.range_zero', show Array.range 0 = #[] from rfl] using this
theorem RV.empty (w : World) (A : Option Addr) : RV w A 0 0 [] := ⟨rfl, Nat.le_refl _, by unfold maxLen; omega, fun _ => rfl, fun h => absurd h (by omega)⟩
theorem TO.empty (e : TypeId) {B0 : Nat} (w : World) (hB : B0 ≤ w.heap.size) : TO e B0 (w.alloc (.cells #[] e)) (.slice (some ⟨w.heap.size, 0, none⟩) 0 0) [] :=
  ⟨[], ⟨rfl, .inr ⟨w.heap.size, 0, #[], rfl, hB, heap_alloc_new w _, Nat.le_refl _, by unfold maxLen; omega, rfl, rfl⟩⟩, fun i b h => by simp at h⟩
theorem TO.form {e : TypeId} {B0 : Nat} {w : World} {A : Option Addr} {n c : Nat} {L : List TolR} (h : TO e B0 w (.slice A n c) L) (hn : 0 < L.length) : ∃ g, A = some ⟨g, 0, none⟩ := by
  obtain ⟨xs, ⟨_, ho⟩, _⟩ := h
  rcases ho with ⟨h1, h0⟩ | ⟨g, cap, cur, h1, _⟩
  · omega
  · injection h1 with h1 _ _
    exact ⟨g, h1⟩
theorem fullT_nil (n : Int) (t : Nat) : ∀ b ∈ fullT n t, b.V = [] := by
  intro b hb
  obtain ⟨i, _, rfl⟩ := List.mem_map.1 hb
  rfl
/-- All answers of one slice of our own behind those of another. -/
theorem run_apptt (e T ty : TypeId) (hT : Try.prog.underlying T = some (.slice e)) (hi : (Try.prog.info? e).map (fun i => (i.zero, i.size, i.bytes)) = some (some (.agg #[.int .i64 0, .int .i64 0, .slice none 0 0]), 3, 40)) (w : World) (B0 B1 : Nat) (v : Value) (h : TO e B0 w v []) (hB : B0 ≤ w.heap.size) (M : List TolR) (g m c : Nat)
    (h2 : TO e B1 w (.slice (some ⟨g, 0, none⟩) m c) M) (hm : M.length = m) (hV : ∀ b ∈ M, b.V = []) (hsz : m ≤ 100000) :
    ∃ v' w', (Builtin.append_ #[T, T] ty #[v, .slice (some ⟨g, 0, none⟩) m c]).run Try.prog w = .ok v' w' ∧ TO e B0 w' v' M ∧ Keeps (fun k => v.ownBlock = some k) w w' := by
  obtain ⟨i0, hi, hz0, hz1, hz2⟩ := info_parts hi
  obtain ⟨xs, hown, hx⟩ := h
  obtain ⟨ys, hown2, hy⟩ := h2
  have hxs : xs = [] := List.eq_nil_of_length_eq_zero (by have := hown.1; simpa using this)
  subst hxs
  subst hm
  have hyl : ys.length = M.length * 3 := hown2.1
  have hcell : ∀ j u, ys[j]? = some u → w.cell? ((⟨g, 0, none⟩ : Addr).add j) = some u := by
    intro j u hu
    obtain ⟨_, ho⟩ := hown2
    rcases ho with ⟨h1, _⟩ | ⟨g2, cap, cur, h1, _, hheap, _, _, _, htake⟩
    · injection h1 with h1; cases h1
    · injection h1 with h1
      injection h1 with h1
      injection h1 with h1
      subst h1
      rw [Addr.add_lit, Nat.zero_add]
      rw [← htake, List.getElem?_take] at hu
      split at hu
      · simp [World.cell?, hheap]
        rw [← Array.getElem?_toList]
        exact hu
      · cases hu
  have hone : ∀ u ∈ ys, u.oneCell' = true := by
    intro u hu
    obtain ⟨j, hj⟩ := List.mem_iff_getElem?.1 hu
    have hjl := (List.getElem?_eq_some_iff.1 hj).1
    obtain ⟨b, hb⟩ : ∃ b, M[j / 3]? = some b := ⟨_, List.getElem?_eq_getElem (by omega)⟩
    obtain ⟨_, _, _, _, _, h0, h1, h2⟩ := hy (j / 3) b hb
    have : j = j / 3 * 3 ∨ j = j / 3 * 3 + 1 ∨ j = j / 3 * 3 + 2 := by omega
    rcases this with e | e | e
    · rw [← e, hj] at h0; injection h0 with h0; rw [h0]; rfl
    · rw [← e, hj] at h1; injection h1 with h1; rw [h1]; rfl
    · rw [← e, hj] at h2; injection h2 with h2; rw [h2]; rfl
  obtain ⟨v', w', hrun, h1, h2, _, h4⟩ := run_append_own_at (P := Try.prog) w B0 T ty e i0 _ 3 40 hT hi hz0 hz1 hz2 rfl (by decide) v 0 [] hown ⟨g, 0, none⟩ M.length c ys hyl hcell hone (by unfold maxLen; omega) (by omega) hB
  have hk : Keeps (fun k => v.ownBlock = some k) w w' := ⟨h2.os, h2.tape, h2.output, h2.size, fun k hk hn => h2.block k hk (fun e => hn e.symm)⟩
  refine ⟨v', w', hrun, ⟨ys, by rw [List.nil_append, Nat.zero_add] at h1; exact h1, fun i b hb => ?_⟩, hk⟩
  obtain ⟨B, mm, k, hr, _, r⟩ := hy i b hb
  have hVb := hV b (List.mem_of_getElem? hb)
  have hm0 : mm = 0 := by rw [← hr.len, hVb]; rfl
  subst hm0
  exact ⟨B, 0, k, hr.keeps hk (fun h => absurd h (by omega)), fun h => absurd h (by omega), r⟩
theorem wpList_apptt {ops : Array Oper} {rest : List Oper} {o : Oper} {a : Act} {w : World} {Q : Exit → Act → World → Prop} (hgd : o.guard = none) (e T : TypeId) (hT : Try.prog.underlying T = some (.slice e)) (hi : (Try.prog.info? e).map (fun i => (i.zero, i.size, i.bytes)) = some (some (.agg #[.int .i64 0, .int .i64 0, .slice none 0 0]), 3, 40)) (s x : Operand) (hop : o.op = Op.call { callee := Callee.builtin Builtin.append, args := #[s, x], argTypes := #[T, T] })
    (B0 B1 : Nat) (v : Value) (h : TO e B0 w v []) (hB : B0 ≤ w.heap.size) (M : List TolR) (g m c : Nat) (hs : a.eval s = v) (hx : a.eval x = .slice (some ⟨g, 0, none⟩) m c) (h2 : TO e B1 w (.slice (some ⟨g, 0, none⟩) m c) M) (hm : M.length = m) (hV : ∀ b ∈ M, b.V = []) (hsz : m ≤ 100000)
    (hk : ∀ v' w', TO e B0 w' v' M → Keeps (fun k => v.ownBlock = some k) w w' → wpList Try.prog ops Q rest (a.put o.dst v') w') : wpList Try.prog ops Q (o :: rest) a w :=
  wpList_plain hgd fun _ hK => by
    obtain ⟨v', w', hr, h2, h3⟩ := run_apptt e T o.type hT hi w B0 B1 v h hB M g m c h2 hm hV hsz
    unfold Oper.wp execOp
    simp only [hop, resolve, invoke, builtin, Sem.run_bind, Sem.run_pure, Result.andThen_ok, List.map_toArray, List.map_cons, List.map_nil, hs, hx, hr]
    exact hK _ _ (hk v' w' h2 h3)
/-- append onto a full slice of values: new memory. -/
theorem run_appvg (ty : TypeId) (w : World) (g o n sc : Nat) (V M : List ValR) (h : RV w (some ⟨g, o, none⟩) n sc V) (g2 o2 m c : Nat) (hr : RV w (some ⟨g2, o2, none⟩) m c M) (hg : sc < n + m) (hsz : n + m ≤ 1000) :
    ∃ A c' w', (Builtin.append_ #[33, 33] ty #[.slice (some ⟨g, o, none⟩) n sc, .slice (some ⟨g2, o2, none⟩) m c]).run Try.prog w = .ok (.slice A (n + m) c') w' ∧ RV w' A (n + m) c' (V ++ M) ∧ Below w.heap.size w w' := by
  obtain ⟨i0, hi, hz0, hz1, hz2⟩ := info_parts info_val
  have hn := h.len
  have hm := hr.len
  have hnc : Builtin.nextslicecap (n + m) sc * i0.bytes ≤ 281474976710656 := by
    have := nextslicecap_le hg
    rw [hz2]; omega
  have hrun := run_append_grow (P := Try.prog) w 33 ty 41 i0 _ Try.underlying33 hi hz0 ⟨g, o, none⟩ n sc (cellsV V) (by rw [cellsV_len, hz1, hn]) h.cells ⟨g2, o2, none⟩ m c (cellsV M) (by rw [cellsV_len, hz1, hm]) hr.cells hg (by omega) hnc
  have hge := grownCap_ge w (n + m) sc 41
  have hgm := grownCap_le_maxLen w (n + m) sc 41 (by unfold maxLen; omega)
  refine ⟨_, _, _, hrun, ?_, (Below.refl _ _).drew.alloc (Nat.le_refl _) _⟩
  refine RV.of_cells (by rw [List.length_append, hn, hm]) hge hgm (fun j u hu => ?_)
  rw [Nat.zero_add]
  have hb := Blk.new w.drew ((cellsV V).toArray ++ (cellsV M).toArray ++ Builtin.zeroCells (Value.agg #[.int .i64 0, .int .i64 0, .string (str [])]).cells (grownCap w (n + m) sc 41 - (n + m))) 41
  refine hb.cell j ?_
  rw [cellsV_app] at hu
  have hj := (List.getElem?_eq_some_iff.1 hu).1
  rw [← Array.getElem?_toList, Array.toList_append, Array.toList_append, List.getElem?_append_left (by simpa using hj)]
  exact hu
theorem wpList_appvg {ops : Array Oper} {o : Oper} {a : Act} {w : World} {rest : List Oper} {Q : Exit → Act → World → Prop} (hgd : o.guard = none) (s x : Operand) (hop : o.op = Op.call { callee := Callee.builtin Builtin.append, args := #[s, x], argTypes := #[33, 33] })
    (g of n sc : Nat) (V M : List ValR) (g2 o2 m c : Nat) (hs : a.eval s = .slice (some ⟨g, of, none⟩) n sc) (hx : a.eval x = .slice (some ⟨g2, o2, none⟩) m c) (h : RV w (some ⟨g, of, none⟩) n sc V) (hr : RV w (some ⟨g2, o2, none⟩) m c M) (hg : sc < n + m) (hsz : n + m ≤ 1000)
    (hk : ∀ A c' w', RV w' A (n + m) c' (V ++ M) → Below w.heap.size w w' → wpList Try.prog ops Q rest (a.put o.dst (.slice A (n + m) c')) w') : wpList Try.prog ops Q (o :: rest) a w :=
  wpList_plain hgd fun _ hK => by
    obtain ⟨A, c', w', hr, h2, h3⟩ := run_appvg o.type w g of n sc V M h g2 o2 m c hr hg hsz
    unfold Oper.wp execOp
    simp only [hop, resolve, invoke, builtin, Sem.run_bind, Sem.run_pure, Result.andThen_ok, List.map_toArray, List.map_cons, List.map_nil, hs, hx, hr]
    exact hK _ _ (hk A c' w' h2 h3)
theorem Blk.newAt (w : World) (cs : Array Value) (t g : Nat) (hg : g = w.heap.size) : Blk (w.alloc (.cells cs t)) g cs t := by subst hg; exact Blk.new w cs t
theorem below_blk {w w' : World} (b : Below w.heap.size w w') {g : Nat} {cs : Array Value} {t : Nat} (h : Blk w g cs t) : Blk w' g cs t := h.below b h.lt
theorem below_al7 {N : Nat} {a w : World} (h : Below N a w) (hN : N ≤ w.heap.size) (o1 o2 o3 o4 o5 o6 o7 : Obj) : Below N a (((((((w.alloc o1).alloc o2).alloc o3).alloc o4).alloc o5).alloc o6).alloc o7) :=
  ((((((h.alloc hN o1).alloc (by simp; omega) o2).alloc (by simp; omega) o3).alloc (by simp; omega) o4).alloc (by simp; omega) o5).alloc (by simp; omega) o6).alloc (by simp; omega) o7
theorem below_al2 {N : Nat} {a w : World} (h : Below N a w) (hN : N ≤ w.heap.size) (o1 o2 : Obj) : Below N a ((w.alloc o1).alloc o2) := (h.alloc hN o1).alloc (by simp; omega) o2
theorem RV.four {w : World} {g t : Nat} (h : Blk w g #[.int .i64 1, .int .i64 0, .string (str []), .int .i64 1, .int .i64 0, .string (str []), .int .i64 1, .int .i64 0, .string (str []), .int .i64 1, .int .i64 0, .string (str [])] t) : RV w (some ⟨g, 0, none⟩) 4 4 [oneV, oneV, oneV, oneV] :=
  RV.of_cells rfl (Nat.le_refl _) (by unfold maxLen; omega) (fun j u hu => by rw [Nat.zero_add]; exact h.cell j (by rw [← Array.getElem?_toList]; exact hu))
theorem RT.two {w : World} {g t : Nat} {n : Int} (h : Blk w g #[.int .i64 n, .int .i64 1, .slice none 0 0, .int .i64 n, .int .i64 1, .slice none 0 0] t) : RT w (some ⟨g, 0, none⟩) 2 2 [⟨n, 1, []⟩, ⟨n, 1, []⟩] := by
  refine ⟨rfl, Nat.le_refl _, by unfold maxLen; omega, (fun h => by cases h), fun _ => ⟨g, 0, rfl, fun i x hx => ?_⟩⟩
  have hi : i = 0 ∨ i = 1 := by have := (List.getElem?_eq_some_iff.1 hx).1; simp at this; omega
  rcases hi with rfl | rfl
  · simp at hx; subst hx
    exact ⟨none, 0, 0, RV.none_ w, h.cell 0 rfl, h.cell 1 rfl, h.cell 2 rfl⟩
  · simp at hx; subst hx
    exact ⟨none, 0, 0, RV.none_ w, h.cell 3 rfl, h.cell 4 rfl, h.cell 5 rfl⟩
end Go.Proofs.Ytjpgiohdaadieaa
/- ClogRoom: the walk. -/
namespace Go.Proofs.Ytjpgiohdaadieaa
open Go.ChangeShapes Go.WideShapes Go.ChangeAt Go.RowKit
open Go.ChangeMaps (open_string shut_string)
set_option linter.unusedVariables false
set_option linter.unusedSimpArgs false
set_option maxRecDepth 100000
open Go.Deep

set_option maxHeartbeats 8000000 in
theorem room24 (x : Cfg) (A0 : Option Addr) (n0 c0 : Nat) (Z : List (List Int)) (kd nn : Int) (w : World) (hz : RG w A0 n0 c0 Z) :
    Calls Try.prog 3 #[.agg #[.int .i64 x.h, .int .i64 x.z, .int .i64 x.b, .int .i64 x.r, .int .i64 x.d, .int .i64 x.e, .int .i64 x.s, .int .i64 x.p, .int .i64 x.q, .int .i64 x.t, .slice A0 n0 c0], .int .i64 kd, .int .i64 nn] w fun e w' => e = .returned (.bool true) ∧ Below w.heap.size w w' := by
  have HF0 := Lib.hid (fun w h => few_any x A0 n0 c0 Z w h)
  obtain ⟨bm, hm⟩ : ∃ b, mayC x Z = b := ⟨_, rfl⟩
  have HO := Lib.hid (fun w h (hm : mayC x Z = true) => lay_of x A0 n0 c0 Z w h hm)
  have HO' := Lib.hid (fun w h (hm : mayC x Z = false) => lay_of_no x A0 n0 c0 Z w h hm)
  have hxB := Lib.hid (fun (hm : mayC x Z = true) => mayC_B hm)
  have HF := Lib.hid (fun w => first24_any w)
  replace hm := Lib.hid hm
  have hX := (Blk.new w #[.int .i64 x.h, .int .i64 x.z, .int .i64 x.b, .int .i64 x.r, .int .i64 x.d, .int .i64 x.e, .int .i64 x.s, .int .i64 x.p, .int .i64 x.q, .int .i64 x.t, .slice A0 n0 c0] 24)
  have bl : Below w.heap.size w (w.alloc (.cells #[.int .i64 x.h, .int .i64 x.z, .int .i64 x.b, .int .i64 x.r, .int .i64 x.d, .int .i64 x.e, .int .i64 x.s, .int .i64 x.p, .int .i64 x.q, .int .i64 x.t, .slice A0 n0 c0] 24)) := (by repeat (first | exact Below.refl _ _ | assumption | apply below_drewN' | apply Below.drew | refine Below.alloc ?_ (by first | omega | (simp; done) | (simp; omega)) _ | refine Below.setCell ?_ (by first | omega | (simp; done) | (simp; omega)) _))
  go_enter Try.func3, Try.ntmps3
  go_wp2_with fail
  generalize w.alloc (.cells #[.int .i64 x.h, .int .i64 x.z, .int .i64 x.b, .int .i64 x.r, .int .i64 x.d, .int .i64 x.e, .int .i64 x.s, .int .i64 x.p, .int .i64 x.q, .int .i64 x.t, .slice A0 n0 c0] 24) = W3 at *
  refine (first24_any _).mono ?_
  rintro r w4 ⟨rfl, b4⟩
  replace bl := Below.next bl b4 (Nat.le_refl _); replace hX := hX.below b4 hX.lt; have b4h := Lib.hid b4; clear b4
  have a0 := hX.cell 0 (v := .int .i64 x.h) rfl; have a1 := hX.cell 1 (v := .int .i64 x.z) rfl; have a2 := hX.cell 2 (v := .int .i64 x.b) rfl; have a3 := hX.cell 3 (v := .int .i64 x.r) rfl; have a4 := hX.cell 4 (v := .int .i64 x.d) rfl; have a5 := hX.cell 5 (v := .int .i64 x.e) rfl; have a6 := hX.cell 6 (v := .int .i64 x.s) rfl; have a7 := hX.cell 7 (v := .int .i64 x.p) rfl; have a8 := hX.cell 8 (v := .int .i64 x.q) rfl; have a9 := hX.cell 9 (v := .int .i64 x.t) rfl; have a10 := hX.cell 10 (v := .slice A0 n0 c0) rfl
  go_wp2_with fail
  refine (HF0.out _ (hz.below bl)).mono ?_
  rintro r w5 ⟨⟨b0, rfl⟩, b5⟩
  replace bl := Below.next bl b5 (Nat.le_refl _); replace hX := hX.below b5 hX.lt; have b5h := Lib.hid b5; clear b5
  clear a0 a1 a2 a3 a4 a5 a6 a7 a8 a9 a10
  cases b0 with
  | false => (go_wp2_with fail; refine (first24_any _).mono ?_; rintro e w9 ⟨rfl, b9⟩; have bl9 := Below.next bl b9 (Nat.le_refl _); go_wp2; go_ret; exact ⟨rfl, bl9⟩)
  | true =>
  by_cases q1 : nn < 1
  · (go_wp2_with fail; refine (first24_any _).mono ?_; rintro e w9 ⟨rfl, b9⟩; have bl9 := Below.next bl b9 (Nat.le_refl _); go_wp2; go_ret; exact ⟨rfl, bl9⟩)
  by_cases q2 : nn > 1000
  · (go_wp2_with fail; refine (first24_any _).mono ?_; rintro e w9 ⟨rfl, b9⟩; have bl9 := Below.next bl b9 (Nat.le_refl _); go_wp2; go_ret; exact ⟨rfl, bl9⟩)
  have a0 := hX.cell 0 (v := .int .i64 x.h) rfl; have a1 := hX.cell 1 (v := .int .i64 x.z) rfl; have a2 := hX.cell 2 (v := .int .i64 x.b) rfl; have a3 := hX.cell 3 (v := .int .i64 x.r) rfl; have a4 := hX.cell 4 (v := .int .i64 x.d) rfl; have a5 := hX.cell 5 (v := .int .i64 x.e) rfl; have a6 := hX.cell 6 (v := .int .i64 x.s) rfl; have a7 := hX.cell 7 (v := .int .i64 x.p) rfl; have a8 := hX.cell 8 (v := .int .i64 x.q) rfl; have a9 := hX.cell 9 (v := .int .i64 x.t) rfl; have a10 := hX.cell 10 (v := .slice A0 n0 c0) rfl
  go_wp2_with fail
  cases bm with
  | false =>
    refine (HO'.out _ (hz.below bl) hm.out).mono ?_
    rintro r w8 ⟨rfl, b8⟩
    replace bl := Below.next bl b8 (Nat.le_refl _); replace hX := hX.below b8 hX.lt; have b8h := Lib.hid b8; clear b8
    clear a0 a1 a2 a3 a4 a5 a6 a7 a8 a9 a10
    have ba := (Below.refl w8.heap.size w8).alloc (Nat.le_refl _) (.cells #[.int .i64 0, .int .i64 0, .int .i64 0, .int .i64 0, .int .i64 0, .int .i64 0, .int .i64 0, .int .i64 0, .int .i64 0, .int .i64 0, .slice none 0 0] 28)
    replace bl := Below.next bl ba (Nat.le_refl _); replace hX := hX.below ba hX.lt; have bah := Lib.hid ba; clear ba
    (go_wp2_with fail; refine (first24_any _).mono ?_; rintro e w9 ⟨rfl, b9⟩; have bl9 := Below.next bl b9 (Nat.le_refl _); go_wp2; go_ret; exact ⟨rfl, bl9⟩)
  | true =>
  refine (HO.out _ (hz.below bl) hm.out).mono ?_
  rintro r w8 ⟨B, k, rfl, b8⟩
  replace bl := Below.next bl b8 (Nat.le_refl _); replace hX := hX.below b8 hX.lt; have b8h := Lib.hid b8; clear b8
  clear a0 a1 a2 a3 a4 a5 a6 a7 a8 a9 a10
  have hx := hxB.out hm.out
  have htt := hx.t
  obtain ⟨tn, htn⟩ := Int.eq_ofNat_of_zero_le (show 0 ≤ x.t by omega)
  have htn8 : 1 ≤ tn ∧ tn ≤ 8 := by omega
  have HMay := Lib.hid (fun (b : Bool) A n c T w h (hb : mayG x.t ⟨0, T⟩ = b) => (show Calls Try.prog 10 #[.agg #[.int .i64 x.h, .int .i64 x.z, .int .i64 x.b, .int .i64 x.r, .int .i64 x.d, .int .i64 x.e, .int .i64 x.s, .int .i64 x.p, .int .i64 x.q, .int .i64 x.t, .slice (some B) n0 k], .agg #[.int .i64 0, .slice A n c]] w fun r w' => r = .returned (.bool b) ∧ Below w.heap.size w w' from hb ▸ clog_may x (some B) n0 k 0 A n c T w h))
  have hxth : Hid (x.t = (tn : Int)) := Lib.hid htn
  have ba := (Below.refl w8.heap.size w8).alloc (Nat.le_refl _) (.cells #[.int .i64 x.h, .int .i64 x.z, .int .i64 x.b, .int .i64 x.r, .int .i64 x.d, .int .i64 x.e, .int .i64 x.s, .int .i64 x.p, .int .i64 x.q, .int .i64 x.t, .slice (some B) n0 k] 28)
  have hL := Blk.new w8 #[.int .i64 x.h, .int .i64 x.z, .int .i64 x.b, .int .i64 x.r, .int .i64 x.d, .int .i64 x.e, .int .i64 x.s, .int .i64 x.p, .int .i64 x.q, .int .i64 x.t, .slice (some B) n0 k] 28
  replace bl := Below.next bl ba (Nat.le_refl _); replace hX := hX.below ba hX.lt; have bah := Lib.hid ba; clear ba
  clear htn htt hx HF0 HO HO' hxB
  have xt := hX.cell 9 (v := .int .i64 x.t) rfl
  go_wp2
  generalize w8.alloc (.cells #[.int .i64 x.h, .int .i64 x.z, .int .i64 x.b, .int .i64 x.r, .int .i64 x.d, .int .i64 x.e, .int .i64 x.s, .int .i64 x.p, .int .i64 x.q, .int .i64 x.t, .slice (some B) n0 k] 28) = W9 at *
  generalize w8.heap.size = GL at *
  obtain ⟨N, hN⟩ : ∃ N, W9.heap.size = N := ⟨_, rfl⟩
  have hXN := Lib.hid hX
  have hLN := Lib.hid hL
  have blN := Lib.hid bl
  have hLlt := hL.lt
  have hXlt := hX.lt
  go_loopw [9, 10] (fun s i wr => ∃ (j : Nat) (u : Value), j ≤ tn ∧ s = u ∧ i = .int .i64 j ∧ TO 37 W9.heap.size wr u (fullT nn j) ∧ Below W9.heap.size W9 wr) (fun s i _ => tn - (intOf i).toNat)
  case atStart => exact ⟨0, _, by omega, rfl, rfl, TO.nil _ _ _, Below.refl _ _⟩
  case round =>
    obtain ⟨j, u, hj, hu, rfl, hO, b9⟩ := hrel
    replace hu := hu.symm
    subst hu
    obtain ⟨A', c', rfl, hRT⟩ := hO.sl j (fullT_len nn j)
    have xt9 := (hX.below b9 hXlt).cell 9 (v := .int .i64 x.t) rfl
    by_cases hlt : j < tn
    · have hltx : (j : Int) < x.t := by have := hxth.out; omega
      have hw1 : IntKind.i64.wrap (nn + (j : Int)) = nn + (j : Int) := IntWalk.i64_in _ (by omega)
      have hmk := fun w => run_mk0v w
      have hbd1 : ∀ w g, (Instr.build 35 #[(0, .int .i64 1), (1, .slice (some ⟨g, 0, none⟩) 0 0)]).run Try.prog w = .ok (.agg #[.int .i64 1, .slice (some ⟨g, 0, none⟩) 0 0]) w := fun w g => by kernel_rfl
      have hbd2 : ∀ w q g, (Instr.build 37 #[(0, .int .i64 q), (1, .agg #[.int .i64 1, .slice (some ⟨g, 0, none⟩) 0 0])]).run Try.prog w = .ok (.agg #[.int .i64 q, .int .i64 1, .slice (some ⟨g, 0, none⟩) 0 0]) w := fun w q g => by kernel_rfl
      have hX1 := Blk.new2 wr (.cells #[] 41) #[.int .i64 (nn + (j : Int)), .int .i64 1, .slice (some ⟨wr.heap.size, 0, none⟩) 0 0] 37
      have ba : Below wr.heap.size wr ((wr.alloc (.cells #[] 41)).alloc (.cells #[.int .i64 (nn + (j : Int)), .int .i64 1, .slice (some ⟨wr.heap.size, 0, none⟩) 0 0] 37)) := (by repeat (first | exact Below.refl _ _ | assumption | apply below_drewN' | apply Below.drew | refine Below.alloc ?_ (by first | omega | (simp; done) | (simp; omega)) _ | refine Below.setCell ?_ (by first | omega | (simp; done) | (simp; omega)) _))
      have hO2 := hO.below ba
      have b92 := Below.next b9 ba (Nat.le_refl _)
      have hown := Lib.hid (fun i e => (hO2.lt i e).1)
      have hb9s := b92.size
      have hfs := Lib.hid (fullT_succ nn j)
      go_wp2_with (refine wpList_appt rfl 37 32 Try.underlying32 info_told (.tmp 45) (.tmp 52) rfl W9.heap.size (.slice A' j c') (fullT nn j) hO2 hb9s (wr.heap.size + 1) 37 ⟨nn + (j : Int), 1, []⟩ (some ⟨wr.heap.size, 0, none⟩) 0 0 1 rfl rfl hX1 (RV.empty _ _) (fun h => absurd h (by omega)) (by rw [fullT_len]; omega) ?_; intro v7 w7 ho7 hk7; obtain ⟨A7, c7, rfl, _⟩ := ho7.sl (j + 1) (by rw [List.length_append, fullT_len]; rfl))
      go_roundw
      case rel => exact ⟨j + 1, _, by omega, rfl, by go_num, (by rw [hfs.out]; exact ho7), b92.keeps hk7 (fun i hi e => by have := hown.out i e; omega) (Nat.le_refl _)⟩
      case measure => simp [intOf]; omega
    · have hjt : j = tn := by omega
      have hltx : ¬ (j : Int) < x.t := by have := hxth.out; omega
      obtain ⟨gA, rfl⟩ := hO.form (by rw [fullT_len]; omega)
      replace hjt := Lib.hid hjt
      clear hlt
      have hB39 : ∀ w A n c, (Instr.build 39 #[(1, .slice A n c)]).run Try.prog w = .ok (.agg #[.int .i64 0, .slice A n c]) w := fun w A n c => by kernel_rfl
      have hB35 : ∀ w, (Instr.build 35 #[(0, .int .i64 1)]).run Try.prog w = .ok (.agg #[.int .i64 1, .slice none 0 0]) w := fun w => by kernel_rfl
      have hB35b : ∀ w q A n c, (Instr.build 35 #[(0, .int .i64 q), (1, .slice A n c)]).run Try.prog w = .ok (.agg #[.int .i64 q, .slice A n c]) w := fun w q A n c => by kernel_rfl
      have hB37 : ∀ w q r A n c, (Instr.build 37 #[(0, .int .i64 q), (1, .agg #[.int .i64 r, .slice A n c])]).run Try.prog w = .ok (.agg #[.int .i64 q, .int .i64 r, .slice A n c]) w := fun w q r A n c => by kernel_rfl
      have hB41 : ∀ w, (Instr.build 41 #[(0, .int .i64 1)]).run Try.prog w = .ok (.agg #[.int .i64 1, .int .i64 0, .string (str [])]) w := fun w => by kernel_rfl
      have hw2 : IntKind.i64.wrap (nn + 1000) = nn + 1000 := IntWalk.i64_in _ (by omega)
      have hFu := Blk.new wr #[.int .i64 0, .slice (some ⟨gA, 0, none⟩) j c'] 39
      have bF : Below wr.heap.size wr (wr.alloc (.cells #[.int .i64 0, .slice (some ⟨gA, 0, none⟩) j c'] 39)) := (by repeat (first | exact Below.refl _ _ | assumption | apply below_drewN' | apply Below.drew | refine Below.alloc ?_ (by first | omega | (simp; done) | (simp; omega)) _ | refine Below.setCell ?_ (by first | omega | (simp; done) | (simp; omega)) _))
      have hOf := hO.below bF
      have hRf := hRT.below bF
      have b9f := Below.next b9 bF (Nat.le_refl _)
      obtain ⟨Wf, hWf⟩ : ∃ Wf, wr.alloc (.cells #[.int .i64 0, .slice (some ⟨gA, 0, none⟩) j c'] 39) = Wf := ⟨_, rfl⟩
      have hsf : Wf.heap.size = wr.heap.size + 1 := by rw [← hWf]; simp
      rw [hWf] at hFu hOf hRf b9f
      have hE := TO.empty 37 (B0 := Wf.heap.size) Wf (Nat.le_refl _)
      have bE : Below Wf.heap.size Wf (Wf.alloc (.cells #[] 37)) := (by repeat (first | exact Below.refl _ _ | assumption | apply below_drewN' | apply Below.drew | refine Below.alloc ?_ (by first | omega | (simp; done) | (simp; omega)) _ | refine Below.setCell ?_ (by first | omega | (simp; done) | (simp; omega)) _))
      have hOe := hOf.below bE
      rw [hsf] at hE
      have hj8 : Hid (1 ≤ j ∧ j ≤ 8) := Lib.hid (by have := hjt.out; omega)
      clear hOf bE
      rw [← hWf] at hE hOe
      replace hWf := Lib.hid hWf
      have hfl := Lib.hid (fullT_len nn j)
      go_wp2_with (first
        | (refine wpList_apptt rfl 37 32 Try.underlying32 info_told (.tmp 56) (.tmp 57) rfl (wr.heap.size + 1) W9.heap.size (.slice (some ⟨wr.heap.size + 1, 0, none⟩) 0 0) hE (by simp) (fullT nn j) gA j c' rfl rfl hOe hfl.out (fullT_nil nn j) (by have := hj8.out; omega) ?_
           intro v2 w2 ho2 hk2
           obtain ⟨A2, c2, rfl, _⟩ := ho2.sl j hfl.out
           have b2 : Below Wf.heap.size Wf w2 := by
             have bE : Below Wf.heap.size Wf (Wf.alloc (.cells #[] 37)) := (Below.refl _ _).alloc (Nat.le_refl _) _
             rw [← hWf.out] at bE ⊢
             exact bE.keeps hk2 (fun i hi e => by simp [Value.ownBlock] at e hi; omega) (Nat.le_refl _)
           have hX3 := Blk.new w2 #[.int .i64 (nn + 1000), .int .i64 1, .slice none 0 0] 37
           have hO3 := ho2.below ((Below.refl w2.heap.size w2).alloc (Nat.le_refl _) (.cells #[.int .i64 (nn + 1000), .int .i64 1, .slice none 0 0] 37))
           have b2a := b2.alloc b2.size (.cells #[.int .i64 (nn + 1000), .int .i64 1, .slice none 0 0] 37))
        | (refine wpList_appt rfl 37 32 Try.underlying32 info_told (.tmp 58) (.tmp 63) rfl (wr.heap.size + 1) (.slice A2 j c2) (fullT nn j) hO3 (by have := b2a.size; have := hsf; omega) w2.heap.size 37 ⟨nn + 1000, 1, []⟩ none 0 0 1 rfl rfl hX3 (RV.none_ _) (fun h => absurd h (by omega)) (by rw [hfl.out]; have := hj8.out; omega) ?_
           intro v3 w3 ho3 hk3
           have hO3lt := hO3.lt
           obtain ⟨A3, c3, rfl, hR3⟩ := ho3.sl (j + 1) (by rw [List.length_append, hfl.out]; rfl)
           have b3 : Below Wf.heap.size Wf w3 := b2a.keeps hk3 (fun i hi e => by have := (hO3lt i e).1; omega) (Nat.le_refl _)
           clear hX3 hO3 b2a b2 hO3lt)
        | (refine wpList_appvg rfl (.tmp 87) (.tmp 89) rfl (w3.heap.size + 1 + 1 + 1) 0 4 4 [oneV, oneV, oneV, oneV] [oneV] (w3.heap.size + 1 + 1 + 1 + 1 + 1 + 1) 0 1 1 rfl rfl (RV.four ((((Blk.newAt _ _ _ _ (by simp only [World.size_alloc])).alloc _).alloc _).alloc _)) (RV.one (v := oneV) (Blk.newAt _ _ _ _ (by simp only [World.size_alloc]))) (by omega) (by omega) ?_
           intro A5 c5 w4 hR5 b5
           have bV4 := Below.next (below_al7 (Below.refl w3.heap.size w3) (Nat.le_refl _) _ _ _ _ _ _ _) b5 (Nat.le_refl _)
           have m2 := below_blk b5 (g := w3.heap.size) (cs := #[.int .i64 0, .slice A3 (j + 1) c3]) (t := 39) (((((((Blk.newAt _ _ _ _ (by simp only [World.size_alloc])).alloc _).alloc _).alloc _).alloc _).alloc _).alloc _)
           have m3 := below_blk b5 (g := w3.heap.size + 1) (cs := #[.int .i64 nn, .int .i64 1, .slice none 0 0, .int .i64 nn, .int .i64 1, .slice none 0 0]) (t := 37) ((((((Blk.newAt _ _ _ _ (by simp only [World.size_alloc])).alloc _).alloc _).alloc _).alloc _).alloc _)
           have m4 := below_blk b5 (g := w3.heap.size + 1 + 1) (cs := #[.int .i64 0, .slice (some ⟨w3.heap.size + 1, 0, none⟩) 2 2]) (t := 39) (((((Blk.newAt _ _ _ _ (by simp only [World.size_alloc])).alloc _).alloc _).alloc _).alloc _)
           have m5 := (RV.four (t := 41) ((((Blk.newAt _ _ _ _ (by simp only [World.size_alloc])).alloc _).alloc _).alloc _)).below b5 (A := some ⟨w3.heap.size + 1 + 1 + 1, 0, none⟩)
           have m6 := below_blk b5 (g := w3.heap.size + 1 + 1 + 1 + 1) (cs := #[.int .i64 nn, .int .i64 kd, .slice (some ⟨w3.heap.size + 1 + 1 + 1, 0, none⟩) 4 4]) (t := 37) (((Blk.newAt _ _ _ _ (by simp only [World.size_alloc])).alloc _).alloc _)
           have m7 := below_blk b5 (g := w3.heap.size + 1 + 1 + 1 + 1 + 1) (cs := #[.int .i64 0, .slice (some ⟨w3.heap.size + 1 + 1 + 1 + 1, 0, none⟩) 1 1]) (t := 39) ((Blk.newAt _ _ _ _ (by simp only [World.size_alloc])).alloc _)
           clear b5)
        | fail)
      refine (HF.out _).mono ?_
      rintro e w5 ⟨rfl, b6⟩
      have bX := Below.next (below_al2 (Below.refl w4.heap.size w4) (Nat.le_refl _) _ _) b6 (Nat.le_refl _)
      have n8 := below_blk b6 (g := w4.heap.size) (cs := #[.int .i64 nn, .int .i64 1, .slice A5 5 c5]) (t := 37) ((Blk.newAt _ _ _ _ (by simp only [World.size_alloc])).alloc _)
      have n9 := below_blk b6 (g := w4.heap.size + 1) (cs := #[.int .i64 0, .slice (some ⟨w4.heap.size, 0, none⟩) 1 1]) (t := 39) (Blk.newAt _ _ _ _ (by simp only [World.size_alloc]))
      have R5 := RT.one n8 (hR5.below bX)
      have R4 := (RT.one m6 m5).below bX
      have R3 := (RT.two m3).below bX
      have R2 := (hR3.below bV4).below bX
      have R1 := ((hRf.below b3).below bV4).below bX
      have k5 := n9
      have k4 := m7.below bX m7.lt
      have k3 := m4.below bX m4.lt
      have k2 := m2.below bX m2.lt
      have k1 := ((hFu.below b3 (by omega)).below bV4 (by have := (hFu.below b3 (by omega)).lt; exact this)).below bX (by have := ((hFu.below b3 (by omega)).below bV4 (by have := (hFu.below b3 (by omega)).lt; exact this)).lt; exact this)
      have kT := m6.below bX m6.lt
      have RVs := m5.below bX
      have b93 := bnext b9f b3
      have b95 := bnext (bnext b93 bV4) bX
      have hL5 := hL.below b95 hLlt
      have bl5 := bnext bl b95
      clear b6 n8 n9 m2 m3 m4 m5 m6 m7 bX bV4 b93 b95 hR5 hR3 hRf b3 hFu hL bl hX xt xt9 b9 b9f hO hRT hE hOe bF hk2 hk3 ho2 ho3
      have g0 := k1.cell 0 (v := .int .i64 0) rfl
      have g1 := k1.cell 1 (v := .slice (some ⟨gA, 0, none⟩) j c') rfl
      have a0 := hL5.cell 0 (v := .int .i64 x.h) rfl; have a1 := hL5.cell 1 (v := .int .i64 x.z) rfl; have a2 := hL5.cell 2 (v := .int .i64 x.b) rfl; have a3 := hL5.cell 3 (v := .int .i64 x.r) rfl; have a4 := hL5.cell 4 (v := .int .i64 x.d) rfl; have a5 := hL5.cell 5 (v := .int .i64 x.e) rfl; have a6 := hL5.cell 6 (v := .int .i64 x.s) rfl; have a7 := hL5.cell 7 (v := .int .i64 x.p) rfl; have a8 := hL5.cell 8 (v := .int .i64 x.q) rfl; have a9 := hL5.cell 9 (v := .int .i64 x.t) rfl; have a10 := hL5.cell 10 (v := .slice (some B) n0 k) rfl
      go_wp2_with fail
      clear a0 a1 a2 a3 a4 a5 a6 a7 a8 a9 a10
      clear g0 g1
      refine (HMay.out true _ _ _ _ _ R1 (by rw [hxth.out, ← hjt.out]; exact may_full q1 q2 (by have := hj8.out; omega))).mono ?_
      rintro e w6 ⟨rfl, b6⟩
      replace bl5 := bnext bl5 b6; replace hL5 := hL5.below b6 hL5.lt; replace k1 := k1.below b6 k1.lt; replace k2 := k2.below b6 k2.lt; replace k3 := k3.below b6 k3.lt; replace k4 := k4.below b6 k4.lt; replace k5 := k5.below b6 k5.lt; replace kT := kT.below b6 kT.lt; replace RVs := RVs.below b6; replace R1 := R1.below b6; replace R2 := R2.below b6; replace R3 := R3.below b6; replace R4 := R4.below b6; replace R5 := R5.below b6; clear b6
      have g0 := k2.cell 0 (v := .int .i64 0) rfl
      have g1 := k2.cell 1 (v := .slice A3 (j + 1) c3) rfl
      have a0 := hL5.cell 0 (v := .int .i64 x.h) rfl; have a1 := hL5.cell 1 (v := .int .i64 x.z) rfl; have a2 := hL5.cell 2 (v := .int .i64 x.b) rfl; have a3 := hL5.cell 3 (v := .int .i64 x.r) rfl; have a4 := hL5.cell 4 (v := .int .i64 x.d) rfl; have a5 := hL5.cell 5 (v := .int .i64 x.e) rfl; have a6 := hL5.cell 6 (v := .int .i64 x.s) rfl; have a7 := hL5.cell 7 (v := .int .i64 x.p) rfl; have a8 := hL5.cell 8 (v := .int .i64 x.q) rfl; have a9 := hL5.cell 9 (v := .int .i64 x.t) rfl; have a10 := hL5.cell 10 (v := .slice (some B) n0 k) rfl
      go_wp2_with fail
      clear a0 a1 a2 a3 a4 a5 a6 a7 a8 a9 a10
      clear g0 g1
      refine (HMay.out false _ _ _ _ _ R2 (by rw [hxth.out, ← hjt.out]; exact may_over _ _ _)).mono ?_
      rintro e w7 ⟨rfl, b7⟩
      replace bl5 := bnext bl5 b7; replace hL5 := hL5.below b7 hL5.lt; replace k1 := k1.below b7 k1.lt; replace k2 := k2.below b7 k2.lt; replace k3 := k3.below b7 k3.lt; replace k4 := k4.below b7 k4.lt; replace k5 := k5.below b7 k5.lt; replace kT := kT.below b7 kT.lt; replace RVs := RVs.below b7; replace R1 := R1.below b7; replace R2 := R2.below b7; replace R3 := R3.below b7; replace R4 := R4.below b7; replace R5 := R5.below b7; clear b7
      have g0 := k3.cell 0 (v := .int .i64 0) rfl
      have g1 := k3.cell 1 (v := .slice (some ⟨w3.heap.size + 1, 0, none⟩) 2 2) rfl
      have a0 := hL5.cell 0 (v := .int .i64 x.h) rfl; have a1 := hL5.cell 1 (v := .int .i64 x.z) rfl; have a2 := hL5.cell 2 (v := .int .i64 x.b) rfl; have a3 := hL5.cell 3 (v := .int .i64 x.r) rfl; have a4 := hL5.cell 4 (v := .int .i64 x.d) rfl; have a5 := hL5.cell 5 (v := .int .i64 x.e) rfl; have a6 := hL5.cell 6 (v := .int .i64 x.s) rfl; have a7 := hL5.cell 7 (v := .int .i64 x.p) rfl; have a8 := hL5.cell 8 (v := .int .i64 x.q) rfl; have a9 := hL5.cell 9 (v := .int .i64 x.t) rfl; have a10 := hL5.cell 10 (v := .slice (some B) n0 k) rfl
      go_wp2_with fail
      clear a0 a1 a2 a3 a4 a5 a6 a7 a8 a9 a10
      clear g0 g1
      refine (HMay.out false _ _ _ _ _ R3 (may_twice _ _)).mono ?_
      rintro e w8' ⟨rfl, b8⟩
      replace bl5 := bnext bl5 b8; replace hL5 := hL5.below b8 hL5.lt; replace k1 := k1.below b8 k1.lt; replace k2 := k2.below b8 k2.lt; replace k3 := k3.below b8 k3.lt; replace k4 := k4.below b8 k4.lt; replace k5 := k5.below b8 k5.lt; replace kT := kT.below b8 kT.lt; replace RVs := RVs.below b8; replace R1 := R1.below b8; replace R2 := R2.below b8; replace R3 := R3.below b8; replace R4 := R4.below b8; replace R5 := R5.below b8; clear b8
      have g0 := k4.cell 0 (v := .int .i64 0) rfl
      have g1 := k4.cell 1 (v := .slice (some ⟨w3.heap.size + 1 + 1 + 1 + 1, 0, none⟩) 1 1) rfl
      have a0 := hL5.cell 0 (v := .int .i64 x.h) rfl; have a1 := hL5.cell 1 (v := .int .i64 x.z) rfl; have a2 := hL5.cell 2 (v := .int .i64 x.b) rfl; have a3 := hL5.cell 3 (v := .int .i64 x.r) rfl; have a4 := hL5.cell 4 (v := .int .i64 x.d) rfl; have a5 := hL5.cell 5 (v := .int .i64 x.e) rfl; have a6 := hL5.cell 6 (v := .int .i64 x.s) rfl; have a7 := hL5.cell 7 (v := .int .i64 x.p) rfl; have a8 := hL5.cell 8 (v := .int .i64 x.q) rfl; have a9 := hL5.cell 9 (v := .int .i64 x.t) rfl; have a10 := hL5.cell 10 (v := .slice (some B) n0 k) rfl
      go_wp2_with fail
      clear a0 a1 a2 a3 a4 a5 a6 a7 a8 a9 a10
      clear g0 g1
      refine (HMay.out (kd == 1) _ _ _ _ _ R4 (may_some q1 q2 (by have := hxth.out; omega))).mono ?_
      rintro e w9' ⟨rfl, b9⟩
      replace bl5 := bnext bl5 b9; replace hL5 := hL5.below b9 hL5.lt; replace k1 := k1.below b9 k1.lt; replace k2 := k2.below b9 k2.lt; replace k3 := k3.below b9 k3.lt; replace k4 := k4.below b9 k4.lt; replace k5 := k5.below b9 k5.lt; replace kT := kT.below b9 kT.lt; replace RVs := RVs.below b9; replace R1 := R1.below b9; replace R2 := R2.below b9; replace R3 := R3.below b9; replace R4 := R4.below b9; replace R5 := R5.below b9; clear b9
      have g0 := k5.cell 0 (v := .int .i64 0) rfl
      have g1 := k5.cell 1 (v := .slice (some ⟨w4.heap.size, 0, none⟩) 1 1) rfl
      have a0 := hL5.cell 0 (v := .int .i64 x.h) rfl; have a1 := hL5.cell 1 (v := .int .i64 x.z) rfl; have a2 := hL5.cell 2 (v := .int .i64 x.b) rfl; have a3 := hL5.cell 3 (v := .int .i64 x.r) rfl; have a4 := hL5.cell 4 (v := .int .i64 x.d) rfl; have a5 := hL5.cell 5 (v := .int .i64 x.e) rfl; have a6 := hL5.cell 6 (v := .int .i64 x.s) rfl; have a7 := hL5.cell 7 (v := .int .i64 x.p) rfl; have a8 := hL5.cell 8 (v := .int .i64 x.q) rfl; have a9 := hL5.cell 9 (v := .int .i64 x.t) rfl; have a10 := hL5.cell 10 (v := .slice (some B) n0 k) rfl
      go_wp2_with fail
      clear a0 a1 a2 a3 a4 a5 a6 a7 a8 a9 a10
      clear g0 g1
      refine (HMay.out false _ _ _ _ _ R5 (may_many _ _)).mono ?_
      rintro e w10 ⟨rfl, b10⟩
      replace bl5 := bnext bl5 b10; replace hL5 := hL5.below b10 hL5.lt; replace k1 := k1.below b10 k1.lt; replace k2 := k2.below b10 k2.lt; replace k3 := k3.below b10 k3.lt; replace k4 := k4.below b10 k4.lt; replace k5 := k5.below b10 k5.lt; replace kT := kT.below b10 kT.lt; replace RVs := RVs.below b10; replace R1 := R1.below b10; replace R2 := R2.below b10; replace R3 := R3.below b10; replace R4 := R4.below b10; replace R5 := R5.below b10; clear b10
      have g0 := k4.cell 1 (v := .slice (some ⟨w3.heap.size + 1 + 1 + 1 + 1, 0, none⟩) 1 1) rfl
      have g1 := kT.cell 1 (v := .int .i64 kd) rfl
      have g2 := kT.cell 2 (v := .slice (some ⟨w3.heap.size + 1 + 1 + 1, 0, none⟩) 4 4) rfl
      go_wp2_with fail
      refine ((show Calls Try.prog 11 #[.agg #[.int .i64 kd, .slice (some ⟨w3.heap.size + 1 + 1 + 1, 0, none⟩) 4 4], .agg #[.int .i64 kd, .slice (some ⟨w3.heap.size + 1 + 1 + 1, 0, none⟩) 4 4]] w10 fun e w' => e = .returned (.bool true) ∧ Below w10.heap.size w10 w' from by have := clog_sameA kd (some ⟨w3.heap.size + 1 + 1 + 1, 0, none⟩) 4 4 [oneV, oneV, oneV, oneV] kd (some ⟨w3.heap.size + 1 + 1 + 1, 0, none⟩) 4 4 [oneV, oneV, oneV, oneV] w10 RVs RVs; rw [sameA_iff.2 ⟨rfl, rfl⟩] at this; exact this)).mono ?_
      rintro e w11 ⟨rfl, b11⟩
      have blZ := bnext bl5 b11
      go_wp2
      go_ret
      exact ⟨rfl, blZ⟩
end Go.Proofs.Ytjpgiohdaadieaa
