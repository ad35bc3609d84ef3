/- Contract of lay.Of. -/
import Derived.Test.YtdmjiaicgbcodaaLayF
namespace Go.Proofs.Ytdmjiaicgbcodaa
open Go.ChangeShapes Go.WideShapes Go.ChangeAt Go.RowKit
open Go.ChangeMaps (open_string shut_string)
set_option linter.unusedVariables false
set_option linter.unusedSimpArgs false

theorem info_int : (Try.prog.info? 3).map (fun i => (i.zero, i.size, i.bytes)) = some (some (.int .i64 0), 1, 8) := by kernel_rfl
theorem info_ints : (Try.prog.info? 61).map (fun i => (i.zero, i.size, i.bytes)) = some (some (.slice none 0 0), 1, 24) := by kernel_rfl
theorem info_is {P : Program} {t : TypeId} {z : Value} {a b : Nat} (h : (P.info? t).map (fun i => (i.zero, i.size, i.bytes)) = some (some z, a, b)) : ∃ i, P.info? t = some i ∧ i.zero = some z ∧ i.size = a ∧ i.bytes = b := by
  cases hi : P.info? t with
  | none => rw [hi] at h; cases h
  | some i => rw [hi] at h; simp at h; exact ⟨i, rfl, h.1, h.2.1, h.2.2⟩
theorem run_mkrows (w : World) (n : Nat) (hn : n ≤ 1000) : (Instr.makeSlice 22 (.int .i64 n) (.int .i64 n)).run Try.prog w = .ok (.slice (some ⟨w.heap.size, 0, none⟩) n n) (w.alloc (.cells (madeCells #[.slice none 0 0] n) 61)) := by
  obtain ⟨i, hi, hz, h1, h2⟩ := info_is info_ints
  have := run_make (P := Try.prog) w 22 61 i _ Try.underlying22 hi hz .i64 .i64 n n (by omega) (Int.le_refl _) (by rw [h2]; omega) (by omega)
  simp only [Int.toNat_natCast, h1, Nat.mul_one] at this
  exact this

/-- append of numbers onto nil. -/
theorem run_appi (ty : TypeId) (w : World) (l : List Int) (A : Option Addr) (m c : Nat) (hr : RN w A m c l) (h0 : 1 ≤ m) (hm : m ≤ 1000) :
    ∃ k cs, (Builtin.append_ #[61, 61] ty #[.slice none 0 0, .slice A m c]).run Try.prog w = .ok (.slice (some ⟨w.heap.size, 0, none⟩) m k) (w.drew.alloc (.cells cs 3)) := by
  obtain ⟨i0, hi, hz, h1, h2⟩ := info_is info_int
  obtain ⟨g, o, rfl, hc⟩ := hr.at_ (by omega)
  have hl := hr.len
  refine ⟨_, _, run_append_nil (P := Try.prog) w 61 ty 3 i0 _ Try.underlying61 hi hz ⟨g, o, none⟩ m c (l.map (.int .i64)) (by rw [List.length_map, h1, hl, Nat.mul_one]) ?_ (by omega) (by omega) (by rw [h2]; omega)⟩
  intro j v hv
  rw [List.getElem?_map] at hv
  cases hj : l[j]? with
  | none => rw [hj] at hv; cases hv
  | some y =>
    rw [hj] at hv
    injection hv with hv
    rw [← hv, Addr.add_lit]
    exact hc j y hj
theorem wpList_appi {ops : Array Oper} {o : Oper} {a : Act} {w : World} {rest : List Oper} {Q : Exit → Act → World → Prop} (hgd : o.guard = none) (s x : Operand) (hop : o.op = Op.call { callee := Callee.builtin Builtin.append, args := #[s, x], argTypes := #[61, 61] })
    (l : List Int) (A : Option Addr) (m c : Nat) (hs : a.eval s = .slice none 0 0) (hx : a.eval x = .slice A m c) (hr : RN w A m c l) (h0 : 1 ≤ m) (hm : m ≤ 1000)
    (h : ∀ k cs, wpList Try.prog ops Q rest (a.put o.dst (.slice (some ⟨w.heap.size, 0, none⟩) m k)) (w.drew.alloc (.cells cs 3))) : wpList Try.prog ops Q (o :: rest) a w := by
  refine wpList_plain hgd fun K hK => ?_
  obtain ⟨k, cs, hrun⟩ := run_appi o.type w l A m c hr h0 hm
  unfold Oper.wp execOp
  simp only [hop, resolve, invoke, builtin, Sem.run_bind, Sem.run_pure, Result.andThen_ok, List.map_toArray, List.map_cons, List.map_nil, hs, hx, hrun]
  exact hK _ _ (h k cs)

theorem tabs_rows {Z : List (List Int)} (h : tabsOk Z = true) : 1 ≤ Z.length ∧ Z.length ≤ 4 ∧ ∀ (i : Nat) (z : List Int), Z[i]? = some z → 1 ≤ z.length ∧ z.length ≤ 4 := by
  unfold tabsOk at h
  rw [Bool.and_eq_true] at h
  have a := inR_true h.2
  refine ⟨by omega, by omega, fun i z hz => ?_⟩
  have hm := List.all_eq_true.1 h.1 z (List.mem_of_getElem? hz)
  unfold rowOk at hm
  rw [Bool.and_eq_true] at hm
  have b := inR_true hm.2
  omega
theorem mayC_tabs {x : Cfg} {Z : List (List Int)} (h : mayC x Z = true) : tabsOk Z = true := by
  simp only [mayC, Bool.and_eq_true] at h
  exact h.2.2.2.2.2.2.2.2.2.2

theorem Blk.set11 {w : World} {g t : Nat} {u0 u1 u2 u3 u4 u5 u6 u7 u8 u9 u10 : Value} (h : Blk w g #[u0, u1, u2, u3, u4, u5, u6, u7, u8, u9, u10] t) (v0 v1 v2 v3 v4 v5 v6 v7 v8 v9 v10 : Value) : Blk (((((((((((w.setCell ⟨g, 0, none⟩ v0).setCell ⟨g, 1, none⟩ v1).setCell ⟨g, 2, none⟩ v2).setCell ⟨g, 3, none⟩ v3).setCell ⟨g, 4, none⟩ v4).setCell ⟨g, 5, none⟩ v5).setCell ⟨g, 6, none⟩ v6).setCell ⟨g, 7, none⟩ v7).setCell ⟨g, 8, none⟩ v8).setCell ⟨g, 9, none⟩ v9).setCell ⟨g, 10, none⟩ v10) g #[v0, v1, v2, v3, v4, v5, v6, v7, v8, v9, v10] t := by
  have := (((((((((((h.set 0 v0).set 1 v1).set 2 v2).set 3 v3).set 4 v4).set 5 v5).set 6 v6).set 7 v7).set 8 v8).set 9 v9).set 10 v10)
  simpa only [List.setIfInBounds_toArray, List.set_cons_zero, List.set_cons_succ] using this

set_option maxHeartbeats 1000000 in
set_option maxRecDepth 100000 in
theorem lay_of (x : Cfg) (A : Option Addr) (n c : Nat) (Z : List (List Int)) (w : World) (h : RG w A n c Z) (hm : mayC x Z = true) :
    Calls Try.prog 13 #[.agg #[.int .i64 x.h, .int .i64 x.z, .int .i64 x.b, .int .i64 x.r, .int .i64 x.d, .int .i64 x.e, .int .i64 x.s, .int .i64 x.p, .int .i64 x.q, .int .i64 x.t, .slice A n c]] w fun e w' => ∃ B k, e = .returned (.tuple #[.agg #[.int .i64 x.h, .int .i64 x.z, .int .i64 x.b, .int .i64 x.r, .int .i64 x.d, .int .i64 x.e, .int .i64 x.s, .int .i64 x.p, .int .i64 x.q, .int .i64 x.t, .slice (some B) n k], .int .i64 0]) ∧ Below w.heap.size w w' := by
  have HM := Lib.hid (fun w h => hm ▸ lay_may x A n c Z w h)
  obtain ⟨n0, n1, hrw⟩ := tabs_rows (mayC_tabs hm)
  have hZn := h.len
  have hrows := Lib.hid hrw
  clear hm hrw
  have bb : Below w.heap.size w ((w.alloc (.cells #[.int .i64 x.h, .int .i64 x.z, .int .i64 x.b, .int .i64 x.r, .int .i64 x.d, .int .i64 x.e, .int .i64 x.s, .int .i64 x.p, .int .i64 x.q, .int .i64 x.t, .slice A n c] 24)).alloc (.cells #[.int .i64 0, .int .i64 0, .int .i64 0, .int .i64 0, .int .i64 0, .int .i64 0, .int .i64 0, .int .i64 0, .int .i64 0, .int .i64 0, .slice none 0 0] 28)) := (by repeat (first | exact Below.refl _ _ | assumption | apply below_drewN' | apply Below.drew | refine Below.alloc ?_ (by first | omega | (simp; done) | (simp; omega)) _ | refine Below.setCell ?_ (by first | omega | (simp; done) | (simp; omega)) _))
  have hr0 := Blk.new2 w (.cells #[.int .i64 x.h, .int .i64 x.z, .int .i64 x.b, .int .i64 x.r, .int .i64 x.d, .int .i64 x.e, .int .i64 x.s, .int .i64 x.p, .int .i64 x.q, .int .i64 x.t, .slice A n c] 24) #[.int .i64 0, .int .i64 0, .int .i64 0, .int .i64 0, .int .i64 0, .int .i64 0, .int .i64 0, .int .i64 0, .int .i64 0, .int .i64 0, .slice none 0 0] 28
  have hx0 := (Blk.new w #[.int .i64 x.h, .int .i64 x.z, .int .i64 x.b, .int .i64 x.r, .int .i64 x.d, .int .i64 x.e, .int .i64 x.s, .int .i64 x.p, .int .i64 x.q, .int .i64 x.t, .slice A n c] 24).alloc (.cells #[.int .i64 0, .int .i64 0, .int .i64 0, .int .i64 0, .int .i64 0, .int .i64 0, .int .i64 0, .int .i64 0, .int .i64 0, .int .i64 0, .slice none 0 0] 28)
  have h1 := h.below bb
  go_enter Try.func13, Try.ntmps13
  go_wp2_with fail
  generalize (w.alloc (.cells #[.int .i64 x.h, .int .i64 x.z, .int .i64 x.b, .int .i64 x.r, .int .i64 x.d, .int .i64 x.e, .int .i64 x.s, .int .i64 x.p, .int .i64 x.q, .int .i64 x.t, .slice A n c] 24)).alloc (.cells #[.int .i64 0, .int .i64 0, .int .i64 0, .int .i64 0, .int .i64 0, .int .i64 0, .int .i64 0, .int .i64 0, .int .i64 0, .int .i64 0, .slice none 0 0] 28) = W1 at *
  refine (HM.out _ h1).mono ?_
  rintro e w3 ⟨rfl, hb⟩
  have hX := hx0.below hb hx0.lt
  have hR := hr0.below hb hr0.lt
  have b3 := bnext bb hb
  have hXlt := hX.lt
  clear hx0 hr0 bb hb h1
  have bR := Below.refl w3.heap.size w3
  have a0 := (hX.below bR hXlt).cell 0 (v := .int .i64 x.h) rfl; have a1 := (hX.below bR hXlt).cell 1 (v := .int .i64 x.z) rfl; have a2 := (hX.below bR hXlt).cell 2 (v := .int .i64 x.b) rfl; have a3 := (hX.below bR hXlt).cell 3 (v := .int .i64 x.r) rfl; have a4 := (hX.below bR hXlt).cell 4 (v := .int .i64 x.d) rfl; have a5 := (hX.below bR hXlt).cell 5 (v := .int .i64 x.e) rfl; have a6 := (hX.below bR hXlt).cell 6 (v := .int .i64 x.s) rfl; have a7 := (hX.below bR hXlt).cell 7 (v := .int .i64 x.p) rfl; have a8 := (hX.below bR hXlt).cell 8 (v := .int .i64 x.q) rfl; have a9 := (hX.below bR hXlt).cell 9 (v := .int .i64 x.t) rfl; have a10 := (hX.below bR hXlt).cell 10 (v := .slice A n c) rfl
  have hmk := fun w => run_mkrows w n (by omega)
  go_wp2
  have b4 : Below w.heap.size w (w3.alloc (.cells (madeCells #[.slice none 0 0] n) 61)) := (by repeat (first | exact Below.refl _ _ | assumption | apply below_drewN' | apply Below.drew | refine Below.alloc ?_ (by first | omega | (simp; done) | (simp; omega)) _ | refine Below.setCell ?_ (by first | omega | (simp; done) | (simp; omega)) _))
  have hG0 := Blk.new w3 (madeCells #[.slice none 0 0] n) 61
  have hX4 := hX.alloc (.cells (madeCells #[.slice none 0 0] n) 61)
  have hR4 := hR.alloc (.cells (madeCells #[.slice none 0 0] n) 61)
  have hms := size_madeCells #[.slice none 0 0] n
  have g3 : w.heap.size + 2 ≤ w3.heap.size := by have := hR.lt; omega
  clear a0 a1 a2 a3 a4 a5 a6 a7 a8 a9 a10 bR b3 hX hR hXlt
  generalize w3.heap.size = G at *
  go_loopw [18] (fun i wr => ∃ k : Nat, k ≤ n ∧ i = .int .i64 k ∧ Blk wr w.heap.size #[.int .i64 x.h, .int .i64 x.z, .int .i64 x.b, .int .i64 x.r, .int .i64 x.d, .int .i64 x.e, .int .i64 x.s, .int .i64 x.p, .int .i64 x.q, .int .i64 x.t, .slice A n c] 24 ∧ Blk wr (w.heap.size + 1) #[.int .i64 0, .int .i64 0, .int .i64 0, .int .i64 0, .int .i64 0, .int .i64 0, .int .i64 0, .int .i64 0, .int .i64 0, .int .i64 0, .slice none 0 0] 28 ∧ (∃ cs, Blk wr G cs 61 ∧ cs.size = n) ∧ Below w.heap.size w wr) (fun i _ => n - (intOf i).toNat)
  case atStart => exact ⟨0, by omega, rfl, hX4, hR4, ⟨_, hG0, hms⟩, b4⟩
  case round =>
    obtain ⟨k, hk, rfl, hX, hR, ⟨cs, hG, hcs⟩, br⟩ := hrel
    clear hX4 hR4 hG0 hms b4
    by_cases hlt : k < n
    · obtain ⟨z, hz⟩ : ∃ z, Z[k]? = some z := ⟨_, List.getElem?_eq_getElem (by omega)⟩
      obtain ⟨g, o, rfl, hc⟩ := (h.below br).at_ (by omega)
      obtain ⟨B, kk, hcell, hrow⟩ := hc k z hz
      obtain ⟨z0, z1⟩ := hrows.out k z hz
      clear hc hz
      obtain ⟨u, hu⟩ : ∃ u, cs[k]? = some u := ⟨_, Array.getElem?_eq_getElem (by omega)⟩
      have hgl := hG.lt
      have cu := hG.cell k hu
      have gu := hG.fz k
      go_wp2_with (refine wpList_appi rfl _ _ rfl z B z.length kk rfl rfl hrow z0 (by omega) ?_; intro kc ncs)
      go_roundw
      case rel =>
        refine ⟨k + 1, by omega, by go_num, (by repeat (first | assumption | apply Blk.drewN | apply Blk.drew | apply Blk.alloc | refine Blk.other ?_ (by first | omega | (simp; done) | (simp; omega)) _)), (by repeat (first | assumption | apply Blk.drewN | apply Blk.drew | apply Blk.alloc | refine Blk.other ?_ (by first | omega | (simp; done) | (simp; omega)) _)), ⟨_, ((hG.set k _).alloc _).drew, ?_⟩, (by repeat (first | exact Below.refl _ _ | assumption | apply below_drewN' | apply Below.drew | refine Below.alloc ?_ (by first | omega | (simp; done) | (simp; omega)) _ | refine Below.setCell ?_ (by first | omega | (simp; done) | (simp; omega)) _))⟩
        rw [Array.size_setIfInBounds]
        exact hcs
      case measure => simp [intOf]; omega
    · have hkn : n = k := by omega
      subst hkn
      have hXlt := hX.lt
      have bR := Below.refl wr.heap.size wr
      have a0 := (hX.below bR hXlt).cell 0 (v := .int .i64 x.h) rfl; have a1 := (hX.below bR hXlt).cell 1 (v := .int .i64 x.z) rfl; have a2 := (hX.below bR hXlt).cell 2 (v := .int .i64 x.b) rfl; have a3 := (hX.below bR hXlt).cell 3 (v := .int .i64 x.r) rfl; have a4 := (hX.below bR hXlt).cell 4 (v := .int .i64 x.d) rfl; have a5 := (hX.below bR hXlt).cell 5 (v := .int .i64 x.e) rfl; have a6 := (hX.below bR hXlt).cell 6 (v := .int .i64 x.s) rfl; have a7 := (hX.below bR hXlt).cell 7 (v := .int .i64 x.p) rfl; have a8 := (hX.below bR hXlt).cell 8 (v := .int .i64 x.q) rfl; have a9 := (hX.below bR hXlt).cell 9 (v := .int .i64 x.t) rfl; have a10 := (hX.below bR hXlt).cell 10 (v := .slice A n c) rfl
      have c0 := hR.cell 0 (v := .int .i64 0) rfl
      have c1 := hR.cell 1 (v := .int .i64 0) rfl
      have c2 := hR.cell 2 (v := .int .i64 0) rfl
      have c3 := hR.cell 3 (v := .int .i64 0) rfl
      have c4 := hR.cell 4 (v := .int .i64 0) rfl
      have c5 := hR.cell 5 (v := .int .i64 0) rfl
      have c6 := hR.cell 6 (v := .int .i64 0) rfl
      have c7 := hR.cell 7 (v := .int .i64 0) rfl
      have c8 := hR.cell 8 (v := .int .i64 0) rfl
      have c9 := hR.cell 9 (v := .int .i64 0) rfl
      have c10 := hR.cell 10 (v := .slice none 0 0) rfl
      have f10 := hX.fz 10
      have g0 := hR.fz 0
      have g1 := hR.fz 1
      have g2 := hR.fz 2
      have g3' := hR.fz 3
      have g4 := hR.fz 4
      have g5 := hR.fz 5
      have g6 := hR.fz 6
      have g7 := hR.fz 7
      have g8 := hR.fz 8
      have g9 := hR.fz 9
      have g10 := hR.fz 10
      go_wp2
      have hf := Blk.set11 (hR.other (p := ⟨w.heap.size, 10, none⟩) (by simp) (.slice (some ⟨G, 0, none⟩) n n)) (.int .i64 x.h) (.int .i64 x.z) (.int .i64 x.b) (.int .i64 x.r) (.int .i64 x.d) (.int .i64 x.e) (.int .i64 x.s) (.int .i64 x.p) (.int .i64 x.q) (.int .i64 x.t) (.slice (some ⟨G, 0, none⟩) n n)
      have bF : Below w.heap.size w ((((((((((((wr.setCell ⟨w.heap.size, 10, none⟩ (.slice (some ⟨G, 0, none⟩) n n)).setCell ⟨w.heap.size + 1, 0, none⟩ (.int .i64 x.h)).setCell ⟨w.heap.size + 1, 1, none⟩ (.int .i64 x.z)).setCell ⟨w.heap.size + 1, 2, none⟩ (.int .i64 x.b)).setCell ⟨w.heap.size + 1, 3, none⟩ (.int .i64 x.r)).setCell ⟨w.heap.size + 1, 4, none⟩ (.int .i64 x.d)).setCell ⟨w.heap.size + 1, 5, none⟩ (.int .i64 x.e)).setCell ⟨w.heap.size + 1, 6, none⟩ (.int .i64 x.s)).setCell ⟨w.heap.size + 1, 7, none⟩ (.int .i64 x.p)).setCell ⟨w.heap.size + 1, 8, none⟩ (.int .i64 x.q)).setCell ⟨w.heap.size + 1, 9, none⟩ (.int .i64 x.t)).setCell ⟨w.heap.size + 1, 10, none⟩ (.slice (some ⟨G, 0, none⟩) n n)) := ((((((((((((br.setCell (p := ⟨w.heap.size, 10, none⟩) (Nat.le_refl _) _).setCell (p := ⟨w.heap.size + 1, 0, none⟩) (Nat.le_succ _) _).setCell (p := ⟨w.heap.size + 1, 1, none⟩) (Nat.le_succ _) _).setCell (p := ⟨w.heap.size + 1, 2, none⟩) (Nat.le_succ _) _).setCell (p := ⟨w.heap.size + 1, 3, none⟩) (Nat.le_succ _) _).setCell (p := ⟨w.heap.size + 1, 4, none⟩) (Nat.le_succ _) _).setCell (p := ⟨w.heap.size + 1, 5, none⟩) (Nat.le_succ _) _).setCell (p := ⟨w.heap.size + 1, 6, none⟩) (Nat.le_succ _) _).setCell (p := ⟨w.heap.size + 1, 7, none⟩) (Nat.le_succ _) _).setCell (p := ⟨w.heap.size + 1, 8, none⟩) (Nat.le_succ _) _).setCell (p := ⟨w.heap.size + 1, 9, none⟩) (Nat.le_succ _) _).setCell (p := ⟨w.heap.size + 1, 10, none⟩) (Nat.le_succ _) _)
      generalize ((((((((((((wr.setCell ⟨w.heap.size, 10, none⟩ (.slice (some ⟨G, 0, none⟩) n n)).setCell ⟨w.heap.size + 1, 0, none⟩ (.int .i64 x.h)).setCell ⟨w.heap.size + 1, 1, none⟩ (.int .i64 x.z)).setCell ⟨w.heap.size + 1, 2, none⟩ (.int .i64 x.b)).setCell ⟨w.heap.size + 1, 3, none⟩ (.int .i64 x.r)).setCell ⟨w.heap.size + 1, 4, none⟩ (.int .i64 x.d)).setCell ⟨w.heap.size + 1, 5, none⟩ (.int .i64 x.e)).setCell ⟨w.heap.size + 1, 6, none⟩ (.int .i64 x.s)).setCell ⟨w.heap.size + 1, 7, none⟩ (.int .i64 x.p)).setCell ⟨w.heap.size + 1, 8, none⟩ (.int .i64 x.q)).setCell ⟨w.heap.size + 1, 9, none⟩ (.int .i64 x.t)).setCell ⟨w.heap.size + 1, 10, none⟩ (.slice (some ⟨G, 0, none⟩) n n)) = WF at *
      clear c0 c1 c2 c3 c4 c5 c6 c7 c8 c9 c10 g0 g1 g2 g3' g4 g5 g6 g7 g8 g9 g10 f10 a0 a1 a2 a3 a4 a5 a6 a7 a8 a9 a10
      have z0 := hf.cell 0 (v := .int .i64 x.h) rfl
      have z1 := hf.cell 1 (v := .int .i64 x.z) rfl
      have z2 := hf.cell 2 (v := .int .i64 x.b) rfl
      have z3 := hf.cell 3 (v := .int .i64 x.r) rfl
      have z4 := hf.cell 4 (v := .int .i64 x.d) rfl
      have z5 := hf.cell 5 (v := .int .i64 x.e) rfl
      have z6 := hf.cell 6 (v := .int .i64 x.s) rfl
      have z7 := hf.cell 7 (v := .int .i64 x.p) rfl
      have z8 := hf.cell 8 (v := .int .i64 x.q) rfl
      have z9 := hf.cell 9 (v := .int .i64 x.t) rfl
      have z10 := hf.cell 10 (v := .slice (some ⟨G, 0, none⟩) n n) rfl
      refine bodyPost_ret (v := .tuple #[.agg #[.int .i64 x.h, .int .i64 x.z, .int .i64 x.b, .int .i64 x.r, .int .i64 x.d, .int .i64 x.e, .int .i64 x.s, .int .i64 x.p, .int .i64 x.q, .int .i64 x.t, .slice (some ⟨G, 0, none⟩) n n], .int .i64 0]) (by simp [results, Try.results13, go_sem, z0, z1, z2, z3, z4, z5, z6, z7, z8, z9, z10]) rfl ⟨⟨G, 0, none⟩, n, rfl, bF⟩
end Go.Proofs.Ytdmjiaicgbcodaa
