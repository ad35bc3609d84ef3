/- The document of chapter 13: may a configuration be. -/
import Derived.Test.YtdmjiaicgbcodaaLayY
import Derived.Test.YtdmjiaicgbcodaaLayK
namespace Go.Proofs.Ytdmjiaicgbcodaa
open Go.ChangeShapes Go.WideShapes Go.ChangeAt Go.RowKit
open Go.ChangeMaps (open_string shut_string)
set_option linter.unusedVariables false
set_option linter.unusedSimpArgs false

theorem mayC_all {x : Cfg} {Z : List (List Int)} (h : mayC x Z = true) : (0 ≤ x.h ∧ x.h ≤ 6) ∧ (1 ≤ x.z ∧ x.z ≤ 4) ∧ (1 ≤ x.b ∧ x.b ≤ 64) ∧ (1 ≤ x.r ∧ x.r ≤ 4) ∧ (1 ≤ x.d ∧ x.d ≤ 8) ∧ (1 ≤ x.e ∧ x.e ≤ 8) ∧ (0 ≤ x.s ∧ x.s ≤ 64) ∧ (1 ≤ x.p ∧ x.p ≤ 8) ∧ (1 ≤ x.q ∧ x.q ≤ 16) ∧ (1 ≤ x.t ∧ x.t ≤ 8) ∧ tabsOk Z = true := by
  simp only [mayC, Bool.and_eq_true] at h
  obtain ⟨a, b, c, d, e, f, g, i, j, k, l⟩ := h
  exact ⟨inR_true a, inR_true b, inR_true c, inR_true d, inR_true e, inR_true f, inR_true g, inR_true i, inR_true j, inR_true k, l⟩
theorem mayC_none {x : Cfg} {Z : List (List Int)} (h : ¬ ((0 ≤ x.h ∧ x.h ≤ 6) ∧ (1 ≤ x.z ∧ x.z ≤ 4) ∧ (1 ≤ x.b ∧ x.b ≤ 64) ∧ (1 ≤ x.r ∧ x.r ≤ 4) ∧ (1 ≤ x.d ∧ x.d ≤ 8) ∧ (1 ≤ x.e ∧ x.e ≤ 8) ∧ (0 ≤ x.s ∧ x.s ≤ 64) ∧ (1 ≤ x.p ∧ x.p ≤ 8) ∧ (1 ≤ x.q ∧ x.q ≤ 16) ∧ (1 ≤ x.t ∧ x.t ≤ 8) ∧ 1 ≤ Z.length ∧ Z.length ≤ 4)) : mayC x Z = false := by
  cases hm : mayC x Z with
  | false => rfl
  | true =>
    obtain ⟨a, b, c, d, e, f, g, i, j, k, l⟩ := mayC_all hm
    have t := tabs_rows l
    exact absurd ⟨a, b, c, d, e, f, g, i, j, k, t.1, t.2.1⟩ h
theorem mayC_tab {x : Cfg} {Z : List (List Int)} (h : tabsOk Z = false) : mayC x Z = false := by
  cases hm : mayC x Z with
  | false => rfl
  | true => rw [(mayC_all hm).2.2.2.2.2.2.2.2.2.2] at h; cases h
theorem inR_is {n lo hi : Int} (h1 : lo ≤ n) (h2 : n ≤ hi) : inR n lo hi = true := by simp [inR, h1, h2]
theorem mayC_yes {x : Cfg} {Z : List (List Int)} (h : (0 ≤ x.h ∧ x.h ≤ 6) ∧ (1 ≤ x.z ∧ x.z ≤ 4) ∧ (1 ≤ x.b ∧ x.b ≤ 64) ∧ (1 ≤ x.r ∧ x.r ≤ 4) ∧ (1 ≤ x.d ∧ x.d ≤ 8) ∧ (1 ≤ x.e ∧ x.e ≤ 8) ∧ (0 ≤ x.s ∧ x.s ≤ 64) ∧ (1 ≤ x.p ∧ x.p ≤ 8) ∧ (1 ≤ x.q ∧ x.q ≤ 16) ∧ (1 ≤ x.t ∧ x.t ≤ 8)) (ht : tabsOk Z = true) : mayC x Z = true := by
  obtain ⟨a, b, c, d, e, f, g, i, j, k⟩ := h
  simp only [mayC, Bool.and_eq_true]
  exact ⟨inR_is a.1 a.2, inR_is b.1 b.2, inR_is c.1 c.2, inR_is d.1 d.2, inR_is e.1 e.2, inR_is f.1 f.2, inR_is g.1 g.2, inR_is i.1 i.2, inR_is j.1 j.2, inR_is k.1 k.2, ht⟩
def lenC (z : Int) : Int := if inR z 1 4 = true then z * 38 else 0
theorem ref_length_any (z : Int) (w : World) : Calls Try.prog 81 #[.int .i64 z] w fun e w' => e = .returned (.int .i64 (lenC z)) ∧ Below w.heap.size w w' := by
  unfold lenC
  by_cases h1 : z < 1
  · rw [if_neg (by simp [inR]; omega)]
    go_enter Try.func81, Try.ntmps81
    go_wp2
    go_ret
    exact ⟨rfl, (by repeat (first | exact Below.refl _ _ | assumption | apply below_drewN' | apply Below.drew | refine Below.alloc ?_ (by first | omega | (simp; done) | (simp; omega)) _ | refine Below.setCell ?_ (by first | omega | (simp; done) | (simp; omega)) _))⟩
  · by_cases h2 : 4 < z
    · rw [if_neg (by simp [inR]; omega)]
      go_enter Try.func81, Try.ntmps81
      go_wp2
      go_ret
      exact ⟨rfl, (by repeat (first | exact Below.refl _ _ | assumption | apply below_drewN' | apply Below.drew | refine Below.alloc ?_ (by first | omega | (simp; done) | (simp; omega)) _ | refine Below.setCell ?_ (by first | omega | (simp; done) | (simp; omega)) _))⟩
    · rw [if_pos (inR_is (by omega) (by omega))]
      exact ref_length z w (by omega) (by omega)
set_option maxHeartbeats 4000000 in
set_option maxRecDepth 100000 in
theorem ref_may (x : Cfg) (A : Option Addr) (n c : Nat) (Z : List (List Int)) (w : World) (h : RG w A n c Z) : Calls Try.prog 37 #[.agg #[.int .i64 x.h, .int .i64 x.z, .int .i64 x.b, .int .i64 x.r, .int .i64 x.d, .int .i64 x.e, .int .i64 x.s, .int .i64 x.p, .int .i64 x.q, .int .i64 x.t, .slice A n c]] w fun e w' => e = .returned (.bool (mayC x Z)) ∧ Below w.heap.size w w' := by
  obtain ⟨R, hR⟩ : ∃ R, mayC x Z = R := ⟨_, rfl⟩
  rw [hR]
  have hres := Lib.hid hR
  clear hR
  have hZn := h.len
  have hnm : n ≤ maxLen := Nat.le_trans h.cap h.max
  unfold maxLen at hnm
  have hX0 := Blk.new w #[.int .i64 x.h, .int .i64 x.z, .int .i64 x.b, .int .i64 x.r, .int .i64 x.d, .int .i64 x.e, .int .i64 x.s, .int .i64 x.p, .int .i64 x.q, .int .i64 x.t, .slice A n c] 24
  have bb : Below w.heap.size w (w.alloc (.cells #[.int .i64 x.h, .int .i64 x.z, .int .i64 x.b, .int .i64 x.r, .int .i64 x.d, .int .i64 x.e, .int .i64 x.s, .int .i64 x.p, .int .i64 x.q, .int .i64 x.t, .slice A n c] 24)) := (by repeat (first | exact Below.refl _ _ | assumption | apply below_drewN' | apply Below.drew | refine Below.alloc ?_ (by first | omega | (simp; done) | (simp; omega)) _ | refine Below.setCell ?_ (by first | omega | (simp; done) | (simp; omega)) _))
  obtain ⟨p, hp⟩ : ∃ p, inR x.h 0 6 = p := ⟨_, rfl⟩
  have HP := Lib.hid (fun w => ref_height x.h p w hp)
  have HL := Lib.hid (fun w => ref_length_any x.z w)
  go_enter Try.func37, Try.ntmps37
  go_wp2_with fail
  generalize w.alloc (.cells #[.int .i64 x.h, .int .i64 x.z, .int .i64 x.b, .int .i64 x.r, .int .i64 x.d, .int .i64 x.e, .int .i64 x.s, .int .i64 x.p, .int .i64 x.q, .int .i64 x.t, .slice A n c] 24) = W1 at *
  refine (HP.out _).mono ?_
  rintro e w2 ⟨rfl, e2⟩
  have hX := hX0.below e2 hX0.lt
  have bl := bnext bb e2
  clear hX0 bb e2 HP
  cases p with
  | false =>
    have hb : ¬ (0 ≤ x.h ∧ x.h ≤ 6) := by intro q; rw [inR_is q.1 q.2] at hp; cases hp
    clear hp
    (have hf := mayC_none (x := x) (Z := Z) (fun q => by omega); have hres2 := Lib.hid (hres.out.symm.trans hf); clear hf; go_wp2; go_ret; exact ⟨(show Ending.returned (.bool false) = .returned (.bool R) from by rewrite [hres2.out]; rfl), bl⟩)
  | true =>
  have hh := inR_true hp
  clear hp
  have a0 := hX.cell 0 (v := .int .i64 x.h) rfl; have a1 := hX.cell 1 (v := .int .i64 x.z) rfl; have a2 := hX.cell 2 (v := .int .i64 x.b) rfl; have a3 := hX.cell 3 (v := .int .i64 x.r) rfl; have a4 := hX.cell 4 (v := .int .i64 x.d) rfl; have a5 := hX.cell 5 (v := .int .i64 x.e) rfl; have a6 := hX.cell 6 (v := .int .i64 x.s) rfl; have a7 := hX.cell 7 (v := .int .i64 x.p) rfl; have a8 := hX.cell 8 (v := .int .i64 x.q) rfl; have a9 := hX.cell 9 (v := .int .i64 x.t) rfl; have a10 := hX.cell 10 (v := .slice A n c) rfl
  go_wp2_with fail
  refine (HL.out _).mono ?_
  rintro e w3 ⟨rfl, e3⟩
  replace hX := hX.below e3 hX.lt
  replace bl := bnext bl e3
  clear e3 HL a0 a1 a2 a3 a4 a5 a6 a7 a8 a9 a10
  have a0 := hX.cell 0 (v := .int .i64 x.h) rfl; have a1 := hX.cell 1 (v := .int .i64 x.z) rfl; have a2 := hX.cell 2 (v := .int .i64 x.b) rfl; have a3 := hX.cell 3 (v := .int .i64 x.r) rfl; have a4 := hX.cell 4 (v := .int .i64 x.d) rfl; have a5 := hX.cell 5 (v := .int .i64 x.e) rfl; have a6 := hX.cell 6 (v := .int .i64 x.s) rfl; have a7 := hX.cell 7 (v := .int .i64 x.p) rfl; have a8 := hX.cell 8 (v := .int .i64 x.q) rfl; have a9 := hX.cell 9 (v := .int .i64 x.t) rfl; have a10 := hX.cell 10 (v := .slice A n c) rfl
  unfold lenC
  cases hz : inR x.z 1 4 with
  | false =>
    have hb : ¬ (1 ≤ x.z ∧ x.z ≤ 4) := by intro q; rw [inR_is q.1 q.2] at hz; cases hz
    clear hz
    (have hf := mayC_none (x := x) (Z := Z) (fun q => by omega); have hres2 := Lib.hid (hres.out.symm.trans hf); clear hf; go_wp2; go_ret; exact ⟨(show Ending.returned (.bool false) = .returned (.bool R) from by rewrite [hres2.out]; rfl), bl⟩)
  | true =>
  have hz1 := inR_true hz
  clear hz
  have zn : (x.z * 38 == 0) = false := by rw [beq_eq_false_iff_ne]; omega
  by_cases k1 : x.b < 1
  · (have hf := mayC_none (x := x) (Z := Z) (fun q => by omega); have hres2 := Lib.hid (hres.out.symm.trans hf); clear hf; go_wp2; go_ret; exact ⟨(show Ending.returned (.bool false) = .returned (.bool R) from by rewrite [hres2.out]; rfl), bl⟩)
  by_cases k2 : 64 < x.b
  · (have hf := mayC_none (x := x) (Z := Z) (fun q => by omega); have hres2 := Lib.hid (hres.out.symm.trans hf); clear hf; go_wp2; go_ret; exact ⟨(show Ending.returned (.bool false) = .returned (.bool R) from by rewrite [hres2.out]; rfl), bl⟩)
  by_cases k3 : x.r < 1
  · (have hf := mayC_none (x := x) (Z := Z) (fun q => by omega); have hres2 := Lib.hid (hres.out.symm.trans hf); clear hf; go_wp2; go_ret; exact ⟨(show Ending.returned (.bool false) = .returned (.bool R) from by rewrite [hres2.out]; rfl), bl⟩)
  by_cases k4 : 4 < x.r
  · (have hf := mayC_none (x := x) (Z := Z) (fun q => by omega); have hres2 := Lib.hid (hres.out.symm.trans hf); clear hf; go_wp2; go_ret; exact ⟨(show Ending.returned (.bool false) = .returned (.bool R) from by rewrite [hres2.out]; rfl), bl⟩)
  by_cases k5 : x.d < 1
  · (have hf := mayC_none (x := x) (Z := Z) (fun q => by omega); have hres2 := Lib.hid (hres.out.symm.trans hf); clear hf; go_wp2; go_ret; exact ⟨(show Ending.returned (.bool false) = .returned (.bool R) from by rewrite [hres2.out]; rfl), bl⟩)
  by_cases k6 : 8 < x.d
  · (have hf := mayC_none (x := x) (Z := Z) (fun q => by omega); have hres2 := Lib.hid (hres.out.symm.trans hf); clear hf; go_wp2; go_ret; exact ⟨(show Ending.returned (.bool false) = .returned (.bool R) from by rewrite [hres2.out]; rfl), bl⟩)
  by_cases k7 : x.e < 1
  · (have hf := mayC_none (x := x) (Z := Z) (fun q => by omega); have hres2 := Lib.hid (hres.out.symm.trans hf); clear hf; go_wp2; go_ret; exact ⟨(show Ending.returned (.bool false) = .returned (.bool R) from by rewrite [hres2.out]; rfl), bl⟩)
  by_cases k8 : 8 < x.e
  · (have hf := mayC_none (x := x) (Z := Z) (fun q => by omega); have hres2 := Lib.hid (hres.out.symm.trans hf); clear hf; go_wp2; go_ret; exact ⟨(show Ending.returned (.bool false) = .returned (.bool R) from by rewrite [hres2.out]; rfl), bl⟩)
  by_cases k9 : x.s < 0
  · (have hf := mayC_none (x := x) (Z := Z) (fun q => by omega); have hres2 := Lib.hid (hres.out.symm.trans hf); clear hf; go_wp2; go_ret; exact ⟨(show Ending.returned (.bool false) = .returned (.bool R) from by rewrite [hres2.out]; rfl), bl⟩)
  by_cases k10 : 64 < x.s
  · (have hf := mayC_none (x := x) (Z := Z) (fun q => by omega); have hres2 := Lib.hid (hres.out.symm.trans hf); clear hf; go_wp2; go_ret; exact ⟨(show Ending.returned (.bool false) = .returned (.bool R) from by rewrite [hres2.out]; rfl), bl⟩)
  by_cases k11 : x.p < 1
  · (have hf := mayC_none (x := x) (Z := Z) (fun q => by omega); have hres2 := Lib.hid (hres.out.symm.trans hf); clear hf; go_wp2; go_ret; exact ⟨(show Ending.returned (.bool false) = .returned (.bool R) from by rewrite [hres2.out]; rfl), bl⟩)
  by_cases k12 : 8 < x.p
  · (have hf := mayC_none (x := x) (Z := Z) (fun q => by omega); have hres2 := Lib.hid (hres.out.symm.trans hf); clear hf; go_wp2; go_ret; exact ⟨(show Ending.returned (.bool false) = .returned (.bool R) from by rewrite [hres2.out]; rfl), bl⟩)
  by_cases k13 : x.q < 1
  · (have hf := mayC_none (x := x) (Z := Z) (fun q => by omega); have hres2 := Lib.hid (hres.out.symm.trans hf); clear hf; go_wp2; go_ret; exact ⟨(show Ending.returned (.bool false) = .returned (.bool R) from by rewrite [hres2.out]; rfl), bl⟩)
  by_cases k14 : 16 < x.q
  · (have hf := mayC_none (x := x) (Z := Z) (fun q => by omega); have hres2 := Lib.hid (hres.out.symm.trans hf); clear hf; go_wp2; go_ret; exact ⟨(show Ending.returned (.bool false) = .returned (.bool R) from by rewrite [hres2.out]; rfl), bl⟩)
  by_cases k15 : x.t < 1
  · (have hf := mayC_none (x := x) (Z := Z) (fun q => by omega); have hres2 := Lib.hid (hres.out.symm.trans hf); clear hf; go_wp2; go_ret; exact ⟨(show Ending.returned (.bool false) = .returned (.bool R) from by rewrite [hres2.out]; rfl), bl⟩)
  by_cases k16 : 8 < x.t
  · (have hf := mayC_none (x := x) (Z := Z) (fun q => by omega); have hres2 := Lib.hid (hres.out.symm.trans hf); clear hf; go_wp2; go_ret; exact ⟨(show Ending.returned (.bool false) = .returned (.bool R) from by rewrite [hres2.out]; rfl), bl⟩)
  by_cases k17 : n < 1
  · (have hf := mayC_none (x := x) (Z := Z) (fun q => by omega); have hres2 := Lib.hid (hres.out.symm.trans hf); clear hf; go_wp2; go_ret; exact ⟨(show Ending.returned (.bool false) = .returned (.bool R) from by rewrite [hres2.out]; rfl), bl⟩)
  by_cases k18 : 4 < n
  · (have hf := mayC_none (x := x) (Z := Z) (fun q => by omega); have hres2 := Lib.hid (hres.out.symm.trans hf); clear hf; go_wp2; go_ret; exact ⟨(show Ending.returned (.bool false) = .returned (.bool R) from by rewrite [hres2.out]; rfl), bl⟩)
  have hall := Lib.hid (show (0 ≤ x.h ∧ x.h ≤ 6) ∧ (1 ≤ x.z ∧ x.z ≤ 4) ∧ (1 ≤ x.b ∧ x.b ≤ 64) ∧ (1 ≤ x.r ∧ x.r ≤ 4) ∧ (1 ≤ x.d ∧ x.d ≤ 8) ∧ (1 ≤ x.e ∧ x.e ≤ 8) ∧ (0 ≤ x.s ∧ x.s ≤ 64) ∧ (1 ≤ x.p ∧ x.p ≤ 8) ∧ (1 ≤ x.q ∧ x.q ≤ 16) ∧ (1 ≤ x.t ∧ x.t ≤ 8) by omega)
  go_wp2
  have hX0 := hX
  have bl0 := bl
  clear hX bl a0 a1 a2 a3 a4 a5 a6 a7 a8 a9 a10 k1 k2 k3 k4 k5 k6 k7 k8 k9 k10 k11 k12 k13 k14 k15 k16 zn
  go_loopw [3] (fun i wr => ∃ k : Nat, k ≤ n ∧ i = .int .i64 k ∧ Blk wr w.heap.size #[.int .i64 x.h, .int .i64 x.z, .int .i64 x.b, .int .i64 x.r, .int .i64 x.d, .int .i64 x.e, .int .i64 x.s, .int .i64 x.p, .int .i64 x.q, .int .i64 x.t, .slice A n c] 24 ∧ Below w.heap.size w wr ∧ Hid (∀ (i : Nat) (z : List Int), i < k → Z[i]? = some z → rowOk z = true)) (fun i _ => n - (intOf i).toNat)
  case atStart => exact ⟨0, by omega, rfl, hX0, bl0, Lib.hid (fun i z hi => absurd hi (by omega))⟩
  case round =>
    obtain ⟨k, hk, rfl, hX, bl, hall2⟩ := hrel
    clear hX0 bl0
    have a10 := hX.cell 10 (v := .slice A n c) rfl
    by_cases hlt : k < n
    · obtain ⟨z, hz⟩ : ∃ z, Z[k]? = some z := ⟨_, List.getElem?_eq_getElem (by omega)⟩
      obtain ⟨g, o, rfl, hc⟩ := (h.below bl).at_ (by omega)
      obtain ⟨B, kk, hcell, hrow⟩ := hc k z hz
      have hzm : z.length ≤ maxLen := Nat.le_trans hrow.cap hrow.max
      unfold maxLen at hzm
      have hz2 := Lib.hid hz
      clear hc hz
      by_cases l1 : z.length < 1
      · have hbad := Lib.hid (tabs_bad hz2.out (show rowOk z = false by rw [rowOk, show inR z.length 1 4 = false by simp [inR]; omega, Bool.and_false]))
        have hres2 := Lib.hid (hres.out.symm.trans (mayC_tab hbad.out))
        go_wp2
        go_ret
        exact ⟨(show Ending.returned (.bool false) = .returned (.bool R) from by rewrite [hres2.out]; rfl), bl⟩
      by_cases l2 : 4 < z.length
      · have hbad := Lib.hid (tabs_bad hz2.out (show rowOk z = false by rw [rowOk, show inR z.length 1 4 = false by simp [inR]; omega, Bool.and_false]))
        have hres2 := Lib.hid (hres.out.symm.trans (mayC_tab hbad.out))
        go_wp2
        go_ret
        exact ⟨(show Ending.returned (.bool false) = .returned (.bool R) from by rewrite [hres2.out]; rfl), bl⟩
      go_wp2
      have hX0 := hX
      have bl0 := bl
      clear hX bl a10
      go_loopw [4] (fun i wq => ∃ j : Nat, j ≤ z.length ∧ i = .int .i64 j ∧ Blk wq w.heap.size #[.int .i64 x.h, .int .i64 x.z, .int .i64 x.b, .int .i64 x.r, .int .i64 x.d, .int .i64 x.e, .int .i64 x.s, .int .i64 x.p, .int .i64 x.q, .int .i64 x.t, .slice (some ⟨g, o, none⟩) n c] 24 ∧ Below w.heap.size w wq ∧ Below wr.heap.size wr wq ∧ Hid (∀ (i : Nat) (y : Int), i < j → z[i]? = some y → y = 1 ∨ y = 2)) (fun i _ => z.length - (intOf i).toNat)
      case atStart => exact ⟨0, by omega, rfl, hX0, bl0, Below.refl _ _, Lib.hid (fun i z hi => absurd hi (by omega))⟩
      case round =>
        obtain ⟨j, hj, rfl, hX, bl, bq, hin⟩ := hrel
        clear hX0 bl0
        have a10 := hX.cell 10 (v := .slice (some ⟨g, o, none⟩) n c) rfl
        have hcell2 := (bq.cell (p := ⟨g, _, none⟩) (World.block_lt_of_cell? _ _ hcell)).trans hcell
        by_cases hlt2 : j < z.length
        · obtain ⟨y, hy⟩ : ∃ y, z[j]? = some y := ⟨_, List.getElem?_eq_getElem (by omega)⟩
          obtain ⟨g2, o2, rfl, hc2⟩ := (hrow.below bq).at_ (by omega)
          have hcell3 := hc2 j y hy
          have hy2 := Lib.hid hy
          clear hc2 hy hcell
          by_cases h1 : y = 1
          · subst h1
            go_wp2
            go_roundw
            case rel =>
              refine ⟨j + 1, by omega, by go_num, hX, bl, bq, Lib.hid fun i x hi hx => ?_⟩
              by_cases e : i = j
              · subst e; rw [hy2.out] at hx; injection hx with hx; exact .inl hx.symm
              · exact hin.out i x (by omega) hx
            case measure => simp [intOf]; omega
          · by_cases h2 : y = 2
            · subst h2
              go_wp2
              go_roundw
              case rel =>
                refine ⟨j + 1, by omega, by go_num, hX, bl, bq, Lib.hid fun i x hi hx => ?_⟩
                by_cases e : i = j
                · subst e; rw [hy2.out] at hx; injection hx with hx; exact .inr hx.symm
                · exact hin.out i x (by omega) hx
              case measure => simp [intOf]; omega
            · have f1 : (y != 1) = true := by rw [bne_iff_ne]; exact h1
              have f2 : (y != 2) = true := by rw [bne_iff_ne]; exact h2
              have hbad := Lib.hid (tabs_bad hz2.out (row_bad hy2.out h1 h2))
              have hres2 := Lib.hid (hres.out.symm.trans (mayC_tab hbad.out))
              go_wp2
              go_ret
              exact ⟨(show Ending.returned (.bool false) = .returned (.bool R) from by rewrite [hres2.out]; rfl), bl⟩
        · have hjl : z.length = j := by omega
          have hrw := Lib.hid (show rowOk z = true by rw [row_is (fun i y hi hy => hin.out i y (by omega) hy)]; simp [inR]; omega)
          go_wp2
          go_roundw
          case rel =>
            refine ⟨k + 1, by omega, by go_num, hX, bl, Lib.hid fun i x hi hx => ?_⟩
            by_cases e : i = k
            · subst e; rw [hz2.out] at hx; injection hx with hx; rw [← hx]; exact hrw.out
            · exact hall2.out i x (by omega) hx
          case measure => simp [intOf]; omega
    · have hkn : n = k := by omega
      have ht := tabs_is (Z := Z) (fun i z hi => hall2.out i z (by omega))
      rw [show inR (Z.length : Int) 1 4 = true by simp [inR]; omega] at ht
      have hres2 := Lib.hid (hres.out.symm.trans (mayC_yes hall.out ht))
      clear ht
      go_wp2
      go_ret
      exact ⟨(show Ending.returned (.bool true) = .returned (.bool R) from by rewrite [hres2.out]; rfl), bl⟩
end Go.Proofs.Ytdmjiaicgbcodaa
