/- Contracts of package lay: within, tables, May; of tree.May. -/
import Derived.Test.YtdmjiaicgbcodaaGrid
import Derived.WalkLawsBesides
namespace Go.Proofs.Ytdmjiaicgbcodaa
open Go.ChangeShapes Go.WideShapes Go.ChangeAt Go.RowKit
open Go.ChangeMaps (open_string shut_string)
set_option linter.unusedVariables false
set_option linter.unusedSimpArgs false

/-- Is a number between two? -/
def inR (n lo hi : Int) : Bool := decide (lo ≤ n) && decide (n ≤ hi)
theorem inR_true {n lo hi : Int} (h : inR n lo hi = true) : lo ≤ n ∧ n ≤ hi := by simpa [inR] using h
theorem lay_within (n lo hi : Int) (b : Bool) (w : World) (hb : inR n lo hi = b) : Calls Try.prog 62 #[.int .i64 n, .int .i64 lo, .int .i64 hi] w fun e w' => e = .returned (.bool b) ∧ Below w.heap.size w w' := by
  have hh := Lib.hid hb
  clear hb
  by_cases h1 : lo ≤ n
  · go_enter Try.func62, Try.ntmps62
    go_wp2
    go_ret
    exact ⟨by rw [← hh.out]; simp [inR, h1], (by repeat (first | exact Below.refl _ _ | assumption | apply below_drewN' | apply Below.drew | refine Below.alloc ?_ (by first | omega | (simp; done) | (simp; omega)) _ | refine Below.setCell ?_ (by first | omega | (simp; done) | (simp; omega)) _))⟩
  · go_enter Try.func62, Try.ntmps62
    go_wp2
    go_ret
    exact ⟨by rw [← hh.out, inR, decide_eq_false (by omega)]; rfl, (by repeat (first | exact Below.refl _ _ | assumption | apply below_drewN' | apply Below.drew | refine Below.alloc ?_ (by first | omega | (simp; done) | (simp; omega)) _ | refine Below.setCell ?_ (by first | omega | (simp; done) | (simp; omega)) _))⟩
theorem tree_may (n : Int) (b : Bool) (w : World) (hb : inR n 0 6 = b) : Calls Try.prog 61 #[.int .i64 n] w fun e w' => e = .returned (.bool b) ∧ Below w.heap.size w w' := by
  have hh := Lib.hid hb
  clear hb
  by_cases h1 : 0 ≤ n
  · go_enter Try.func61, Try.ntmps61
    go_wp2
    go_ret
    exact ⟨by rw [← hh.out]; simp [inR, h1], (by repeat (first | exact Below.refl _ _ | assumption | apply below_drewN' | apply Below.drew | refine Below.alloc ?_ (by first | omega | (simp; done) | (simp; omega)) _ | refine Below.setCell ?_ (by first | omega | (simp; done) | (simp; omega)) _))⟩
  · go_enter Try.func61, Try.ntmps61
    go_wp2
    go_ret
    exact ⟨by rw [← hh.out, inR, decide_eq_false (by omega)]; rfl, (by repeat (first | exact Below.refl _ _ | assumption | apply below_drewN' | apply Below.drew | refine Below.alloc ?_ (by first | omega | (simp; done) | (simp; omega)) _ | refine Below.setCell ?_ (by first | omega | (simp; done) | (simp; omega)) _))⟩

/-- May a table's kinds be? May tables be? -/
def rowOk (z : List Int) : Bool := z.all (fun k => k == 1 || k == 2) && inR z.length 1 4
def tabsOk (Z : List (List Int)) : Bool := Z.all rowOk && inR Z.length 1 4
theorem tabs_bad {Z : List (List Int)} {z : List Int} {k : Nat} (hz : Z[k]? = some z) (h : rowOk z = false) : tabsOk Z = false := by
  have hm : z ∈ Z := List.mem_of_getElem? hz
  have : Z.all rowOk = false := by rw [List.all_eq_false]; exact ⟨z, hm, by rw [h]; simp⟩
  simp [tabsOk, this]
theorem row_bad {z : List Int} {y : Int} {j : Nat} (hy : z[j]? = some y) (h1 : y ≠ 1) (h2 : y ≠ 2) : rowOk z = false := by
  have hm : y ∈ z := List.mem_of_getElem? hy
  have : z.all (fun k => k == 1 || k == 2) = false := by rw [List.all_eq_false]; exact ⟨y, hm, by simp [h1, h2]⟩
  simp [rowOk, this]
theorem row_is {z : List Int} (h : ∀ i y, i < z.length → z[i]? = some y → y = 1 ∨ y = 2) : rowOk z = inR z.length 1 4 := by
  have : z.all (fun k => k == 1 || k == 2) = true := by
    rw [List.all_eq_true]
    intro y hy
    obtain ⟨i, hi⟩ := List.mem_iff_getElem?.1 hy
    have hl := (List.getElem?_eq_some_iff.1 hi).1
    rcases h i y hl hi with rfl | rfl <;> rfl
  rw [rowOk, this, Bool.true_and]
theorem tabs_is {Z : List (List Int)} (h : ∀ i z, i < Z.length → Z[i]? = some z → rowOk z = true) : tabsOk Z = inR Z.length 1 4 := by
  have : Z.all rowOk = true := by
    rw [List.all_eq_true]
    intro y hy
    obtain ⟨i, hi⟩ := List.mem_iff_getElem?.1 hy
    exact h i y (List.getElem?_eq_some_iff.1 hi).1 hi
  rw [tabsOk, this, Bool.true_and]

set_option maxHeartbeats 1000000 in
set_option maxRecDepth 100000 in
theorem lay_tables (A : Option Addr) (n c : Nat) (Z : List (List Int)) (w : World) (h : RG w A n c Z) : Calls Try.prog 63 #[.slice A n c] w fun e w' => e = .returned (.bool (tabsOk Z)) ∧ Below w.heap.size w w' := by
  obtain ⟨R, hR⟩ : ∃ R, tabsOk Z = R := ⟨_, rfl⟩
  rw [hR]
  have hres := Lib.hid hR
  clear hR
  have hZn := h.len
  have hnm : n ≤ maxLen := Nat.le_trans h.cap h.max
  unfold maxLen at hnm
  go_enter Try.func63, Try.ntmps63
  go_wp2
  go_loopw [9] (fun i wr => ∃ k : Nat, k ≤ n ∧ i = .int .i64 k ∧ Below w.heap.size w wr ∧ Hid (∀ i z, i < k → Z[i]? = some z → rowOk z = true)) (fun i _ => n - (intOf i).toNat)
  case atStart => exact ⟨0, by omega, rfl, (by repeat (first | exact Below.refl _ _ | assumption | apply below_drewN' | apply Below.drew | refine Below.alloc ?_ (by first | omega | (simp; done) | (simp; omega)) _ | refine Below.setCell ?_ (by first | omega | (simp; done) | (simp; omega)) _)), fun i z hi => absurd hi (by omega)⟩
  case round =>
    obtain ⟨k, hk, rfl, br, hall⟩ := hrel
    by_cases hlt : k < n
    · obtain ⟨z, hz⟩ : ∃ z, Z[k]? = some z := ⟨_, List.getElem?_eq_getElem (by omega)⟩
      obtain ⟨g, o, rfl, hc⟩ := (h.below br).at_ (by omega)
      obtain ⟨B, kk, hcell, hrow⟩ := hc k z hz
      have hzm : z.length ≤ maxLen := Nat.le_trans hrow.cap hrow.max
      unfold maxLen at hzm
      have hz2 := Lib.hid hz
      clear hc hz
      go_wp2
      go_loopw [15] (fun i wq => ∃ j : Nat, j ≤ z.length ∧ i = .int .i64 j ∧ Below wr.heap.size wr wq ∧ Hid (∀ i y, i < j → z[i]? = some y → y = 1 ∨ y = 2)) (fun i _ => z.length - (intOf i).toNat)
      case atStart => exact ⟨0, by omega, rfl, (by repeat (first | exact Below.refl _ _ | assumption | apply below_drewN' | apply Below.drew | refine Below.alloc ?_ (by first | omega | (simp; done) | (simp; omega)) _ | refine Below.setCell ?_ (by first | omega | (simp; done) | (simp; omega)) _)), fun i z hi => absurd hi (by omega)⟩
      case round =>
        obtain ⟨j, hj, rfl, bq, hin⟩ := hrel
        clear hcell
        by_cases hlt2 : j < z.length
        · obtain ⟨y, hy⟩ : ∃ y, z[j]? = some y := ⟨_, List.getElem?_eq_getElem (by omega)⟩
          obtain ⟨g2, o2, rfl, hc2⟩ := (hrow.below bq).at_ (by omega)
          have hcell := hc2 j y hy
          have hy2 := Lib.hid hy
          clear hc2 hy
          by_cases h1 : y = 1
          · subst h1
            go_wp2
            go_roundw
            case rel =>
              refine ⟨j + 1, by omega, by go_num, (by repeat (first | exact Below.refl _ _ | assumption | apply below_drewN' | apply Below.drew | refine Below.alloc ?_ (by first | omega | (simp; done) | (simp; omega)) _ | refine Below.setCell ?_ (by first | omega | (simp; done) | (simp; omega)) _)), fun i x hi hx => ?_⟩
              by_cases e : i = j
              · subst e; rw [hy2.out] at hx; injection hx with hx; exact .inl hx.symm
              · exact hin i x (by omega) hx
            case measure => simp [intOf]; omega
          · by_cases h2 : y = 2
            · subst h2
              go_wp2
              go_roundw
              case rel =>
                refine ⟨j + 1, by omega, by go_num, (by repeat (first | exact Below.refl _ _ | assumption | apply below_drewN' | apply Below.drew | refine Below.alloc ?_ (by first | omega | (simp; done) | (simp; omega)) _ | refine Below.setCell ?_ (by first | omega | (simp; done) | (simp; omega)) _)), fun i x hi hx => ?_⟩
                by_cases e : i = j
                · subst e; rw [hy2.out] at hx; injection hx with hx; exact .inr hx.symm
                · exact hin i x (by omega) hx
              case measure => simp [intOf]; omega
            · have f1 : (y != 1) = true := by rw [bne_iff_ne]; exact h1
              have f2 : (y != 2) = true := by rw [bne_iff_ne]; exact h2
              go_wp2
              go_ret
              exact ⟨by rw [← hres.out, tabs_bad hz2.out (row_bad hy2.out h1 h2)]; rfl, bnext br bq⟩
        · have hjl : j = z.length := by omega
          subst hjl
          have hrw := row_is hin
          obtain ⟨b, hb⟩ : ∃ b, inR z.length 1 4 = b := ⟨_, rfl⟩
          rw [hb] at hrw
          have hrw2 := Lib.hid hrw
          clear hrw
          go_wp2_with fail
          refine (lay_within _ _ _ b _ hb).mono ?_
          rintro e w3 ⟨rfl, b3⟩
          clear hb
          have b4 := bnext (bnext br bq) b3
          cases b with
          | true =>
            go_wp2
            go_roundw
            case rel =>
              refine ⟨k + 1, by omega, by go_num, (by repeat (first | exact Below.refl _ _ | assumption | apply below_drewN' | apply Below.drew | refine Below.alloc ?_ (by first | omega | (simp; done) | (simp; omega)) _ | refine Below.setCell ?_ (by first | omega | (simp; done) | (simp; omega)) _)), fun i x hi hx => ?_⟩
              by_cases e : i = k
              · subst e; rw [hz2.out] at hx; injection hx with hx; rw [← hx]; exact hrw2.out
              · exact hall i x (by omega) hx
            case measure => simp [intOf]; omega
          | false =>
            go_wp2
            go_ret
            exact ⟨by rw [← hres.out, tabs_bad hz2.out hrw2.out]; rfl, (by repeat (first | exact Below.refl _ _ | assumption | apply below_drewN' | apply Below.drew | refine Below.alloc ?_ (by first | omega | (simp; done) | (simp; omega)) _ | refine Below.setCell ?_ (by first | omega | (simp; done) | (simp; omega)) _))⟩
    · have hkn : k = n := by omega
      subst hkn
      have ht := tabs_is (Z := Z) (fun i z hi => hall i z (by omega))
      rw [hres.out, hZn] at ht
      have ht2 := Lib.hid ht.symm
      clear ht
      go_wp2_with fail
      refine (lay_within _ _ _ R _ ht2.out).mono ?_
      rintro e w3 ⟨rfl, b3⟩
      go_wp2
      go_ret
      exact ⟨rfl, bnext br b3⟩
end Go.Proofs.Ytdmjiaicgbcodaa
