/- Chapter 13's checkpoints and batches, in plain numbers. -/
import Derived.Test.YtdmjiaicgbcodaaLayF
namespace Go.Proofs.Ytdmjiaicgbcodaa
open Go.ChangeShapes Go.WideShapes Go.ChangeAt Go.RowKit
open Go.ChangeMaps (open_string shut_string)
set_option linter.unusedVariables false
set_option linter.unusedSimpArgs false

/-- Where a whole checkpoint, a difference, a checkpoint lies: its first cell and its number of cells. -/
def fullC (x : Cfg) (q : Int) : Int × Int := (fullsC x + (q / x.p % 2) * cellsC x (fullLenC x), cellsC x (fullLenC x))
def deltaC (x : Cfg) (q : Int) : Int × Int := if q % x.p = 0 then (0, 0) else (deltasC x + (q / x.p % 2 * (x.p - 1) + q % x.p - 1) * cellsC x (deltaLenC x), cellsC x (deltaLenC x))
def checkC (x : Cfg) (q : Int) : Int × Int := if q % x.p = 0 then fullC x q else deltaC x q

theorem check_full {x : Cfg} {q : Int} (h : q % x.p = 0) : checkC x q = fullC x q := if_pos h
theorem check_delta {x : Cfg} {q : Int} (h : q % x.p ≠ 0) : checkC x q = deltaC x q := if_neg h
/-- Which of the differences. -/
theorem delta_no {x : Cfg} (hx : x.B) {q : Int} (h : q % x.p ≠ 0) : 0 ≤ q / x.p % 2 * (x.p - 1) + q % x.p - 1 ∧ q / x.p % 2 * (x.p - 1) + q % x.p - 1 ≤ 2 * (x.p - 1) - 1 := by
  have hp := hx.p
  have h1 := Int.emod_nonneg q (show x.p ≠ 0 by omega)
  have h2 := Int.emod_lt_of_pos q (show 0 < x.p by omega)
  have h3 : q / x.p % 2 = 0 ∨ q / x.p % 2 = 1 := by omega
  rcases h3 with h3 | h3 <;> rw [h3] <;> omega
theorem delta_lt {x : Cfg} (hx : x.B) {q : Int} (h : q % x.p ≠ 0) : deltasC x ≤ (deltaC x q).1 ∧ (deltaC x q).1 + (deltaC x q).2 ≤ fullsC x := by
  have a := delta_no hx h
  have b := deltaLenC_range hx
  have c := cellsC_range hx (deltaLenC x) b.1
  rw [deltaC, if_neg h]
  unfold fullsC
  generalize q / x.p % 2 * (x.p - 1) + q % x.p - 1 = y at *
  generalize cellsC x (deltaLenC x) = m at *
  have d : 0 ≤ y * m := Int.mul_nonneg a.1 (by omega)
  have e : (y + 1) * m ≤ (2 * (x.p - 1)) * m := Int.mul_le_mul_of_nonneg_right (by omega) (by omega)
  rw [Int.add_mul, Int.one_mul] at e
  refine ⟨?_, ?_⟩ <;> simp only <;> omega
theorem full_ge {x : Cfg} (hx : x.B) (q : Int) : fullsC x ≤ (fullC x q).1 ∧ (fullC x q).1 + (fullC x q).2 ≤ bucketsC x := by
  have b := fullLenC_range hx
  have c := cellsC_range hx (fullLenC x) b.1
  have h3 : q / x.p % 2 = 0 ∨ q / x.p % 2 = 1 := by omega
  unfold bucketsC fullC
  rcases h3 with h3 | h3 <;> rw [h3] <;> simp only <;> omega
theorem delta_ne_full {x : Cfg} (hx : x.B) {q : Int} (h : q % x.p ≠ 0) (r : Int) : deltaC x q ≠ fullC x r := by
  have a := delta_lt hx h
  have b := full_ge hx r
  have c := cellsC_range hx (deltaLenC x) (deltaLenC_range hx).1
  have e : (deltaC x q).2 = cellsC x (deltaLenC x) := by rw [deltaC, if_neg h]
  intro f
  have f1 : (deltaC x q).1 = (fullC x r).1 := by rw [f]
  omega
theorem div_add {q p : Int} (hp : 1 ≤ p) (k : Int) : (q + k * p) / p = q / p + k ∧ (q + k * p) % p = q % p :=
  ⟨Int.add_mul_ediv_right _ _ (by omega), Int.add_mul_emod_self_right _ _ _⟩
theorem full_2p {x : Cfg} (hx : x.B) (q : Int) : fullC x (q + 2 * x.p) = fullC x q := by
  have hp := hx.p
  have e : (q / x.p + 2) % 2 = q / x.p % 2 := by omega
  rw [fullC, fullC, (div_add (q := q) hp.1 2).1, e]
theorem delta_2p {x : Cfg} (hx : x.B) (q : Int) : deltaC x (q + 2 * x.p) = deltaC x q := by
  have hp := hx.p
  have e : (q / x.p + 2) % 2 = q / x.p % 2 := by omega
  rw [deltaC, deltaC, (div_add (q := q) hp.1 2).1, (div_add (q := q) hp.1 2).2, e]
theorem check_2p {x : Cfg} (hx : x.B) (q : Int) : checkC x (q + 2 * x.p) = checkC x q := by
  have hp := hx.p
  rw [checkC, checkC, full_2p hx, delta_2p hx, (div_add (q := q) hp.1 2).2]
theorem full_p {x : Cfg} (hx : x.B) (q : Int) : fullC x q ≠ fullC x (q + x.p) := by
  have hp := hx.p
  have c := cellsC_range hx (fullLenC x) (fullLenC_range hx).1
  have d := (div_add (q := q) hp.1 1).1
  rw [Int.one_mul] at d
  intro f
  have f1 : (fullC x q).1 = (fullC x (q + x.p)).1 := by rw [f]
  unfold fullC at f1
  rw [d] at f1
  have h3 : q / x.p % 2 = 0 ∧ (q / x.p + 1) % 2 = 1 ∨ q / x.p % 2 = 1 ∧ (q / x.p + 1) % 2 = 0 := by omega
  rcases h3 with ⟨a, b⟩ | ⟨a, b⟩ <;> rw [a, b] at f1 <;> simp only at f1 <;> omega

/-- How many whole checkpoints stand among j from s on. -/
def wholeC (p s j : Int) : Int := (s + j + p - 1) / p - (s + p - 1) / p
theorem whole_zero (p s : Int) : wholeC p s 0 = 0 := by unfold wholeC; rw [Int.add_zero]; omega
theorem whole_next {p : Int} (h1 : 1 ≤ p) (h2 : p ≤ 8) (s j : Int) : wholeC p s (j + 1) = wholeC p s j + if (s + j) % p = 0 then 1 else 0 := by
  have hh : p = 1 ∨ p = 2 ∨ p = 3 ∨ p = 4 ∨ p = 5 ∨ p = 6 ∨ p = 7 ∨ p = 8 := by omega
  unfold wholeC
  rcases hh with rfl | rfl | rfl | rfl | rfl | rfl | rfl | rfl <;> split <;> omega
theorem whole_all {p : Int} (h1 : 1 ≤ p) (s : Int) : wholeC p s p = 1 := by
  have d := (div_add (q := s + p - 1) h1 1).1
  rw [Int.one_mul] at d
  unfold wholeC
  rw [show s + p + p - 1 = s + p - 1 + p by omega, d]
  omega

/-- What the batches from -1 on sum up to, ahead of the i-th. -/
def accC (x : Cfg) (i : Int) : Int := if i ≤ 0 then 0 else if i ≤ x.r then i * x.d else x.r * x.d + x.e
theorem acc_next {x : Cfg} (hx : x.B) {i : Int} (h : -1 ≤ i) : accC x (i + 1) = accC x i + batchC x i := by
  have hr := hx.r
  unfold accC batchC
  by_cases h0 : i < 0
  · rw [if_pos (by omega), if_pos (by omega), if_neg (by omega), if_neg (by omega)]; rfl
  · by_cases h1 : i < x.r
    · rw [if_neg (by omega), if_pos (by omega), if_pos (show 0 ≤ i ∧ i < x.r by omega), Int.add_mul, Int.one_mul]
      by_cases h2 : i ≤ 0
      · have : i = 0 := by omega
        subst this
        rw [if_pos (by omega), Int.zero_mul]
      · rw [if_neg h2, if_pos (by omega)]
    · by_cases h2 : i = x.r
      · subst h2
        rw [if_neg (by omega), if_neg (by omega), if_neg (by omega), if_pos (by omega), if_neg (by omega), if_pos rfl]
      · rw [if_neg (by omega), if_neg (by omega), if_neg (by omega), if_neg (by omega), if_neg (by omega), if_neg h2, Int.add_zero]
theorem acc_all {x : Cfg} (hx : x.B) : accC x (x.r + 2) = slotsC x := by
  have hr := hx.r
  unfold accC slotsC
  rw [if_neg (by omega), if_neg (by omega)]
theorem batch_last {x : Cfg} : batchC x x.r = x.e := by
  unfold batchC
  rw [if_neg (by omega), if_pos rfl]
theorem delta_full_1 {x : Cfg} (hx : x.B) {q : Int} (h : q % x.p ≠ 0) (r : Int) : (deltaC x q).1 ≠ (fullC x r).1 := by
  have a := delta_lt hx h
  have b := full_ge hx r
  have c := cellsC_range hx (deltaLenC x) (deltaLenC_range hx).1
  have e : (deltaC x q).2 = cellsC x (deltaLenC x) := by rw [deltaC, if_neg h]
  omega
theorem full_p_1 {x : Cfg} (hx : x.B) (q : Int) : (fullC x q).1 ≠ (fullC x (q + x.p)).1 := by
  intro h
  exact full_p hx q (Prod.ext h rfl)
theorem acc_range {x : Cfg} (hx : x.B) (i : Int) : 0 ≤ accC x i ∧ accC x i ≤ 1000 := by
  have hr := hx.r
  have hd := hx.d
  have he := hx.e
  unfold accC
  split
  · omega
  · split
    · have a : 0 ≤ i * x.d := Int.mul_nonneg (by omega) (by omega)
      have b : i * x.d ≤ 4 * 8 := Int.mul_le_mul (by omega) (by omega) (by omega) (by omega)
      omega
    · have a : 0 ≤ x.r * x.d := Int.mul_nonneg (by omega) (by omega)
      have b : x.r * x.d ≤ 4 * 8 := Int.mul_le_mul (by omega) (by omega) (by omega) (by omega)
      omega
theorem batch_range {x : Cfg} (hx : x.B) (i : Int) : 0 ≤ batchC x i ∧ batchC x i ≤ 100 := by
  have hd := hx.d
  have he := hx.e
  unfold batchC
  split
  · omega
  · split <;> omega
theorem whole_range {p : Int} (h1 : 1 ≤ p) (h2 : p ≤ 8) (s j : Int) (j0 : 0 ≤ j) (j1 : j ≤ 8) : 0 ≤ wholeC p s j ∧ wholeC p s j ≤ 100 := by
  have hh : p = 1 ∨ p = 2 ∨ p = 3 ∨ p = 4 ∨ p = 5 ∨ p = 6 ∨ p = 7 ∨ p = 8 := by omega
  unfold wholeC
  rcases hh with rfl | rfl | rfl | rfl | rfl | rfl | rfl | rfl <;> omega
end Go.Proofs.Ytdmjiaicgbcodaa
