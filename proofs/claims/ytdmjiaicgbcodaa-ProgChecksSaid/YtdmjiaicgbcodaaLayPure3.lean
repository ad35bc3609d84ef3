/- Chapter 13's areas lie apart, in plain numbers. -/
import Derived.Test.YtdmjiaicgbcodaaLayPure2
import Derived.Test.YtdmjiaicgbcodaaLayJ
namespace Go.Proofs.Ytdmjiaicgbcodaa
open Go.ChangeShapes Go.WideShapes Go.ChangeAt Go.RowKit
open Go.ChangeMaps (open_string shut_string)
set_option linter.unusedVariables false
set_option linter.unusedSimpArgs false

theorem total_range {x : Cfg} (h : x.B) : 3 ≤ totalC x ∧ totalC x ≤ 65536 := by
  have a1 := slotsC_range h
  have a2 := stashC_range h
  have a3 := cells8_range h
  have a4 := leavesC_range' x.h h.h.1 h.h.2
  have hb := h.b
  have he := h.e
  have hp := h.p
  have b1 : 1 ≤ deltaLenC x ∧ deltaLenC x ≤ 2900 := by unfold deltaLenC; omega
  have b2 : 1 ≤ fullLenC x ∧ fullLenC x ≤ 3500 := by unfold fullLenC; omega
  have b3 := clogLenC_range h
  have c1 := cellsC_range h _ b1.1
  have c2 := cellsC_range h _ b2.1
  have c3 := cellsC_range h _ b3.1
  have c4 := clogsC_range h
  have d1 : 0 ≤ 2 * (x.p - 1) * cellsC x (deltaLenC x) := Int.mul_nonneg (by omega) (by omega)
  have d2 : 2 * (x.p - 1) * cellsC x (deltaLenC x) ≤ 14 * 2900 := Int.mul_le_mul (by omega) (by omega) (by omega) (by omega)
  unfold totalC bucketsC fullsC deltasC
  omega
theorem clog_zero (x : Cfg) : clogC x 0 = (clogsC x, cellsC x (clogLenC x)) := by unfold clogC; rw [Int.zero_emod, Int.zero_mul, Int.add_zero]
theorem clog_one (x : Cfg) : clogC x 1 = (clogsC x + cellsC x (clogLenC x), cellsC x (clogLenC x)) := by unfold clogC; rw [show (1 : Int) % 2 = 1 from rfl, Int.one_mul]
theorem full_zero (x : Cfg) : fullC x 0 = (fullsC x, cellsC x (fullLenC x)) := by unfold fullC; rw [Int.zero_ediv, Int.zero_emod, Int.zero_mul, Int.add_zero]
theorem full_one {x : Cfg} (h : x.B) : fullC x x.p = (fullsC x + cellsC x (fullLenC x), cellsC x (fullLenC x)) := by
  have hp := h.p
  unfold fullC
  rw [Int.ediv_self (by omega), show (1 : Int) % 2 = 1 from rfl, Int.one_mul]
/-- How many differences were marked ahead of the i-th. -/
def dnoC (x : Cfg) (i : Int) : Int := if i ≤ x.p then i - 1 else i - 2
theorem dno_next {x : Cfg} {i : Int} (h : i ≠ x.p) : dnoC x (i + 1) = dnoC x i + 1 := by
  unfold dnoC
  by_cases h1 : i < x.p
  · rw [if_pos (by omega), if_pos (by omega)]; omega
  · rw [if_neg (by omega), if_neg (by omega)]; omega
theorem dno_skip {x : Cfg} : dnoC x (x.p + 1) = dnoC x x.p := by
  unfold dnoC
  rw [if_neg (by omega), if_pos (by omega)]; omega
theorem dno_range {x : Cfg} (h : x.B) {i : Int} (h1 : 1 ≤ i) (h2 : i < 2 * x.p) (h3 : i ≠ x.p) : 0 ≤ dnoC x i ∧ dnoC x i + 1 ≤ 2 * (x.p - 1) := by
  unfold dnoC
  split <;> omega
theorem dno_all {x : Cfg} (h : x.B) : dnoC x (2 * x.p) = 2 * (x.p - 1) := by
  have hp := h.p
  unfold dnoC
  rw [if_neg (by omega)]; omega
theorem delta_at {x : Cfg} (h : x.B) {i : Int} (h1 : 1 ≤ i) (h2 : i < 2 * x.p) (h3 : i ≠ x.p) : deltaC x i = (deltasC x + dnoC x i * cellsC x (deltaLenC x), cellsC x (deltaLenC x)) := by
  have hp := h.p
  unfold deltaC dnoC
  by_cases h4 : i < x.p
  · have e1 : i / x.p = 0 := Int.ediv_eq_zero_of_lt (by omega) h4
    have e2 : i % x.p = i := Int.emod_eq_of_lt (by omega) h4
    rw [e1, e2, if_neg (by omega), if_pos (by omega), Int.zero_emod, Int.zero_mul, Int.zero_add]
  · have e0 : i = i - x.p + 1 * x.p := by omega
    have e1 : i / x.p = 1 := by rw [e0, Int.add_mul_ediv_right _ _ (by omega), Int.ediv_eq_zero_of_lt (by omega) (by omega)]; rfl
    have e2 : i % x.p = i - x.p := by rw [e0, Int.add_mul_emod_self_right, Int.emod_eq_of_lt (by omega) (by omega)]; omega
    rw [e1, e2, if_neg (by omega), if_neg (by omega), show (1 : Int) % 2 = 1 from rfl, Int.one_mul]
    congr 3
    omega
theorem bucket_at {x : Cfg} {i v : Int} (h0 : 0 ≤ i) (h1 : i < 2 * leavesC x.h - 1) (v0 : 0 ≤ v) (v1 : v ≤ 1) : bucketC x i v = bucketsC x + 2 * i + v := by
  unfold bucketC
  rw [if_pos ⟨by simp [inR]; omega, by simp [inR]; omega⟩]

/-- What is written next lies apart from what counts. -/
theorem check_apart {x : Cfg} (h : x.B) {q j : Int} (q0 : 0 ≤ q) (j0 : 0 ≤ j) (j1 : j ≤ q % x.p) :
    (checkC x (q + 1)).1 + (checkC x (q + 1)).2 ≤ (checkC x (q - q % x.p + j)).1 ∨ (checkC x (q - q % x.p + j)).1 + (checkC x (q - q % x.p + j)).2 ≤ (checkC x (q + 1)).1 := by
  have hp := h.p
  have r0 := Int.emod_nonneg q (show x.p ≠ 0 by omega)
  have r1 := Int.emod_lt_of_pos q (show 0 < x.p by omega)
  have e0 : q - q % x.p + j = j + q / x.p * x.p := by
    have := Int.mul_ediv_add_emod q x.p
    rw [Int.mul_comm] at this
    omega
  have eb1 : (q - q % x.p + j) / x.p = q / x.p := by rw [e0, Int.add_mul_ediv_right _ _ (by omega), Int.ediv_eq_zero_of_lt j0 (by omega), Int.zero_add]
  have eb2 : (q - q % x.p + j) % x.p = j := by rw [e0, Int.add_mul_emod_self_right, Int.emod_eq_of_lt j0 (by omega)]
  have c := cellsC_range h _ (deltaLenC_range h).1
  have c2 := cellsC_range h _ (fullLenC_range h).1
  by_cases hb : j = 0
  · have hbz : (q - q % x.p + j) % x.p = 0 := by rw [eb2]; exact hb
    rw [check_full hbz]
    by_cases ha : (q + 1) % x.p = 0
    · rw [check_full ha]
      have hr : q % x.p = x.p - 1 := by
        by_cases hlt : q % x.p + 1 < x.p
        · have e1 : q + 1 = q % x.p + 1 + q / x.p * x.p := by
            have := Int.mul_ediv_add_emod q x.p
            rw [Int.mul_comm] at this
            omega
          rw [e1, Int.add_mul_emod_self_right, Int.emod_eq_of_lt (by omega) hlt] at ha
          omega
        · omega
      have ea : (q + 1) / x.p = q / x.p + 1 := by
        have e1 : q + 1 = 0 + (q / x.p + 1) * x.p := by
          have := Int.mul_ediv_add_emod q x.p
          rw [Int.mul_comm] at this
          rw [Int.add_mul, Int.one_mul]
          omega
        rw [e1, Int.add_mul_ediv_right _ _ (by omega), Int.zero_ediv, Int.zero_add]
      unfold fullC
      rw [ea, eb1]
      have h3 : q / x.p % 2 = 0 ∧ (q / x.p + 1) % 2 = 1 ∨ q / x.p % 2 = 1 ∧ (q / x.p + 1) % 2 = 0 := by omega
      rcases h3 with ⟨a, b⟩ | ⟨a, b⟩ <;> rw [a, b] <;> simp only <;> omega
    · rw [check_delta ha]
      have a1 := delta_lt h ha
      have a2 := full_ge h (q - q % x.p + j)
      omega
  · have hbz : (q - q % x.p + j) % x.p ≠ 0 := by rw [eb2]; exact hb
    rw [check_delta hbz]
    by_cases ha : (q + 1) % x.p = 0
    · rw [check_full ha]
      have a1 := delta_lt h hbz
      have a2 := full_ge h (q + 1)
      omega
    · rw [check_delta ha]
      have hlt : q % x.p + 1 < x.p := by
        by_cases hlt : q % x.p + 1 < x.p
        · exact hlt
        · have e1 : q + 1 = 0 + (q / x.p + 1) * x.p := by
            have := Int.mul_ediv_add_emod q x.p
            rw [Int.mul_comm] at this
            rw [Int.add_mul, Int.one_mul]
            omega
          rw [e1, Int.add_mul_emod_self_right, Int.zero_emod] at ha
          exact absurd rfl ha
      have e1 : q + 1 = q % x.p + 1 + q / x.p * x.p := by
        have := Int.mul_ediv_add_emod q x.p
        rw [Int.mul_comm] at this
        omega
      have ea1 : (q + 1) / x.p = q / x.p := by rw [e1, Int.add_mul_ediv_right _ _ (by omega), Int.ediv_eq_zero_of_lt (by omega) hlt, Int.zero_add]
      have ea2 : (q + 1) % x.p = q % x.p + 1 := by
        conv => lhs; rw [e1]
        rw [Int.add_mul_emod_self_right, Int.emod_eq_of_lt (by omega) hlt]
      rw [deltaC, deltaC, if_neg ha, if_neg hbz, ea1, ea2, eb1, eb2]
      simp only
      generalize q / x.p % 2 * (x.p - 1) = E at *
      generalize cellsC x (deltaLenC x) = m at *
      have hmul : (E + j - 1 + 1) * m ≤ (E + (q % x.p + 1) - 1) * m := Int.mul_le_mul_of_nonneg_right (by omega) (by omega)
      rw [Int.add_mul (E + j - 1), Int.one_mul] at hmul
      right
      omega
theorem check_range {x : Cfg} (h : x.B) (q : Int) : 0 ≤ (checkC x q).1 ∧ (checkC x q).1 ≤ 100000 ∧ 1 ≤ (checkC x q).2 ∧ (checkC x q).2 ≤ 10000 := by
  have a := check_cells h q
  have b := bucketsC_range h
  have c := deltasC_range h
  have d := fullsC_range h
  by_cases hz : q % x.p = 0
  · rw [check_full hz] at *
    have e := full_ge h q
    omega
  · rw [check_delta hz] at *
    have e := delta_lt h hz
    omega
theorem clog_range {x : Cfg} (h : x.B) (q : Int) : 0 ≤ (clogC x q).1 ∧ (clogC x q).1 ≤ 100000 := by
  have a := clogsC_range h
  have b := cellsC_range h _ (clogLenC_range h).1
  have c := clogLenC_range h
  have h3 : q % 2 = 0 ∨ q % 2 = 1 := by omega
  unfold clogC
  rcases h3 with e | e <;> rw [e] <;> simp only <;> omega
theorem clog_ne {x : Cfg} (h : x.B) (q : Int) : (clogC x q).1 ≠ (clogC x (q + 1)).1 := by
  have c := cellsC_range h _ (clogLenC_range h).1
  unfold clogC
  have h3 : q % 2 = 0 ∧ (q + 1) % 2 = 1 ∨ q % 2 = 1 ∧ (q + 1) % 2 = 0 := by omega
  rcases h3 with ⟨a, b⟩ | ⟨a, b⟩ <;> rw [a, b] <;> simp only <;> omega
theorem clog_two (x : Cfg) (q : Int) : clogC x (q + 2) = clogC x q := by
  unfold clogC
  rw [show (q + 2) % 2 = q % 2 by omega]
end Go.Proofs.Ytdmjiaicgbcodaa
