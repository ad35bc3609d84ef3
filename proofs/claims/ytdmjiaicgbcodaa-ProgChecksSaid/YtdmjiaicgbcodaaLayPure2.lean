/- Chapter 13's numbers of operations, in plain numbers. -/
import Derived.Test.YtdmjiaicgbcodaaLayP
import Derived.Test.YtdmjiaicgbcodaaLayR
namespace Go.Proofs.Ytdmjiaicgbcodaa
open Go.ChangeShapes Go.WideShapes Go.ChangeAt Go.RowKit
open Go.ChangeMaps (open_string shut_string)
set_option linter.unusedVariables false
set_option linter.unusedSimpArgs false

theorem delta_cells {x : Cfg} {q : Int} (h : q % x.p ≠ 0) : (deltaC x q).2 = cellsC x (deltaLenC x) := by rw [deltaC, if_neg h]
theorem check_cells_p {x : Cfg} (hx : x.B) (q : Int) : (checkC x (q + x.p)).2 = (checkC x q).2 := by
  have hp := hx.p
  have d := (div_add (q := q) hp.1 1).2
  rw [Int.one_mul] at d
  unfold checkC deltaC fullC
  rw [d]
  split <;> rfl
theorem tick_p {x : Cfg} (hx : x.B) (q : Int) : tickC x (q + x.p) = tickC x q := by unfold tickC; rw [check_cells_p hx]
theorem tick_is (x : Cfg) (q : Int) : tickC x q = slotsC x * cellsC x 12 + 2 * (x.h + 1) * slotsC x + (checkC x q).2 + cellsC x (clogLenC x) + 1 + x.r + 1 + 2 := by
  unfold tickC logsC pathsC
  have e : 2 * slotsC x * (x.h + 1) = 2 * (x.h + 1) * slotsC x := by rw [Int.mul_assoc, Int.mul_assoc, Int.mul_comm (slotsC x)]
  rw [e]
  omega
theorem recov_is (x : Cfg) (q s : Int) : recovC x q s = 4 + cellsC x (fullLenC x) + q % x.p * cellsC x (deltaLenC x) + slotsC x * cellsC x 12 + cellsC x (clogLenC x) + 2 * (x.h + 1) * s + (checkC x (q + 1)).2 + 1 + 1 + 1 := by
  unfold recovC logsC pathsC
  have e : 2 * s * (x.h + 1) = 2 * (x.h + 1) * s := by rw [Int.mul_assoc, Int.mul_assoc, Int.mul_comm s]
  rw [e]
  omega
theorem recov_next (x : Cfg) (q s : Int) : recovC x q (s + 1) = recovC x q s + 2 * (x.h + 1) := by
  rw [recov_is, recov_is, Int.mul_add, Int.mul_one]
  omega
/-- Behind a whole checkpoint come differences. -/
theorem since_full {p q j : Int} (hp : 1 ≤ p) (h0 : 0 ≤ j) (h1 : j + 1 ≤ q % p) : (q - q % p + 1 + j) % p = j + 1 := by
  have h2 := Int.emod_lt_of_pos q (show 0 < p by omega)
  have e : q - q % p + 1 + j = j + 1 + q / p * p := by
    have := Int.mul_ediv_add_emod q p
    rw [Int.mul_comm] at this
    omega
  rw [e, Int.add_mul_emod_self_right, Int.emod_eq_of_lt (by omega) (by omega)]
theorem log_in {x : Cfg} {i : Int} (h0 : 0 ≤ i) (h1 : i < slotsC x) : logC x i = (2 + i * cellsC x 12, cellsC x 12) := by
  have e : inR i 0 (slotsC x - 1) = true := by simp [inR]; omega
  rw [logC, if_pos e]
end Go.Proofs.Ytdmjiaicgbcodaa
