/- A value that came in. -/
import Derived.Test.YtfldmejjepakeaaVal1
import Derived.Lib.SmallJoins
namespace Go.Proofs.Ytfldmejjepakeaa
open Go.ChangeShapes Go.WideShapes Go.ChangeAt Go.RowKit
open Go.ChangeMaps (open_string shut_string)
set_option linter.unusedVariables false
set_option linter.unusedSimpArgs false
set_option maxRecDepth 100000
open Go.Joins
section
variable {H : Type} {enc : TypeId × Value → H}
theorem cells_value : Try.prog.cellsOf 51 = 3 := by kernel_rfl
theorem str_of (s : ByteArray) : ∃ l, s = str l := ⟨s.data.toList, by apply ByteArray.ext; simp [str]⟩
theorem open_val {W : World} {base : Nat} {v1 : Value} {d1 : DataW H} {p1 : List MemPlace} (hval : Value.okWide Try.prog W .any base 51 v1) (h1 : DataW.Trod enc Try.prog W 0 (fun _ => true) true 51 v1 d1 p1) :
    ∃ (k n : Int) (l : List UInt8), v1 = .agg #[.int .i64 (k), .int .i64 (n), .string (str (l))] ∧ -9223372036854775808 ≤ n ∧ n ≤ 9223372036854775807 ∧ l.length ≤ maxLen := by
  obtain ⟨x0, x1, x2, y0, y1, y2, m, rfl, _, _, h0, h1, h2⟩ := open_agg3 Try.underlying51 (by kernel_rfl) cells_value hval h1
  obtain ⟨g, e, _, _⟩ := DataW.trod_int Try.underlying3 h0
  obtain ⟨n, e1, _, w1⟩ := DataW.trod_int Try.underlying2 h1
  obtain ⟨s, e2, _, hs⟩ := DataW.trod_string Try.underlying9 h2
  simp at e e1 e2
  subst e e1 e2
  obtain ⟨l, rfl⟩ := str_of s
  rw [str_size] at hs
  have hw : -9223372036854775808 ≤ n ∧ n ≤ 9223372036854775807 := by
    have := range_i64 (zs := [n]) (fun m hm => by simp at hm; subst hm; exact w1) 0
    simpa using this
  exact ⟨g, n, l, rfl, hw.1, hw.2, hs⟩
end
end Go.Proofs.Ytfldmejjepakeaa
