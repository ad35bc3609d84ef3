/- oublaw5.plain, and the words of the laws of chapter 5. -/
import Derived.Test.YtfldmejjepakeaaNoncePure
import Derived.Test.YtfldmejjepakeaaFirst5
import Derived.Test.YtfldmejjepakeaaArgs
import Derived.Deep.RegionHeld3
import Derived.Deep.DeepCutAuto
namespace Go.Proofs.Ytfldmejjepakeaa
open Go.ChangeShapes Go.WideShapes Go.ChangeAt Go.RowKit
open Go.ChangeMaps (open_string shut_string)
set_option linter.unusedVariables false
set_option linter.unusedSimpArgs false
set_option maxRecDepth 100000

theorem Below.next' {N : Nat} {a w w' : World} (hb : Below w.heap.size w w') (h : Below N a w) (hN : N ≤ a.heap.size) : Below N a w' := h.trans (hb.mono (Nat.le_trans hN h.size))

theorem parseV_two (l : List UInt8) : ∃ x0 x1 : Int, parseV l = .agg #[.int .i64 x0, .int .i64 x1] := by
  rcases h : parseOk l with _ | _
  · exact ⟨0, 0, parseV_no h⟩
  · exact ⟨_, _, parseV_yes h⟩
end Go.Proofs.Ytfldmejjepakeaa
