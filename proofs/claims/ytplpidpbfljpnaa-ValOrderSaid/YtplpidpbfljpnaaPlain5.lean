/- oublaw5.plain, and the words of the laws of chapter 5. -/
import Derived.Test.YtplpidpbfljpnaaNoncePure
import Derived.Test.YtplpidpbfljpnaaFirst5
import Derived.Test.YtplpidpbfljpnaaArgs
import Derived.Deep.RegionHeld3
import Derived.Deep.DeepCutAuto
namespace Go.Proofs.Ytplpidpbfljpnaa
open Go.ChangeShapes Go.WideShapes Go.ChangeAt Go.RowKit
open Go.ChangeMaps (open_string shut_string)
set_option linter.unusedVariables false
set_option linter.unusedSimpArgs false

theorem Below.next' {N : Nat} {a w w' : World} (hb : Below w.heap.size w w') (h : Below N a w) (hN : N ≤ a.heap.size) : Below N a w' := h.trans (hb.mono (Nat.le_trans hN h.size))

theorem plain_calls (g c : Int) (w : World) : Calls Try.prog 33 #[.agg #[.int .i64 g, .int .i64 c]] w fun e w' => e = .returned (.agg #[.int .i64 g, .int .i64 c]) ∧ Below w.heap.size w w' := by
  go_enter Try.func33, Try.ntmps33
  go_wp2
  refine bodyPost_ret (v := .agg #[.int .i64 g, .int .i64 c]) (by simp [results, Try.results33, go_sem]) rfl ⟨rfl, (by repeat (first | exact Below.refl _ _ | assumption | apply below_drewN' | apply Below.drew | refine Below.alloc ?_ (by first | omega | (simp; done) | (simp; omega)) _ | refine Below.setCell ?_ (by first | omega | (simp; done) | (simp; omega)) _))⟩

theorem parseV_two (l : List UInt8) : ∃ x0 x1 : Int, parseV l = .agg #[.int .i64 x0, .int .i64 x1] := by
  rcases h : parseOk l with _ | _
  · exact ⟨0, 0, parseV_no h⟩
  · exact ⟨_, _, parseV_yes h⟩
end Go.Proofs.Ytplpidpbfljpnaa
