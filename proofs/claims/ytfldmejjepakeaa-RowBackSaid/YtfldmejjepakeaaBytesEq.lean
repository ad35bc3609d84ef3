/- bytes.Equal. -/
import Derived.Test.YtfldmejjepakeaaBytes
namespace Go.Proofs.Ytfldmejjepakeaa
open Go.ChangeShapes Go.WideShapes Go.ChangeAt Go.RowKit
open Go.ChangeMaps (open_string shut_string)
set_option linter.unusedVariables false
set_option linter.unusedSimpArgs false
set_option maxRecDepth 100000

theorem bytes_equal (A A' : Option Addr) (n c n' c' : Nat) (l l' : List UInt8) (w : World) (h : RB w A n c l) (h' : RB w A' n' c' l') :
    Calls Try.prog 47 #[.slice A n c, .slice A' n' c'] w fun e w' => e = .returned (.bool (l == l')) ∧ w = w' := by
  have e1 := h.conv
  have e2 := h'.conv
  go_enter Try.func47, Try.ntmps47
  go_wp2
  go_ret
  exact ⟨ret_bool (by rw [str_list, str_list]), rfl⟩
end Go.Proofs.Ytfldmejjepakeaa
