/- Contracts of values: the document's ParseKey. -/
import Derived.Test.YtfldmejjepakeaaVal10
namespace Go.Proofs.Ytfldmejjepakeaa
open Go.ChangeShapes Go.WideShapes Go.ChangeAt Go.RowKit
open Go.ChangeMaps (open_string shut_string)
set_option linter.unusedVariables false
set_option linter.unusedSimpArgs false
set_option maxRecDepth 100000

theorem pkOk_big (a z : UInt8) (mid : List UInt8) (h : mid.length = 8) (hz9 : 9 < z.toNat) : pkOk a mid z = false := by
  have hz0 : z ≠ 0 := fun e => by rw [e] at hz9; exact absurd hz9 (by decide)
  have hs : mid.take (min z.toNat 9 - 1) = mid := by rw [show min z.toNat 9 = 9 by omega]; exact List.take_of_length_le (by omega)
  unfold pkOk
  simp only [pkK, pkN, pkS, if_neg hz0, hs]
  have : (keyB a.toNat 2 0 mid == a :: (mid ++ [z])) = false := by
    rw [beq_eq_false_iff_ne]
    intro e
    have e2 := congrArg List.getLast? e
    unfold keyB keyL at e2
    rw [← List.cons_append, ← List.cons_append, List.getLast?_concat, List.getLast?_concat, if_neg (by decide), h] at e2
    injection e2 with e2
    rw [← e2] at hz9
    exact absurd hz9 (by decide)
  rw [this, Bool.and_false]

/-- What a key reads as. -/
def pkL (l : List UInt8) : Ending :=
  if l.length = 10 then pkRet (pkOk (l.getD 0 0) ((l.drop 1).take 8) (l.getD 9 0)) (l.getD 0 0) (pkK (l.getD 9 0)) (pkN ((l.drop 1).take 8) (l.getD 9 0)) (pkS ((l.drop 1).take 8) (l.getD 9 0)) else pkRet false 0 0 0 []
theorem key_shape (l : List UInt8) (h : l.length = 10) : ∃ a mid z, l = a :: (mid ++ [z]) ∧ mid.length = 8 := by
  match l, h with
  | [a, b0, b1, b2, b3, b4, b5, b6, b7, z], _ => exact ⟨a, [b0, b1, b2, b3, b4, b5, b6, b7], z, rfl, rfl⟩
theorem pkL_shape (a z : UInt8) (mid : List UInt8) (h : mid.length = 8) : pkL (a :: (mid ++ [z])) = pkRet (pkOk a mid z) a (pkK z) (pkN mid z) (pkS mid z) := by
  have e1 : (a :: (mid ++ [z])).length = 10 := by simp [h]
  have e2 : ((a :: (mid ++ [z])).drop 1).take 8 = mid := by
    rw [List.drop_succ_cons, List.drop_zero, List.take_append_of_le_length (by omega), List.take_of_length_le (by omega)]
  have e3 : (a :: (mid ++ [z])).getD 9 0 = z := by simp [h]
  have e4 : (a :: (mid ++ [z])).getD 0 0 = a := rfl
  unfold pkL
  rw [if_pos e1, e2, e3, e4]
theorem pkRet_no (a b : UInt8) (k n k' n' : Int) (s s' : List UInt8) : pkRet false a k n s = pkRet false b k' n' s' := rfl

end Go.Proofs.Ytfldmejjepakeaa
