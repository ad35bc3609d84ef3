/- Contracts of nonces: Bytes, Parse, Less, and the document's. -/
import Derived.Test.YtfldmejjepakeaaRef2
import Derived.Test.YtfldmejjepakeaaSlab2
import Derived.Test.YtfldmejjepakeaaNonce
namespace Go.Proofs.Ytfldmejjepakeaa
open Go.ChangeShapes Go.WideShapes Go.ChangeAt Go.RowKit
open Go.ChangeMaps (open_string shut_string)
set_option linter.unusedVariables false
set_option linter.unusedSimpArgs false
set_option maxRecDepth 100000

/-- Several numbers, one behind the other; those that may not be are passed over. -/
def numsP (width : Int) : List UInt8 → List Int → List UInt8
  | l, [] => l
  | l, n :: ns => numsP width (numL l false width n) ns

/-- A nonce's twelve bytes. -/
def nonceB (gen count : Int) : List UInt8 := if amongB gen && amongB count then be 6 gen ++ be 6 count else List.replicate 12 0

theorem good6 (n : Int) (h : amongB n = true) : badNum 6 n = false := by
  simp [amongB] at h
  have e : topW (Int.toNat 6) = 281474976710655 := by simp [topW]
  simp only [badNum, e, mayW]
  simp
  omega

theorem numsL_nonce (gen count : Int) (h1 : amongB gen = true) (h2 : amongB count = true) : numsL [] false 6 [gen, count] = (be 6 gen ++ be 6 count, false) := by
  simp [numsL, numL, good6 _ h1, good6 _ h2]
theorem numsP_nonce (gen count : Int) (h1 : amongB gen = true) (h2 : amongB count = true) : numsP 6 [] [gen, count] = be 6 gen ++ be 6 count := by
  simp [numsP, numL, good6 _ h1, good6 _ h2]
theorem nonceB_length (gen count : Int) : (nonceB gen count).length = 12 := by
  unfold nonceB; split <;> simp [be_length]

end Go.Proofs.Ytfldmejjepakeaa
