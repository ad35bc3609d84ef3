/- Contracts of nonce.Parse and nonce.Less. -/
import Derived.Test.YtfldmejjepakeaaNonce3
import Derived.StillTailTactics
namespace Go.Proofs.Ytfldmejjepakeaa
open Go.ChangeShapes Go.WideShapes Go.ChangeAt Go.RowKit
open Go.ChangeMaps (open_string shut_string)
set_option linter.unusedVariables false
set_option linter.unusedSimpArgs false
set_option maxRecDepth 100000

def parseE (l : List UInt8) : Int := if parseOk l then 0 else 2
theorem parseE_yes {l : List UInt8} (h : parseOk l = true) : parseE l = 0 := by simp [parseE, h]
theorem parseE_no {l : List UInt8} (h : parseOk l = false) : parseE l = 2 := by simp [parseE, h]

theorem rnumR_six (l : List UInt8) (h : 6 ≤ l.length) : rnumR l 0 6 = (rnumV (l.take 6), l.drop 6, 0) := by
  have e : rnumE l 0 6 = 0 := by
    unfold rnumE
    rw [if_pos (by decide)]
    unfold rawE
    rw [if_neg (by omega), if_neg (by omega)]
  unfold rnumR
  rw [if_pos e]
  rfl

def cmpI (x y : Int) : Int := if x < y then -1 else if y < x then 1 else 0

def orI (x y : Int) : Int := if x = 0 then y else x

/-- Does one stand ahead of the other? -/
def lessB (g c g' c' : Int) : Bool := decide (orI (cmpI g g') (cmpI c c') < 0)

end Go.Proofs.Ytfldmejjepakeaa
