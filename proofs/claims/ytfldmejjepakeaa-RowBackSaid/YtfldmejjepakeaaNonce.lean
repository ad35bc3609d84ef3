/- Contracts of package nonce: the source. -/
import Derived.Test.YtfldmejjepakeaaBase
namespace Go.Proofs.Ytfldmejjepakeaa
open Go.ChangeShapes Go.WideShapes Go.ChangeAt Go.RowKit
open Go.ChangeMaps (open_string shut_string)
set_option linter.unusedVariables false
set_option linter.unusedSimpArgs false
set_option maxRecDepth 100000

def amongB (n : Int) : Bool := decide (0 ≤ n) && decide (n ≤ 1099511627776)

def src (gen count most : Int) : Array Value := #[.int .i64 gen, .int .i64 count, .int .i64 most]

def mayAt (gen count most : Int) : Bool := decide (1 ≤ gen) && amongB gen && amongB count && amongB most && decide (count ≤ most)

end Go.Proofs.Ytfldmejjepakeaa
