/- Contracts of nonces: Parse, Less, and the document's May, Bytes, ParseNonce. -/
import Derived.Test.YtfldmejjepakeaaNonce2
namespace Go.Proofs.Ytfldmejjepakeaa
open Go.ChangeShapes Go.WideShapes Go.ChangeAt Go.RowKit
open Go.ChangeMaps (open_string shut_string)
set_option linter.unusedVariables false
set_option linter.unusedSimpArgs false
set_option maxRecDepth 100000

/-- The document's reading of twelve bytes. -/
def parseOk (l : List UInt8) : Bool := l.length == 12 && (amongB (rnumV (l.take 6)) && amongB (rnumV (l.drop 6)))

/-- The nonce that is read. -/
def parseV (l : List UInt8) : Value := if parseOk l then .agg #[.int .i64 (rnumV (l.take 6)), .int .i64 (rnumV (l.drop 6))] else .agg #[.int .i64 0, .int .i64 0]
theorem parseV_yes {l : List UInt8} (h : parseOk l = true) : parseV l = .agg #[.int .i64 (rnumV (l.take 6)), .int .i64 (rnumV (l.drop 6))] := by simp [parseV, h]
theorem parseV_no {l : List UInt8} (h : parseOk l = false) : parseV l = .agg #[.int .i64 0, .int .i64 0] := by simp [parseV, h]

end Go.Proofs.Ytfldmejjepakeaa
