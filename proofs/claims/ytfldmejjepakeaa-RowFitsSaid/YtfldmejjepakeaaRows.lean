/-
  No cell of these rows narrows 'for every input' (looked for: loops, veiled, ifaces, maps, wideKeys, modest, calm, conditions, laid).
  DERIVED. THE GIVEN ROWS OF THIS SEAT. 10 by the template 'for every input the law returns true; each argument reads behind the call as it read before'; 0 by the template 'total and deterministic' (their statements: YtfldmejjepakeaaTotals.lean).
  GIVEN WITH THE SEED: the statements are not yours to turn. If you find one false, say at which input.
  Laid BY PROGRAM, IN A SANDBOX (cutbox-rows.mjs): the forced cells as the released guide's own fill.sh prints them over the translation ee1ebd7f9c2abfcf… (all of the seat's roots in one cut). By AI agents, Wed Nov 11 2026. No macro, syntax, notation, axiom, sorry.
-/
import Derived.Test.YtfldmejjepakeaaChecked
import GoSem.Claim
import GoSem.ClaimJoined
import GoSem.ClaimMapViews
import Derived.JoinedTies
import Derived.KernelRfl
namespace Go.Proofs.Ytfldmejjepakeaa
/- THE CELL 'sum', in the pinned program and in every row, IS THE sha256 OF THE DUMP (.gsa) THAT YtfldmejjepakeaaProg.lean LOADS. Nothing in Lean hashes anything: it is a label: what it is worth is what the hold of that sum in a sandbox is worth. -/
noncomputable def Try.pinned : Pinned := { name := "ytfldmejjepakeaa", sum := "ee1ebd7f9c2abfcfdb6d078c9431fdb6263705fb07fa0bda5b74a9d1a3e4a92e", checked := Try.checked }
namespace Rows
def none {H : Type} : Left H := { results := [], args := [] }

/-- 'oublaw16.RowReads': WHATEVER THE INPUT: true; the input reads as it did. -/
def rowReadsSpec : ChangeSpec := { name := "rowReads", fn := fun _ => fun
  | [d] => { results := [.lit (.bool true)], args := [d] }
  | _ => none }
def rowReadsRow : OpenClaim := { program := "ytfldmejjepakeaa", sum := "ee1ebd7f9c2abfcfdb6d078c9431fdb6263705fb07fa0bda5b74a9d1a3e4a92e", func := "oubliette/oublaw16.RowReads", spec := "rowReads", unfollowed := true, recurses := true, apart := false }
def RowReadsSaid : Prop := rowReadsRow.holds Try.pinned (OpenSpec.ofChange rowReadsSpec)

/-- ITS FALSE NEIGHBOUR: 'it returns false'. Refute it at one input. -/
def rowReadsWrong : ChangeSpec := { name := "rowReads", fn := fun _ => fun
  | [d] => { results := [.lit (.bool false)], args := [d] }
  | _ => none }
def RowReadsWrongFalsely : Prop := rowReadsRow.holds Try.pinned (OpenSpec.ofChange rowReadsWrong)

/-- 'oublaw16.RowBack': WHATEVER THE INPUT: true; the input reads as it did. -/
def rowBackSpec : ChangeSpec := { name := "rowBack", fn := fun _ => fun
  | [d1, d2, d3] => { results := [.lit (.bool true)], args := [d1, d2, d3] }
  | _ => none }
def rowBackRow : OpenClaim := { program := "ytfldmejjepakeaa", sum := "ee1ebd7f9c2abfcfdb6d078c9431fdb6263705fb07fa0bda5b74a9d1a3e4a92e", func := "oubliette/oublaw16.RowBack", spec := "rowBack", unfollowed := true, recurses := true, apart := false }
def RowBackSaid : Prop := rowBackRow.holds Try.pinned (OpenSpec.ofChange rowBackSpec)

/-- ITS FALSE NEIGHBOUR: 'it returns false'. Refute it at one input. -/
def rowBackWrong : ChangeSpec := { name := "rowBack", fn := fun _ => fun
  | [d1, d2, d3] => { results := [.lit (.bool false)], args := [d1, d2, d3] }
  | _ => none }
def RowBackWrongFalsely : Prop := rowBackRow.holds Try.pinned (OpenSpec.ofChange rowBackWrong)

/-- 'oublaw9.BucketWrites': WHATEVER THE INPUT: true; the input reads as it did. -/
def bucketWritesSpec : ChangeSpec := { name := "bucketWrites", fn := fun _ => fun
  | [d1, d2, d3] => { results := [.lit (.bool true)], args := [d1, d2, d3] }
  | _ => none }
def bucketWritesRow : OpenClaim := { program := "ytfldmejjepakeaa", sum := "ee1ebd7f9c2abfcfdb6d078c9431fdb6263705fb07fa0bda5b74a9d1a3e4a92e", func := "oubliette/oublaw9.BucketWrites", spec := "bucketWrites", inPlace := ["internal/bytealg.MakeNoZero"], unfollowed := true, recurses := true, apart := false }
def BucketWritesSaid : Prop := bucketWritesRow.holds Try.pinned (OpenSpec.ofChange bucketWritesSpec)

/-- ITS FALSE NEIGHBOUR: 'it returns false'. Refute it at one input. -/
def bucketWritesWrong : ChangeSpec := { name := "bucketWrites", fn := fun _ => fun
  | [d1, d2, d3] => { results := [.lit (.bool false)], args := [d1, d2, d3] }
  | _ => none }
def BucketWritesWrongFalsely : Prop := bucketWritesRow.holds Try.pinned (OpenSpec.ofChange bucketWritesWrong)

/-- 'oublaw9.BucketApart': WHATEVER THE INPUT: true; the input reads as it did. -/
def bucketApartSpec : ChangeSpec := { name := "bucketApart", fn := fun _ => fun
  | [d1, d2, d3] => { results := [.lit (.bool true)], args := [d1, d2, d3] }
  | _ => none }
def bucketApartRow : OpenClaim := { program := "ytfldmejjepakeaa", sum := "ee1ebd7f9c2abfcfdb6d078c9431fdb6263705fb07fa0bda5b74a9d1a3e4a92e", func := "oubliette/oublaw9.BucketApart", spec := "bucketApart", inPlace := ["internal/bytealg.MakeNoZero"], unfollowed := true, recurses := true, apart := false }
def BucketApartSaid : Prop := bucketApartRow.holds Try.pinned (OpenSpec.ofChange bucketApartSpec)

/-- ITS FALSE NEIGHBOUR: 'it returns false'. Refute it at one input. -/
def bucketApartWrong : ChangeSpec := { name := "bucketApart", fn := fun _ => fun
  | [d1, d2, d3] => { results := [.lit (.bool false)], args := [d1, d2, d3] }
  | _ => none }
def BucketApartWrongFalsely : Prop := bucketApartRow.holds Try.pinned (OpenSpec.ofChange bucketApartWrong)

/-- 'oublaw16.RowKeys': WHATEVER THE INPUT: true; the input reads as it did. -/
def rowKeysSpec : ChangeSpec := { name := "rowKeys", fn := fun _ => fun
  | [d1, d2] => { results := [.lit (.bool true)], args := [d1, d2] }
  | _ => none }
def rowKeysRow : OpenClaim := { program := "ytfldmejjepakeaa", sum := "ee1ebd7f9c2abfcfdb6d078c9431fdb6263705fb07fa0bda5b74a9d1a3e4a92e", func := "oubliette/oublaw16.RowKeys", spec := "rowKeys", unfollowed := true, recurses := true, apart := false }
def RowKeysSaid : Prop := rowKeysRow.holds Try.pinned (OpenSpec.ofChange rowKeysSpec)

/-- ITS FALSE NEIGHBOUR: 'it returns false'. Refute it at one input. -/
def rowKeysWrong : ChangeSpec := { name := "rowKeys", fn := fun _ => fun
  | [d1, d2] => { results := [.lit (.bool false)], args := [d1, d2] }
  | _ => none }
def RowKeysWrongFalsely : Prop := rowKeysRow.holds Try.pinned (OpenSpec.ofChange rowKeysWrong)

/-- 'oublaw16.RowFits': WHATEVER THE INPUT: true; the input reads as it did. -/
def rowFitsSpec : ChangeSpec := { name := "rowFits", fn := fun _ => fun
  | [d1, d2, d3] => { results := [.lit (.bool true)], args := [d1, d2, d3] }
  | _ => none }
def rowFitsRow : OpenClaim := { program := "ytfldmejjepakeaa", sum := "ee1ebd7f9c2abfcfdb6d078c9431fdb6263705fb07fa0bda5b74a9d1a3e4a92e", func := "oubliette/oublaw16.RowFits", spec := "rowFits", unfollowed := true, recurses := true, apart := false }
def RowFitsSaid : Prop := rowFitsRow.holds Try.pinned (OpenSpec.ofChange rowFitsSpec)

/-- ITS FALSE NEIGHBOUR: 'it returns false'. Refute it at one input. -/
def rowFitsWrong : ChangeSpec := { name := "rowFits", fn := fun _ => fun
  | [d1, d2, d3] => { results := [.lit (.bool false)], args := [d1, d2, d3] }
  | _ => none }
def RowFitsWrongFalsely : Prop := rowFitsRow.holds Try.pinned (OpenSpec.ofChange rowFitsWrong)

/-- 'oublaw16.RowTells': WHATEVER THE INPUT: true; the input reads as it did. -/
def rowTellsSpec : ChangeSpec := { name := "rowTells", fn := fun _ => fun
  | [d1, d2, d3, d4] => { results := [.lit (.bool true)], args := [d1, d2, d3, d4] }
  | _ => none }
def rowTellsRow : OpenClaim := { program := "ytfldmejjepakeaa", sum := "ee1ebd7f9c2abfcfdb6d078c9431fdb6263705fb07fa0bda5b74a9d1a3e4a92e", func := "oubliette/oublaw16.RowTells", spec := "rowTells", unfollowed := true, recurses := true, apart := false }
def RowTellsSaid : Prop := rowTellsRow.holds Try.pinned (OpenSpec.ofChange rowTellsSpec)

/-- ITS FALSE NEIGHBOUR: 'it returns false'. Refute it at one input. -/
def rowTellsWrong : ChangeSpec := { name := "rowTells", fn := fun _ => fun
  | [d1, d2, d3, d4] => { results := [.lit (.bool false)], args := [d1, d2, d3, d4] }
  | _ => none }
def RowTellsWrongFalsely : Prop := rowTellsRow.holds Try.pinned (OpenSpec.ofChange rowTellsWrong)

/-- 'oublaw9.BucketReads': WHATEVER THE INPUT: true; the input reads as it did. -/
def bucketReadsSpec : ChangeSpec := { name := "bucketReads", fn := fun _ => fun
  | [d1, d2] => { results := [.lit (.bool true)], args := [d1, d2] }
  | _ => none }
def bucketReadsRow : OpenClaim := { program := "ytfldmejjepakeaa", sum := "ee1ebd7f9c2abfcfdb6d078c9431fdb6263705fb07fa0bda5b74a9d1a3e4a92e", func := "oubliette/oublaw9.BucketReads", spec := "bucketReads", inPlace := ["internal/bytealg.MakeNoZero"], apart := false }
def BucketReadsSaid : Prop := bucketReadsRow.holds Try.pinned (OpenSpec.ofChange bucketReadsSpec)

/-- ITS FALSE NEIGHBOUR: 'it returns false'. Refute it at one input. -/
def bucketReadsWrong : ChangeSpec := { name := "bucketReads", fn := fun _ => fun
  | [d1, d2] => { results := [.lit (.bool false)], args := [d1, d2] }
  | _ => none }
def BucketReadsWrongFalsely : Prop := bucketReadsRow.holds Try.pinned (OpenSpec.ofChange bucketReadsWrong)

/-- 'oublaw9.BucketBack': WHATEVER THE INPUT: true; the input reads as it did. -/
def bucketBackSpec : ChangeSpec := { name := "bucketBack", fn := fun _ => fun
  | [d1, d2, d3] => { results := [.lit (.bool true)], args := [d1, d2, d3] }
  | _ => none }
def bucketBackRow : OpenClaim := { program := "ytfldmejjepakeaa", sum := "ee1ebd7f9c2abfcfdb6d078c9431fdb6263705fb07fa0bda5b74a9d1a3e4a92e", func := "oubliette/oublaw9.BucketBack", spec := "bucketBack", inPlace := ["internal/bytealg.MakeNoZero"], unfollowed := true, recurses := true, apart := false }
def BucketBackSaid : Prop := bucketBackRow.holds Try.pinned (OpenSpec.ofChange bucketBackSpec)

/-- ITS FALSE NEIGHBOUR: 'it returns false'. Refute it at one input. -/
def bucketBackWrong : ChangeSpec := { name := "bucketBack", fn := fun _ => fun
  | [d1, d2, d3] => { results := [.lit (.bool false)], args := [d1, d2, d3] }
  | _ => none }
def BucketBackWrongFalsely : Prop := bucketBackRow.holds Try.pinned (OpenSpec.ofChange bucketBackWrong)

/-- 'oublaw9.BucketFull': WHATEVER THE INPUT: true; the input reads as it did. -/
def bucketFullSpec : ChangeSpec := { name := "bucketFull", fn := fun _ => fun
  | [d1, d2] => { results := [.lit (.bool true)], args := [d1, d2] }
  | _ => none }
def bucketFullRow : OpenClaim := { program := "ytfldmejjepakeaa", sum := "ee1ebd7f9c2abfcfdb6d078c9431fdb6263705fb07fa0bda5b74a9d1a3e4a92e", func := "oubliette/oublaw9.BucketFull", spec := "bucketFull", inPlace := ["internal/bytealg.MakeNoZero"], unfollowed := true, recurses := true, apart := false }
def BucketFullSaid : Prop := bucketFullRow.holds Try.pinned (OpenSpec.ofChange bucketFullSpec)

/-- ITS FALSE NEIGHBOUR: 'it returns false'. Refute it at one input. -/
def bucketFullWrong : ChangeSpec := { name := "bucketFull", fn := fun _ => fun
  | [d1, d2] => { results := [.lit (.bool false)], args := [d1, d2] }
  | _ => none }
def BucketFullWrongFalsely : Prop := bucketFullRow.holds Try.pinned (OpenSpec.ofChange bucketFullWrong)

/- THE SECOND FORM. 'bulk': how many values and letters a reading holds, each counted each time it is reached (what is shared counts as often as it is met; a slice's spare places count too). A statement '..UptoSaid' is the law's where the arguments, and the package variables that the reading takes, are together of bulk at most 1048576: NARROWER than '..Said'. Prove '..Said' where nothing that the law and all that it calls make is longer than what came in: it says more and counts as full. Else prove '..UptoSaid'. A law counts once. -/
mutual
def uptoBulk {H : Type} : DataW H → Nat
  | .lit (.string bytes) => bytes.length + 1
  | .lit _ => 1
  | .nil => 1
  | .ptr d => uptoBulk d + 1
  | .slice elems spare => uptoBulkAll elems + uptoBulkAll spare + 1
  | .agg parts => uptoBulkAll parts + 1
  | .iface _ d => uptoBulk d + 1
  | .map entries => uptoBulkEntries entries + 1
  | .held _ => 1
def uptoBulkAll {H : Type} : List (DataW H) → Nat
  | [] => 0
  | d :: r => uptoBulk d + uptoBulkAll r
def uptoBulkEntries {H : Type} : List (Lit × DataW H) → Nat
  | [] => 0
  | x :: r => uptoBulkEntry x + uptoBulkEntries r
def uptoBulkEntry {H : Type} : Lit × DataW H → Nat
  | (.string bytes, d) => bytes.length + uptoBulk d + 1
  | (_, d) => uptoBulk d + 1
 end
def uptoSmall : (H : Type) → List (DataW H) → Bool := fun _ ds => decide (uptoBulkAll ds ≤ 1048576)
def OpenSpec.upto (s : _root_.Go.ChangeSpec) : _root_.Go.OpenSpec := { _root_.Go.OpenSpec.ofChange s with cond := some uptoSmall }

/-- 'oublaw16.RowReads', WHERE WHAT IT READS IS OF BULK AT MOST 1048576: true; the input reads as it did. -/
def rowReadsUptoRow : OpenClaim := { program := "ytfldmejjepakeaa", sum := "ee1ebd7f9c2abfcfdb6d078c9431fdb6263705fb07fa0bda5b74a9d1a3e4a92e", func := "oubliette/oublaw16.RowReads", spec := "rowReads", unfollowed := true, recurses := true, apart := false, narrowed := true }
def RowReadsUptoSaid : Prop := rowReadsUptoRow.holds Try.pinned (OpenSpec.upto rowReadsSpec)

/-- 'oublaw16.RowBack', WHERE WHAT IT READS IS OF BULK AT MOST 1048576: true; the input reads as it did. -/
def rowBackUptoRow : OpenClaim := { program := "ytfldmejjepakeaa", sum := "ee1ebd7f9c2abfcfdb6d078c9431fdb6263705fb07fa0bda5b74a9d1a3e4a92e", func := "oubliette/oublaw16.RowBack", spec := "rowBack", unfollowed := true, recurses := true, apart := false, narrowed := true }
def RowBackUptoSaid : Prop := rowBackUptoRow.holds Try.pinned (OpenSpec.upto rowBackSpec)

/-- 'oublaw9.BucketWrites', WHERE WHAT IT READS IS OF BULK AT MOST 1048576: true; the input reads as it did. -/
def bucketWritesUptoRow : OpenClaim := { program := "ytfldmejjepakeaa", sum := "ee1ebd7f9c2abfcfdb6d078c9431fdb6263705fb07fa0bda5b74a9d1a3e4a92e", func := "oubliette/oublaw9.BucketWrites", spec := "bucketWrites", inPlace := ["internal/bytealg.MakeNoZero"], unfollowed := true, recurses := true, apart := false, narrowed := true }
def BucketWritesUptoSaid : Prop := bucketWritesUptoRow.holds Try.pinned (OpenSpec.upto bucketWritesSpec)

/-- 'oublaw9.BucketApart', WHERE WHAT IT READS IS OF BULK AT MOST 1048576: true; the input reads as it did. -/
def bucketApartUptoRow : OpenClaim := { program := "ytfldmejjepakeaa", sum := "ee1ebd7f9c2abfcfdb6d078c9431fdb6263705fb07fa0bda5b74a9d1a3e4a92e", func := "oubliette/oublaw9.BucketApart", spec := "bucketApart", inPlace := ["internal/bytealg.MakeNoZero"], unfollowed := true, recurses := true, apart := false, narrowed := true }
def BucketApartUptoSaid : Prop := bucketApartUptoRow.holds Try.pinned (OpenSpec.upto bucketApartSpec)

/-- 'oublaw16.RowKeys', WHERE WHAT IT READS IS OF BULK AT MOST 1048576: true; the input reads as it did. -/
def rowKeysUptoRow : OpenClaim := { program := "ytfldmejjepakeaa", sum := "ee1ebd7f9c2abfcfdb6d078c9431fdb6263705fb07fa0bda5b74a9d1a3e4a92e", func := "oubliette/oublaw16.RowKeys", spec := "rowKeys", unfollowed := true, recurses := true, apart := false, narrowed := true }
def RowKeysUptoSaid : Prop := rowKeysUptoRow.holds Try.pinned (OpenSpec.upto rowKeysSpec)

/-- 'oublaw16.RowFits', WHERE WHAT IT READS IS OF BULK AT MOST 1048576: true; the input reads as it did. -/
def rowFitsUptoRow : OpenClaim := { program := "ytfldmejjepakeaa", sum := "ee1ebd7f9c2abfcfdb6d078c9431fdb6263705fb07fa0bda5b74a9d1a3e4a92e", func := "oubliette/oublaw16.RowFits", spec := "rowFits", unfollowed := true, recurses := true, apart := false, narrowed := true }
def RowFitsUptoSaid : Prop := rowFitsUptoRow.holds Try.pinned (OpenSpec.upto rowFitsSpec)

/-- 'oublaw16.RowTells', WHERE WHAT IT READS IS OF BULK AT MOST 1048576: true; the input reads as it did. -/
def rowTellsUptoRow : OpenClaim := { program := "ytfldmejjepakeaa", sum := "ee1ebd7f9c2abfcfdb6d078c9431fdb6263705fb07fa0bda5b74a9d1a3e4a92e", func := "oubliette/oublaw16.RowTells", spec := "rowTells", unfollowed := true, recurses := true, apart := false, narrowed := true }
def RowTellsUptoSaid : Prop := rowTellsUptoRow.holds Try.pinned (OpenSpec.upto rowTellsSpec)

/-- 'oublaw9.BucketReads', WHERE WHAT IT READS IS OF BULK AT MOST 1048576: true; the input reads as it did. -/
def bucketReadsUptoRow : OpenClaim := { program := "ytfldmejjepakeaa", sum := "ee1ebd7f9c2abfcfdb6d078c9431fdb6263705fb07fa0bda5b74a9d1a3e4a92e", func := "oubliette/oublaw9.BucketReads", spec := "bucketReads", inPlace := ["internal/bytealg.MakeNoZero"], apart := false, narrowed := true }
def BucketReadsUptoSaid : Prop := bucketReadsUptoRow.holds Try.pinned (OpenSpec.upto bucketReadsSpec)

/-- 'oublaw9.BucketBack', WHERE WHAT IT READS IS OF BULK AT MOST 1048576: true; the input reads as it did. -/
def bucketBackUptoRow : OpenClaim := { program := "ytfldmejjepakeaa", sum := "ee1ebd7f9c2abfcfdb6d078c9431fdb6263705fb07fa0bda5b74a9d1a3e4a92e", func := "oubliette/oublaw9.BucketBack", spec := "bucketBack", inPlace := ["internal/bytealg.MakeNoZero"], unfollowed := true, recurses := true, apart := false, narrowed := true }
def BucketBackUptoSaid : Prop := bucketBackUptoRow.holds Try.pinned (OpenSpec.upto bucketBackSpec)

/-- 'oublaw9.BucketFull', WHERE WHAT IT READS IS OF BULK AT MOST 1048576: true; the input reads as it did. -/
def bucketFullUptoRow : OpenClaim := { program := "ytfldmejjepakeaa", sum := "ee1ebd7f9c2abfcfdb6d078c9431fdb6263705fb07fa0bda5b74a9d1a3e4a92e", func := "oubliette/oublaw9.BucketFull", spec := "bucketFull", inPlace := ["internal/bytealg.MakeNoZero"], unfollowed := true, recurses := true, apart := false, narrowed := true }
def BucketFullUptoSaid : Prop := bucketFullUptoRow.holds Try.pinned (OpenSpec.upto bucketFullSpec)

end Rows
end Go.Proofs.Ytfldmejjepakeaa
