/-
  No cell of these rows narrows 'for every input' (looked for: loops, veiled, ifaces, maps, wideKeys, modest, calm, conditions, laid).
  DERIVED. THE GIVEN ROWS OF THIS SEAT. 7 by the template 'for every input the law returns true; each argument reads behind the call as it read before'; 0 by the template 'total and deterministic' (their statements: YtdmjiaicgbcodaaTotals.lean).
  GIVEN WITH THE SEED: the statements are not yours to turn. If you find one false, say at which input.
  Laid BY PROGRAM, IN A SANDBOX (cutbox-rows.mjs): the forced cells as the released guide's own fill.sh prints them over the translation 51184a5751acc83c… (all of the seat's roots in one cut). By AI agents, Wed Nov 11 2026. No macro, syntax, notation, axiom, sorry.
-/
import Derived.Test.YtdmjiaicgbcodaaChecked
import GoSem.Claim
import GoSem.ClaimJoined
import GoSem.ClaimMapViews
import Derived.JoinedTies
import Derived.KernelRfl
namespace Go.Proofs.Ytdmjiaicgbcodaa
/- THE CELL 'sum', in the pinned program and in every row, IS THE sha256 OF THE DUMP (.gsa) THAT YtdmjiaicgbcodaaProg.lean LOADS. Nothing in Lean hashes anything: it is a label: what it is worth is what the hold of that sum in a sandbox is worth. -/
noncomputable def Try.pinned : Pinned := { name := "ytdmjiaicgbcodaa", sum := "51184a5751acc83c7a554d92d51ae9d748212f140fb1f1285fad7153a203bab6", checked := Try.checked }
namespace Rows
def none {H : Type} : Left H := { results := [], args := [] }

/-- 'oublaw13.LayBatches': WHATEVER THE INPUT: true; the input reads as it did. -/
def layBatchesSpec : ChangeSpec := { name := "layBatches", fn := fun _ => fun
  | [d1, d2] => { results := [.lit (.bool true)], args := [d1, d2] }
  | _ => none }
def layBatchesRow : OpenClaim := { program := "ytdmjiaicgbcodaa", sum := "51184a5751acc83c7a554d92d51ae9d748212f140fb1f1285fad7153a203bab6", func := "oubliette/oublaw13.LayBatches", spec := "layBatches", apart := false }
def LayBatchesSaid : Prop := layBatchesRow.holds Try.pinned (OpenSpec.ofChange layBatchesSpec)

/-- ITS FALSE NEIGHBOUR: 'it returns false'. Refute it at one input. -/
def layBatchesWrong : ChangeSpec := { name := "layBatches", fn := fun _ => fun
  | [d1, d2] => { results := [.lit (.bool false)], args := [d1, d2] }
  | _ => none }
def LayBatchesWrongFalsely : Prop := layBatchesRow.holds Try.pinned (OpenSpec.ofChange layBatchesWrong)

/-- 'oublaw13.LayApart': WHATEVER THE INPUT: true; the input reads as it did. -/
def layApartSpec : ChangeSpec := { name := "layApart", fn := fun _ => fun
  | [d1, d2] => { results := [.lit (.bool true)], args := [d1, d2] }
  | _ => none }
def layApartRow : OpenClaim := { program := "ytdmjiaicgbcodaa", sum := "51184a5751acc83c7a554d92d51ae9d748212f140fb1f1285fad7153a203bab6", func := "oubliette/oublaw13.LayApart", spec := "layApart", apart := false }
def LayApartSaid : Prop := layApartRow.holds Try.pinned (OpenSpec.ofChange layApartSpec)

/-- ITS FALSE NEIGHBOUR: 'it returns false'. Refute it at one input. -/
def layApartWrong : ChangeSpec := { name := "layApart", fn := fun _ => fun
  | [d1, d2] => { results := [.lit (.bool false)], args := [d1, d2] }
  | _ => none }
def LayApartWrongFalsely : Prop := layApartRow.holds Try.pinned (OpenSpec.ofChange layApartWrong)

/-- 'oublaw19.ProgChecks': WHATEVER THE INPUT: true; the input reads as it did. -/
def progChecksSpec : ChangeSpec := { name := "progChecks", fn := fun _ => fun
  | [d1, d2] => { results := [.lit (.bool true)], args := [d1, d2] }
  | _ => none }
def progChecksRow : OpenClaim := { program := "ytdmjiaicgbcodaa", sum := "51184a5751acc83c7a554d92d51ae9d748212f140fb1f1285fad7153a203bab6", func := "oubliette/oublaw19.ProgChecks", spec := "progChecks", unfollowed := true, recurses := true, apart := false }
def ProgChecksSaid : Prop := progChecksRow.holds Try.pinned (OpenSpec.ofChange progChecksSpec)

/-- ITS FALSE NEIGHBOUR: 'it returns false'. Refute it at one input. -/
def progChecksWrong : ChangeSpec := { name := "progChecks", fn := fun _ => fun
  | [d1, d2] => { results := [.lit (.bool false)], args := [d1, d2] }
  | _ => none }
def ProgChecksWrongFalsely : Prop := progChecksRow.holds Try.pinned (OpenSpec.ofChange progChecksWrong)

/-- 'oublaw19.ProgCuts': WHATEVER THE INPUT: true; the input reads as it did. -/
def progCutsSpec : ChangeSpec := { name := "progCuts", fn := fun _ => fun
  | [d1, d2, d3] => { results := [.lit (.bool true)], args := [d1, d2, d3] }
  | _ => none }
def progCutsRow : OpenClaim := { program := "ytdmjiaicgbcodaa", sum := "51184a5751acc83c7a554d92d51ae9d748212f140fb1f1285fad7153a203bab6", func := "oubliette/oublaw19.ProgCuts", spec := "progCuts", unfollowed := true, recurses := true, apart := false }
def ProgCutsSaid : Prop := progCutsRow.holds Try.pinned (OpenSpec.ofChange progCutsSpec)

/-- ITS FALSE NEIGHBOUR: 'it returns false'. Refute it at one input. -/
def progCutsWrong : ChangeSpec := { name := "progCuts", fn := fun _ => fun
  | [d1, d2, d3] => { results := [.lit (.bool false)], args := [d1, d2, d3] }
  | _ => none }
def ProgCutsWrongFalsely : Prop := progCutsRow.holds Try.pinned (OpenSpec.ofChange progCutsWrong)

/-- 'oublaw19.ProgRoom': WHATEVER THE INPUT: true; the input reads as it did. -/
def progRoomSpec : ChangeSpec := { name := "progRoom", fn := fun _ => fun
  | [d1, d2] => { results := [.lit (.bool true)], args := [d1, d2] }
  | _ => none }
def progRoomRow : OpenClaim := { program := "ytdmjiaicgbcodaa", sum := "51184a5751acc83c7a554d92d51ae9d748212f140fb1f1285fad7153a203bab6", func := "oubliette/oublaw19.ProgRoom", spec := "progRoom", unfollowed := true, recurses := true, apart := false }
def ProgRoomSaid : Prop := progRoomRow.holds Try.pinned (OpenSpec.ofChange progRoomSpec)

/-- ITS FALSE NEIGHBOUR: 'it returns false'. Refute it at one input. -/
def progRoomWrong : ChangeSpec := { name := "progRoom", fn := fun _ => fun
  | [d1, d2] => { results := [.lit (.bool false)], args := [d1, d2] }
  | _ => none }
def ProgRoomWrongFalsely : Prop := progRoomRow.holds Try.pinned (OpenSpec.ofChange progRoomWrong)

/-- 'oublaw13.LaySums': WHATEVER THE INPUT: true; the input reads as it did. -/
def laySumsSpec : ChangeSpec := { name := "laySums", fn := fun _ => fun
  | [d1, d2, d3] => { results := [.lit (.bool true)], args := [d1, d2, d3] }
  | _ => none }
def laySumsRow : OpenClaim := { program := "ytdmjiaicgbcodaa", sum := "51184a5751acc83c7a554d92d51ae9d748212f140fb1f1285fad7153a203bab6", func := "oubliette/oublaw13.LaySums", spec := "laySums", apart := false }
def LaySumsSaid : Prop := laySumsRow.holds Try.pinned (OpenSpec.ofChange laySumsSpec)

/-- ITS FALSE NEIGHBOUR: 'it returns false'. Refute it at one input. -/
def laySumsWrong : ChangeSpec := { name := "laySums", fn := fun _ => fun
  | [d1, d2, d3] => { results := [.lit (.bool false)], args := [d1, d2, d3] }
  | _ => none }
def LaySumsWrongFalsely : Prop := laySumsRow.holds Try.pinned (OpenSpec.ofChange laySumsWrong)

/-- 'oublaw13.LayTells': WHATEVER THE INPUT: true; the input reads as it did. -/
def layTellsSpec : ChangeSpec := { name := "layTells", fn := fun _ => fun
  | [d1, d2, d3] => { results := [.lit (.bool true)], args := [d1, d2, d3] }
  | _ => none }
def layTellsRow : OpenClaim := { program := "ytdmjiaicgbcodaa", sum := "51184a5751acc83c7a554d92d51ae9d748212f140fb1f1285fad7153a203bab6", func := "oubliette/oublaw13.LayTells", spec := "layTells", apart := false }
def LayTellsSaid : Prop := layTellsRow.holds Try.pinned (OpenSpec.ofChange layTellsSpec)

/-- ITS FALSE NEIGHBOUR: 'it returns false'. Refute it at one input. -/
def layTellsWrong : ChangeSpec := { name := "layTells", fn := fun _ => fun
  | [d1, d2, d3] => { results := [.lit (.bool false)], args := [d1, d2, d3] }
  | _ => none }
def LayTellsWrongFalsely : Prop := layTellsRow.holds Try.pinned (OpenSpec.ofChange layTellsWrong)

/- THE SECOND FORM. 'bulk': how many values and letters a reading holds, each counted each time it is reached (what is shared counts as often as it is met; a slice's spare places count too). A statement '..UptoSaid' is the law's where the arguments, and the package variables that the reading takes, are together of bulk at most 1048576: NARROWER than '..Said'. Prove '..Said' where nothing that the law and all that it calls make is longer than what came in: it says more and counts as full. Else prove '..UptoSaid'. A law counts once. -/
mutual
def uptoBulk {H : Type} : DataW H → Nat
  | .lit (.string bytes) => bytes.length + 1
  | .lit _ => 1
  | .nil => 1
  | .ptr d => uptoBulk d + 1
  | .slice elems spare => uptoBulkAll elems + uptoBulkAll spare + 1
  | .agg parts => uptoBulkAll parts + 1
  | .iface _ d => uptoBulk d + 1
  | .map entries => uptoBulkEntries entries + 1
  | .held _ => 1
def uptoBulkAll {H : Type} : List (DataW H) → Nat
  | [] => 0
  | d :: r => uptoBulk d + uptoBulkAll r
def uptoBulkEntries {H : Type} : List (Lit × DataW H) → Nat
  | [] => 0
  | x :: r => uptoBulkEntry x + uptoBulkEntries r
def uptoBulkEntry {H : Type} : Lit × DataW H → Nat
  | (.string bytes, d) => bytes.length + uptoBulk d + 1
  | (_, d) => uptoBulk d + 1
 end
def uptoSmall : (H : Type) → List (DataW H) → Bool := fun _ ds => decide (uptoBulkAll ds ≤ 1048576)
def OpenSpec.upto (s : _root_.Go.ChangeSpec) : _root_.Go.OpenSpec := { _root_.Go.OpenSpec.ofChange s with cond := some uptoSmall }

/-- 'oublaw13.LayBatches', WHERE WHAT IT READS IS OF BULK AT MOST 1048576: true; the input reads as it did. -/
def layBatchesUptoRow : OpenClaim := { program := "ytdmjiaicgbcodaa", sum := "51184a5751acc83c7a554d92d51ae9d748212f140fb1f1285fad7153a203bab6", func := "oubliette/oublaw13.LayBatches", spec := "layBatches", apart := false, narrowed := true }
def LayBatchesUptoSaid : Prop := layBatchesUptoRow.holds Try.pinned (OpenSpec.upto layBatchesSpec)

/-- 'oublaw13.LayApart', WHERE WHAT IT READS IS OF BULK AT MOST 1048576: true; the input reads as it did. -/
def layApartUptoRow : OpenClaim := { program := "ytdmjiaicgbcodaa", sum := "51184a5751acc83c7a554d92d51ae9d748212f140fb1f1285fad7153a203bab6", func := "oubliette/oublaw13.LayApart", spec := "layApart", apart := false, narrowed := true }
def LayApartUptoSaid : Prop := layApartUptoRow.holds Try.pinned (OpenSpec.upto layApartSpec)

/-- 'oublaw19.ProgChecks', WHERE WHAT IT READS IS OF BULK AT MOST 1048576: true; the input reads as it did. -/
def progChecksUptoRow : OpenClaim := { program := "ytdmjiaicgbcodaa", sum := "51184a5751acc83c7a554d92d51ae9d748212f140fb1f1285fad7153a203bab6", func := "oubliette/oublaw19.ProgChecks", spec := "progChecks", unfollowed := true, recurses := true, apart := false, narrowed := true }
def ProgChecksUptoSaid : Prop := progChecksUptoRow.holds Try.pinned (OpenSpec.upto progChecksSpec)

/-- 'oublaw19.ProgCuts', WHERE WHAT IT READS IS OF BULK AT MOST 1048576: true; the input reads as it did. -/
def progCutsUptoRow : OpenClaim := { program := "ytdmjiaicgbcodaa", sum := "51184a5751acc83c7a554d92d51ae9d748212f140fb1f1285fad7153a203bab6", func := "oubliette/oublaw19.ProgCuts", spec := "progCuts", unfollowed := true, recurses := true, apart := false, narrowed := true }
def ProgCutsUptoSaid : Prop := progCutsUptoRow.holds Try.pinned (OpenSpec.upto progCutsSpec)

/-- 'oublaw19.ProgRoom', WHERE WHAT IT READS IS OF BULK AT MOST 1048576: true; the input reads as it did. -/
def progRoomUptoRow : OpenClaim := { program := "ytdmjiaicgbcodaa", sum := "51184a5751acc83c7a554d92d51ae9d748212f140fb1f1285fad7153a203bab6", func := "oubliette/oublaw19.ProgRoom", spec := "progRoom", unfollowed := true, recurses := true, apart := false, narrowed := true }
def ProgRoomUptoSaid : Prop := progRoomUptoRow.holds Try.pinned (OpenSpec.upto progRoomSpec)

/-- 'oublaw13.LaySums', WHERE WHAT IT READS IS OF BULK AT MOST 1048576: true; the input reads as it did. -/
def laySumsUptoRow : OpenClaim := { program := "ytdmjiaicgbcodaa", sum := "51184a5751acc83c7a554d92d51ae9d748212f140fb1f1285fad7153a203bab6", func := "oubliette/oublaw13.LaySums", spec := "laySums", apart := false, narrowed := true }
def LaySumsUptoSaid : Prop := laySumsUptoRow.holds Try.pinned (OpenSpec.upto laySumsSpec)

/-- 'oublaw13.LayTells', WHERE WHAT IT READS IS OF BULK AT MOST 1048576: true; the input reads as it did. -/
def layTellsUptoRow : OpenClaim := { program := "ytdmjiaicgbcodaa", sum := "51184a5751acc83c7a554d92d51ae9d748212f140fb1f1285fad7153a203bab6", func := "oubliette/oublaw13.LayTells", spec := "layTells", apart := false, narrowed := true }
def LayTellsUptoSaid : Prop := layTellsUptoRow.holds Try.pinned (OpenSpec.upto layTellsSpec)

end Rows
end Go.Proofs.Ytdmjiaicgbcodaa
