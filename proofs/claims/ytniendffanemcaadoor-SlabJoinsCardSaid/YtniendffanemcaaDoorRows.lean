/-
  NARROWER THAN 'FOR EVERY INPUT', by the rows' own cells (each row's printed sentence says how): SlabReads: laid · SlabEnds: laid · SlabCuts: laid · SlabWrites: laid · SlabBack: laid · SlabJoins: laid.
  DERIVED. THE GIVEN ROWS OF THIS SEAT. 6 by the template 'for every input the law returns true; each argument reads behind the call as it read before'; 0 by the template 'total and deterministic' (their statements: YtniendffanemcaaDoorTotals.lean).
  GIVEN WITH THE SEED: the statements are not yours to turn. If you find one false, say at which input.
  Laid BY PROGRAM, IN A SANDBOX (cutbox-rows.mjs): the forced cells as the released guide's own fill.sh prints them over the translation 525565fffb171398… (all of the seat's roots in one cut). By AI agents, Wed Nov 11 2026. No macro, syntax, notation, axiom, sorry.
-/
import Derived.Test.YtniendffanemcaaDoorChecked
import GoSem.PinnedTables
import GoSem.Claim
import GoSem.ClaimJoined
import GoSem.ClaimMapViews
import Derived.JoinedTies
import Derived.KernelRfl
namespace Go.Proofs.YtniendffanemcaaDoor
/- THE CELL 'sum', in the pinned program and in every row, IS THE sha256 OF THE DUMP (.gsa) THAT YtniendffanemcaaDoorProg.lean LOADS. Nothing in Lean hashes anything: it is a label: what it is worth is what the hold of that sum in a sandbox is worth. -/
noncomputable def Tryd.pinned : Pinned := { name := "ytniendffanemcaadoor", sum := "525565fffb171398fbdfb3c6e6591fc1e49aedff08a79579fb13aafaedb95f12", checked := Tryd.checked }
namespace Rows
def none {H : Type} : Left H := { results := [], args := [] }

/- WHAT THE LISTED PACKAGE-LEVEL VARIABLES READ AS WHEN THE CALL BEGINS. Each datum BY PROGRAM (the guide's laid-datum.mjs) off the statement by which the dump's own 'gosem.cut.vars' lays the variable. In a bare row this is a premise. The card (YtniendffanemcaaDoorCards.lean) ties it to the program's text. -/
def laid_unicode_utf8_acceptRanges {H : Type} : DataW H := .agg [.agg [.lit (.int .u8 128), .lit (.int .u8 191)], .agg [.lit (.int .u8 160), .lit (.int .u8 191)], .agg [.lit (.int .u8 128), .lit (.int .u8 159)], .agg [.lit (.int .u8 144), .lit (.int .u8 191)], .agg [.lit (.int .u8 128), .lit (.int .u8 143)], .agg [.lit (.int .u8 0), .lit (.int .u8 0)], .agg [.lit (.int .u8 0), .lit (.int .u8 0)], .agg [.lit (.int .u8 0), .lit (.int .u8 0)], .agg [.lit (.int .u8 0), .lit (.int .u8 0)], .agg [.lit (.int .u8 0), .lit (.int .u8 0)], .agg [.lit (.int .u8 0), .lit (.int .u8 0)], .agg [.lit (.int .u8 0), .lit (.int .u8 0)], .agg [.lit (.int .u8 0), .lit (.int .u8 0)], .agg [.lit (.int .u8 0), .lit (.int .u8 0)], .agg [.lit (.int .u8 0), .lit (.int .u8 0)], .agg [.lit (.int .u8 0), .lit (.int .u8 0)]]
/-- One of Go's own tables, pinned by name: the form's constant. -/
def laid_unicode_utf8_first : DataW Unit := Go.Pinned.utf8First

/-- 'oublaw4.SlabReads': WHATEVER THE INPUT: true; the input reads as it did. -/
def slabReadsSpec : ChangeSpec := { name := "slabReads", fn := fun _ => fun
  | [d1, d2] => { results := [.lit (.bool true)], args := [d1, d2] }
  | _ => none }
def slabReadsRow : OpenClaim := { program := "ytniendffanemcaadoor", sum := "525565fffb171398fbdfb3c6e6591fc1e49aedff08a79579fb13aafaedb95f12", func := "oubliette/oublaw4.SlabReads", spec := "slabReads", named := ["unicode/utf8.first", "unicode/utf8.acceptRanges"], apart := false, laid := [("unicode/utf8.acceptRanges", laid_unicode_utf8_acceptRanges), ("unicode/utf8.first", laid_unicode_utf8_first)] }
def SlabReadsSaid : Prop := slabReadsRow.holds Tryd.pinned (OpenSpec.ofChange slabReadsSpec)

/-- ITS FALSE NEIGHBOUR: 'it returns false'. Refute it at one input. -/
def slabReadsWrong : ChangeSpec := { name := "slabReads", fn := fun _ => fun
  | [d1, d2] => { results := [.lit (.bool false)], args := [d1, d2] }
  | _ => none }
def SlabReadsWrongFalsely : Prop := slabReadsRow.holds Tryd.pinned (OpenSpec.ofChange slabReadsWrong)

/-- 'oublaw4.SlabEnds': WHATEVER THE INPUT: true; the input reads as it did. -/
def slabEndsSpec : ChangeSpec := { name := "slabEnds", fn := fun _ => fun
  | [d1, d2] => { results := [.lit (.bool true)], args := [d1, d2] }
  | _ => none }
def slabEndsRow : OpenClaim := { program := "ytniendffanemcaadoor", sum := "525565fffb171398fbdfb3c6e6591fc1e49aedff08a79579fb13aafaedb95f12", func := "oubliette/oublaw4.SlabEnds", spec := "slabEnds", named := ["unicode/utf8.first", "unicode/utf8.acceptRanges"], apart := false, laid := [("unicode/utf8.acceptRanges", laid_unicode_utf8_acceptRanges), ("unicode/utf8.first", laid_unicode_utf8_first)] }
def SlabEndsSaid : Prop := slabEndsRow.holds Tryd.pinned (OpenSpec.ofChange slabEndsSpec)

/-- ITS FALSE NEIGHBOUR: 'it returns false'. Refute it at one input. -/
def slabEndsWrong : ChangeSpec := { name := "slabEnds", fn := fun _ => fun
  | [d1, d2] => { results := [.lit (.bool false)], args := [d1, d2] }
  | _ => none }
def SlabEndsWrongFalsely : Prop := slabEndsRow.holds Tryd.pinned (OpenSpec.ofChange slabEndsWrong)

/-- 'oublaw4.SlabCuts': WHATEVER THE INPUT: true; the input reads as it did. -/
def slabCutsSpec : ChangeSpec := { name := "slabCuts", fn := fun _ => fun
  | [d1, d2, d3] => { results := [.lit (.bool true)], args := [d1, d2, d3] }
  | _ => none }
def slabCutsRow : OpenClaim := { program := "ytniendffanemcaadoor", sum := "525565fffb171398fbdfb3c6e6591fc1e49aedff08a79579fb13aafaedb95f12", func := "oubliette/oublaw4.SlabCuts", spec := "slabCuts", named := ["unicode/utf8.first", "unicode/utf8.acceptRanges"], apart := false, laid := [("unicode/utf8.acceptRanges", laid_unicode_utf8_acceptRanges), ("unicode/utf8.first", laid_unicode_utf8_first)] }
def SlabCutsSaid : Prop := slabCutsRow.holds Tryd.pinned (OpenSpec.ofChange slabCutsSpec)

/-- ITS FALSE NEIGHBOUR: 'it returns false'. Refute it at one input. -/
def slabCutsWrong : ChangeSpec := { name := "slabCuts", fn := fun _ => fun
  | [d1, d2, d3] => { results := [.lit (.bool false)], args := [d1, d2, d3] }
  | _ => none }
def SlabCutsWrongFalsely : Prop := slabCutsRow.holds Tryd.pinned (OpenSpec.ofChange slabCutsWrong)

/-- 'oublaw4.SlabWrites': WHATEVER THE INPUT: true; the input reads as it did. -/
def slabWritesSpec : ChangeSpec := { name := "slabWrites", fn := fun _ => fun
  | [d1, d2] => { results := [.lit (.bool true)], args := [d1, d2] }
  | _ => none }
def slabWritesRow : OpenClaim := { program := "ytniendffanemcaadoor", sum := "525565fffb171398fbdfb3c6e6591fc1e49aedff08a79579fb13aafaedb95f12", func := "oubliette/oublaw4.SlabWrites", spec := "slabWrites", inPlace := ["internal/bytealg.MakeNoZero"], named := ["unicode/utf8.first", "unicode/utf8.acceptRanges"], apart := false, laid := [("unicode/utf8.acceptRanges", laid_unicode_utf8_acceptRanges), ("unicode/utf8.first", laid_unicode_utf8_first)] }
def SlabWritesSaid : Prop := slabWritesRow.holds Tryd.pinned (OpenSpec.ofChange slabWritesSpec)

/-- ITS FALSE NEIGHBOUR: 'it returns false'. Refute it at one input. -/
def slabWritesWrong : ChangeSpec := { name := "slabWrites", fn := fun _ => fun
  | [d1, d2] => { results := [.lit (.bool false)], args := [d1, d2] }
  | _ => none }
def SlabWritesWrongFalsely : Prop := slabWritesRow.holds Tryd.pinned (OpenSpec.ofChange slabWritesWrong)

/-- 'oublaw4.SlabBack': WHATEVER THE INPUT: true; the input reads as it did. -/
def slabBackSpec : ChangeSpec := { name := "slabBack", fn := fun _ => fun
  | [d1, d2] => { results := [.lit (.bool true)], args := [d1, d2] }
  | _ => none }
def slabBackRow : OpenClaim := { program := "ytniendffanemcaadoor", sum := "525565fffb171398fbdfb3c6e6591fc1e49aedff08a79579fb13aafaedb95f12", func := "oubliette/oublaw4.SlabBack", spec := "slabBack", inPlace := ["internal/bytealg.MakeNoZero"], named := ["unicode/utf8.first", "unicode/utf8.acceptRanges"], apart := false, laid := [("unicode/utf8.acceptRanges", laid_unicode_utf8_acceptRanges), ("unicode/utf8.first", laid_unicode_utf8_first)] }
def SlabBackSaid : Prop := slabBackRow.holds Tryd.pinned (OpenSpec.ofChange slabBackSpec)

/-- ITS FALSE NEIGHBOUR: 'it returns false'. Refute it at one input. -/
def slabBackWrong : ChangeSpec := { name := "slabBack", fn := fun _ => fun
  | [d1, d2] => { results := [.lit (.bool false)], args := [d1, d2] }
  | _ => none }
def SlabBackWrongFalsely : Prop := slabBackRow.holds Tryd.pinned (OpenSpec.ofChange slabBackWrong)

/-- 'oublaw4.SlabJoins': WHATEVER THE INPUT: true; the input reads as it did. -/
def slabJoinsSpec : ChangeSpec := { name := "slabJoins", fn := fun _ => fun
  | [d1, d2, d3, d4] => { results := [.lit (.bool true)], args := [d1, d2, d3, d4] }
  | _ => none }
def slabJoinsRow : OpenClaim := { program := "ytniendffanemcaadoor", sum := "525565fffb171398fbdfb3c6e6591fc1e49aedff08a79579fb13aafaedb95f12", func := "oubliette/oublaw4.SlabJoins", spec := "slabJoins", inPlace := ["internal/bytealg.MakeNoZero"], named := ["unicode/utf8.first", "unicode/utf8.acceptRanges"], apart := false, laid := [("unicode/utf8.acceptRanges", laid_unicode_utf8_acceptRanges), ("unicode/utf8.first", laid_unicode_utf8_first)] }
def SlabJoinsSaid : Prop := slabJoinsRow.holds Tryd.pinned (OpenSpec.ofChange slabJoinsSpec)

/-- ITS FALSE NEIGHBOUR: 'it returns false'. Refute it at one input. -/
def slabJoinsWrong : ChangeSpec := { name := "slabJoins", fn := fun _ => fun
  | [d1, d2, d3, d4] => { results := [.lit (.bool false)], args := [d1, d2, d3, d4] }
  | _ => none }
def SlabJoinsWrongFalsely : Prop := slabJoinsRow.holds Tryd.pinned (OpenSpec.ofChange slabJoinsWrong)

/- THE SECOND FORM. 'bulk': how many values and letters a reading holds, each counted each time it is reached (what is shared counts as often as it is met; a slice's spare places count too). A statement '..UptoSaid' is the law's where the arguments, and the package variables that the reading takes, are together of bulk at most 1048576: NARROWER than '..Said'. Prove '..Said' where nothing that the law and all that it calls make is longer than what came in: it says more and counts as full. Else prove '..UptoSaid'. A law counts once. -/
mutual
def uptoBulk {H : Type} : DataW H → Nat
  | .lit (.string bytes) => bytes.length + 1
  | .lit _ => 1
  | .nil => 1
  | .ptr d => uptoBulk d + 1
  | .slice elems spare => uptoBulkAll elems + uptoBulkAll spare + 1
  | .agg parts => uptoBulkAll parts + 1
  | .iface _ d => uptoBulk d + 1
  | .map entries => uptoBulkEntries entries + 1
  | .held _ => 1
def uptoBulkAll {H : Type} : List (DataW H) → Nat
  | [] => 0
  | d :: r => uptoBulk d + uptoBulkAll r
def uptoBulkEntries {H : Type} : List (Lit × DataW H) → Nat
  | [] => 0
  | x :: r => uptoBulkEntry x + uptoBulkEntries r
def uptoBulkEntry {H : Type} : Lit × DataW H → Nat
  | (.string bytes, d) => bytes.length + uptoBulk d + 1
  | (_, d) => uptoBulk d + 1
 end
def uptoSmall : (H : Type) → List (DataW H) → Bool := fun _ ds => decide (uptoBulkAll ds ≤ 1048576)
def OpenSpec.upto (s : _root_.Go.ChangeSpec) : _root_.Go.OpenSpec := { _root_.Go.OpenSpec.ofChange s with cond := some uptoSmall }

/-- 'oublaw4.SlabReads', WHERE WHAT IT READS IS OF BULK AT MOST 1048576: true; the input reads as it did. -/
def slabReadsUptoRow : OpenClaim := { program := "ytniendffanemcaadoor", sum := "525565fffb171398fbdfb3c6e6591fc1e49aedff08a79579fb13aafaedb95f12", func := "oubliette/oublaw4.SlabReads", spec := "slabReads", named := ["unicode/utf8.first", "unicode/utf8.acceptRanges"], apart := false, laid := [("unicode/utf8.acceptRanges", laid_unicode_utf8_acceptRanges), ("unicode/utf8.first", laid_unicode_utf8_first)], narrowed := true }
def SlabReadsUptoSaid : Prop := slabReadsUptoRow.holds Tryd.pinned (OpenSpec.upto slabReadsSpec)

/-- 'oublaw4.SlabEnds', WHERE WHAT IT READS IS OF BULK AT MOST 1048576: true; the input reads as it did. -/
def slabEndsUptoRow : OpenClaim := { program := "ytniendffanemcaadoor", sum := "525565fffb171398fbdfb3c6e6591fc1e49aedff08a79579fb13aafaedb95f12", func := "oubliette/oublaw4.SlabEnds", spec := "slabEnds", named := ["unicode/utf8.first", "unicode/utf8.acceptRanges"], apart := false, laid := [("unicode/utf8.acceptRanges", laid_unicode_utf8_acceptRanges), ("unicode/utf8.first", laid_unicode_utf8_first)], narrowed := true }
def SlabEndsUptoSaid : Prop := slabEndsUptoRow.holds Tryd.pinned (OpenSpec.upto slabEndsSpec)

/-- 'oublaw4.SlabCuts', WHERE WHAT IT READS IS OF BULK AT MOST 1048576: true; the input reads as it did. -/
def slabCutsUptoRow : OpenClaim := { program := "ytniendffanemcaadoor", sum := "525565fffb171398fbdfb3c6e6591fc1e49aedff08a79579fb13aafaedb95f12", func := "oubliette/oublaw4.SlabCuts", spec := "slabCuts", named := ["unicode/utf8.first", "unicode/utf8.acceptRanges"], apart := false, laid := [("unicode/utf8.acceptRanges", laid_unicode_utf8_acceptRanges), ("unicode/utf8.first", laid_unicode_utf8_first)], narrowed := true }
def SlabCutsUptoSaid : Prop := slabCutsUptoRow.holds Tryd.pinned (OpenSpec.upto slabCutsSpec)

/-- 'oublaw4.SlabWrites', WHERE WHAT IT READS IS OF BULK AT MOST 1048576: true; the input reads as it did. -/
def slabWritesUptoRow : OpenClaim := { program := "ytniendffanemcaadoor", sum := "525565fffb171398fbdfb3c6e6591fc1e49aedff08a79579fb13aafaedb95f12", func := "oubliette/oublaw4.SlabWrites", spec := "slabWrites", inPlace := ["internal/bytealg.MakeNoZero"], named := ["unicode/utf8.first", "unicode/utf8.acceptRanges"], apart := false, laid := [("unicode/utf8.acceptRanges", laid_unicode_utf8_acceptRanges), ("unicode/utf8.first", laid_unicode_utf8_first)], narrowed := true }
def SlabWritesUptoSaid : Prop := slabWritesUptoRow.holds Tryd.pinned (OpenSpec.upto slabWritesSpec)

/-- 'oublaw4.SlabBack', WHERE WHAT IT READS IS OF BULK AT MOST 1048576: true; the input reads as it did. -/
def slabBackUptoRow : OpenClaim := { program := "ytniendffanemcaadoor", sum := "525565fffb171398fbdfb3c6e6591fc1e49aedff08a79579fb13aafaedb95f12", func := "oubliette/oublaw4.SlabBack", spec := "slabBack", inPlace := ["internal/bytealg.MakeNoZero"], named := ["unicode/utf8.first", "unicode/utf8.acceptRanges"], apart := false, laid := [("unicode/utf8.acceptRanges", laid_unicode_utf8_acceptRanges), ("unicode/utf8.first", laid_unicode_utf8_first)], narrowed := true }
def SlabBackUptoSaid : Prop := slabBackUptoRow.holds Tryd.pinned (OpenSpec.upto slabBackSpec)

/-- 'oublaw4.SlabJoins', WHERE WHAT IT READS IS OF BULK AT MOST 1048576: true; the input reads as it did. -/
def slabJoinsUptoRow : OpenClaim := { program := "ytniendffanemcaadoor", sum := "525565fffb171398fbdfb3c6e6591fc1e49aedff08a79579fb13aafaedb95f12", func := "oubliette/oublaw4.SlabJoins", spec := "slabJoins", inPlace := ["internal/bytealg.MakeNoZero"], named := ["unicode/utf8.first", "unicode/utf8.acceptRanges"], apart := false, laid := [("unicode/utf8.acceptRanges", laid_unicode_utf8_acceptRanges), ("unicode/utf8.first", laid_unicode_utf8_first)], narrowed := true }
def SlabJoinsUptoSaid : Prop := slabJoinsUptoRow.holds Tryd.pinned (OpenSpec.upto slabJoinsSpec)

end Rows
end Go.Proofs.YtniendffanemcaaDoor
