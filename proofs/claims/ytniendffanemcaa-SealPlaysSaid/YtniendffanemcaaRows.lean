/-
  No cell of these rows narrows 'for every input' (looked for: loops, veiled, ifaces, maps, wideKeys, modest, calm, conditions, laid).
  DERIVED. THE GIVEN ROWS OF THIS SEAT. 5 by the template 'for every input the law returns true; each argument reads behind the call as it read before'; 0 by the template 'total and deterministic' (their statements: YtniendffanemcaaTotals.lean).
  GIVEN WITH THE SEED: the statements are not yours to turn. If you find one false, say at which input.
  Laid BY PROGRAM, IN A SANDBOX (cutbox-rows.mjs): the forced cells as the released guide's own fill.sh prints them over the translation 7601d1d404bb4c8e… (all of the seat's roots in one cut). By AI agents, Wed Nov 11 2026. No macro, syntax, notation, axiom, sorry.
-/
import Derived.Test.YtniendffanemcaaChecked
import GoSem.Claim
import GoSem.ClaimJoined
import GoSem.ClaimMapViews
import Derived.JoinedTies
import Derived.KernelRfl
namespace Go.Proofs.Ytniendffanemcaa
/- THE CELL 'sum', in the pinned program and in every row, IS THE sha256 OF THE DUMP (.gsa) THAT YtniendffanemcaaProg.lean LOADS. Nothing in Lean hashes anything: it is a label: what it is worth is what the hold of that sum in a sandbox is worth. -/
noncomputable def Try.pinned : Pinned := { name := "ytniendffanemcaa", sum := "7601d1d404bb4c8e195c68eaf4c251f77bc997089f6ad370044de1d6b1e17046", checked := Try.checked }
namespace Rows
def none {H : Type} : Left H := { results := [], args := [] }

/-- 'oublaw6.SealXors': WHATEVER THE INPUT: true; the input reads as it did. -/
def sealXorsSpec : ChangeSpec := { name := "sealXors", fn := fun _ => fun
  | [d1, d2, d3] => { results := [.lit (.bool true)], args := [d1, d2, d3] }
  | _ => none }
def sealXorsRow : OpenClaim := { program := "ytniendffanemcaa", sum := "7601d1d404bb4c8e195c68eaf4c251f77bc997089f6ad370044de1d6b1e17046", func := "oubliette/oublaw6.SealXors", spec := "sealXors", plainKeys := false, apart := false }
def SealXorsSaid : Prop := sealXorsRow.holds Try.pinned (OpenSpec.ofChange sealXorsSpec)

/-- ITS FALSE NEIGHBOUR: 'it returns false'. Refute it at one input. -/
def sealXorsWrong : ChangeSpec := { name := "sealXors", fn := fun _ => fun
  | [d1, d2, d3] => { results := [.lit (.bool false)], args := [d1, d2, d3] }
  | _ => none }
def SealXorsWrongFalsely : Prop := sealXorsRow.holds Try.pinned (OpenSpec.ofChange sealXorsWrong)

/-- 'oublaw6.SealAlike': WHATEVER THE INPUT: true; the input reads as it did. -/
def sealAlikeSpec : ChangeSpec := { name := "sealAlike", fn := fun _ => fun
  | [d1, d2, d3, d4, d5] => { results := [.lit (.bool true)], args := [d1, d2, d3, d4, d5] }
  | _ => none }
def sealAlikeRow : OpenClaim := { program := "ytniendffanemcaa", sum := "7601d1d404bb4c8e195c68eaf4c251f77bc997089f6ad370044de1d6b1e17046", func := "oubliette/oublaw6.SealAlike", spec := "sealAlike", plainKeys := false, apart := false }
def SealAlikeSaid : Prop := sealAlikeRow.holds Try.pinned (OpenSpec.ofChange sealAlikeSpec)

/-- ITS FALSE NEIGHBOUR: 'it returns false'. Refute it at one input. -/
def sealAlikeWrong : ChangeSpec := { name := "sealAlike", fn := fun _ => fun
  | [d1, d2, d3, d4, d5] => { results := [.lit (.bool false)], args := [d1, d2, d3, d4, d5] }
  | _ => none }
def SealAlikeWrongFalsely : Prop := sealAlikeRow.holds Try.pinned (OpenSpec.ofChange sealAlikeWrong)

/-- 'oublaw6.SealOrder': WHATEVER THE INPUT: true; the input reads as it did. -/
def sealOrderSpec : ChangeSpec := { name := "sealOrder", fn := fun _ => fun
  | [d1, d2, d3] => { results := [.lit (.bool true)], args := [d1, d2, d3] }
  | _ => none }
def sealOrderRow : OpenClaim := { program := "ytniendffanemcaa", sum := "7601d1d404bb4c8e195c68eaf4c251f77bc997089f6ad370044de1d6b1e17046", func := "oubliette/oublaw6.SealOrder", spec := "sealOrder", plainKeys := false, apart := false }
def SealOrderSaid : Prop := sealOrderRow.holds Try.pinned (OpenSpec.ofChange sealOrderSpec)

/-- ITS FALSE NEIGHBOUR: 'it returns false'. Refute it at one input. -/
def sealOrderWrong : ChangeSpec := { name := "sealOrder", fn := fun _ => fun
  | [d1, d2, d3] => { results := [.lit (.bool false)], args := [d1, d2, d3] }
  | _ => none }
def SealOrderWrongFalsely : Prop := sealOrderRow.holds Try.pinned (OpenSpec.ofChange sealOrderWrong)

/-- 'oublaw6.SealBlank': WHATEVER THE INPUT: true; the input reads as it did. -/
def sealBlankSpec : ChangeSpec := { name := "sealBlank", fn := fun _ => fun
  | [d1, d2, d3] => { results := [.lit (.bool true)], args := [d1, d2, d3] }
  | _ => none }
def sealBlankRow : OpenClaim := { program := "ytniendffanemcaa", sum := "7601d1d404bb4c8e195c68eaf4c251f77bc997089f6ad370044de1d6b1e17046", func := "oubliette/oublaw6.SealBlank", spec := "sealBlank", plainKeys := false, apart := false }
def SealBlankSaid : Prop := sealBlankRow.holds Try.pinned (OpenSpec.ofChange sealBlankSpec)

/-- ITS FALSE NEIGHBOUR: 'it returns false'. Refute it at one input. -/
def sealBlankWrong : ChangeSpec := { name := "sealBlank", fn := fun _ => fun
  | [d1, d2, d3] => { results := [.lit (.bool false)], args := [d1, d2, d3] }
  | _ => none }
def SealBlankWrongFalsely : Prop := sealBlankRow.holds Try.pinned (OpenSpec.ofChange sealBlankWrong)

/-- 'oublaw6.SealPlays': WHATEVER THE INPUT: true; the input reads as it did. -/
def sealPlaysSpec : ChangeSpec := { name := "sealPlays", fn := fun _ => fun
  | [d1, d2, d3] => { results := [.lit (.bool true)], args := [d1, d2, d3] }
  | _ => none }
def sealPlaysRow : OpenClaim := { program := "ytniendffanemcaa", sum := "7601d1d404bb4c8e195c68eaf4c251f77bc997089f6ad370044de1d6b1e17046", func := "oubliette/oublaw6.SealPlays", spec := "sealPlays", plainKeys := false, apart := false }
def SealPlaysSaid : Prop := sealPlaysRow.holds Try.pinned (OpenSpec.ofChange sealPlaysSpec)

/-- ITS FALSE NEIGHBOUR: 'it returns false'. Refute it at one input. -/
def sealPlaysWrong : ChangeSpec := { name := "sealPlays", fn := fun _ => fun
  | [d1, d2, d3] => { results := [.lit (.bool false)], args := [d1, d2, d3] }
  | _ => none }
def SealPlaysWrongFalsely : Prop := sealPlaysRow.holds Try.pinned (OpenSpec.ofChange sealPlaysWrong)

/- THE SECOND FORM. 'bulk': how many values and letters a reading holds, each counted each time it is reached (what is shared counts as often as it is met; a slice's spare places count too). A statement '..UptoSaid' is the law's where the arguments, and the package variables that the reading takes, are together of bulk at most 1048576: NARROWER than '..Said'. Prove '..Said' where nothing that the law and all that it calls make is longer than what came in: it says more and counts as full. Else prove '..UptoSaid'. A law counts once. -/
mutual
def uptoBulk {H : Type} : DataW H → Nat
  | .lit (.string bytes) => bytes.length + 1
  | .lit _ => 1
  | .nil => 1
  | .ptr d => uptoBulk d + 1
  | .slice elems spare => uptoBulkAll elems + uptoBulkAll spare + 1
  | .agg parts => uptoBulkAll parts + 1
  | .iface _ d => uptoBulk d + 1
  | .map entries => uptoBulkEntries entries + 1
  | .held _ => 1
def uptoBulkAll {H : Type} : List (DataW H) → Nat
  | [] => 0
  | d :: r => uptoBulk d + uptoBulkAll r
def uptoBulkEntries {H : Type} : List (Lit × DataW H) → Nat
  | [] => 0
  | x :: r => uptoBulkEntry x + uptoBulkEntries r
def uptoBulkEntry {H : Type} : Lit × DataW H → Nat
  | (.string bytes, d) => bytes.length + uptoBulk d + 1
  | (_, d) => uptoBulk d + 1
 end
def uptoSmall : (H : Type) → List (DataW H) → Bool := fun _ ds => decide (uptoBulkAll ds ≤ 1048576)
def OpenSpec.upto (s : _root_.Go.ChangeSpec) : _root_.Go.OpenSpec := { _root_.Go.OpenSpec.ofChange s with cond := some uptoSmall }

/-- 'oublaw6.SealXors', WHERE WHAT IT READS IS OF BULK AT MOST 1048576: true; the input reads as it did. -/
def sealXorsUptoRow : OpenClaim := { program := "ytniendffanemcaa", sum := "7601d1d404bb4c8e195c68eaf4c251f77bc997089f6ad370044de1d6b1e17046", func := "oubliette/oublaw6.SealXors", spec := "sealXors", plainKeys := false, apart := false, narrowed := true }
def SealXorsUptoSaid : Prop := sealXorsUptoRow.holds Try.pinned (OpenSpec.upto sealXorsSpec)

/-- 'oublaw6.SealAlike', WHERE WHAT IT READS IS OF BULK AT MOST 1048576: true; the input reads as it did. -/
def sealAlikeUptoRow : OpenClaim := { program := "ytniendffanemcaa", sum := "7601d1d404bb4c8e195c68eaf4c251f77bc997089f6ad370044de1d6b1e17046", func := "oubliette/oublaw6.SealAlike", spec := "sealAlike", plainKeys := false, apart := false, narrowed := true }
def SealAlikeUptoSaid : Prop := sealAlikeUptoRow.holds Try.pinned (OpenSpec.upto sealAlikeSpec)

/-- 'oublaw6.SealOrder', WHERE WHAT IT READS IS OF BULK AT MOST 1048576: true; the input reads as it did. -/
def sealOrderUptoRow : OpenClaim := { program := "ytniendffanemcaa", sum := "7601d1d404bb4c8e195c68eaf4c251f77bc997089f6ad370044de1d6b1e17046", func := "oubliette/oublaw6.SealOrder", spec := "sealOrder", plainKeys := false, apart := false, narrowed := true }
def SealOrderUptoSaid : Prop := sealOrderUptoRow.holds Try.pinned (OpenSpec.upto sealOrderSpec)

/-- 'oublaw6.SealBlank', WHERE WHAT IT READS IS OF BULK AT MOST 1048576: true; the input reads as it did. -/
def sealBlankUptoRow : OpenClaim := { program := "ytniendffanemcaa", sum := "7601d1d404bb4c8e195c68eaf4c251f77bc997089f6ad370044de1d6b1e17046", func := "oubliette/oublaw6.SealBlank", spec := "sealBlank", plainKeys := false, apart := false, narrowed := true }
def SealBlankUptoSaid : Prop := sealBlankUptoRow.holds Try.pinned (OpenSpec.upto sealBlankSpec)

/-- 'oublaw6.SealPlays', WHERE WHAT IT READS IS OF BULK AT MOST 1048576: true; the input reads as it did. -/
def sealPlaysUptoRow : OpenClaim := { program := "ytniendffanemcaa", sum := "7601d1d404bb4c8e195c68eaf4c251f77bc997089f6ad370044de1d6b1e17046", func := "oubliette/oublaw6.SealPlays", spec := "sealPlays", plainKeys := false, apart := false, narrowed := true }
def SealPlaysUptoSaid : Prop := sealPlaysUptoRow.holds Try.pinned (OpenSpec.upto sealPlaysSpec)

end Rows
end Go.Proofs.Ytniendffanemcaa
