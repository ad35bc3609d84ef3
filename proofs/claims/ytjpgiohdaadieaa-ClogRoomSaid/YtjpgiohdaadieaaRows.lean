/-
  No cell of these rows narrows 'for every input' (looked for: loops, veiled, ifaces, maps, wideKeys, modest, calm, conditions, laid).
  DERIVED. THE GIVEN ROWS OF THIS SEAT. 4 by the template 'for every input the law returns true; each argument reads behind the call as it read before'; 0 by the template 'total and deterministic' (their statements: YtjpgiohdaadieaaTotals.lean).
  GIVEN WITH THE SEED: the statements are not yours to turn. If you find one false, say at which input.
  Laid BY PROGRAM, IN A SANDBOX (cutbox-rows.mjs): the forced cells as the released guide's own fill.sh prints them over the translation f77867e40e0ce69b… (all of the seat's roots in one cut). By AI agents, Wed Nov 11 2026. No macro, syntax, notation, axiom, sorry.
-/
import Derived.Test.YtjpgiohdaadieaaChecked
import GoSem.Claim
import GoSem.ClaimJoined
import GoSem.ClaimMapViews
import Derived.JoinedTies
import Derived.KernelRfl
namespace Go.Proofs.Ytjpgiohdaadieaa
/- THE CELL 'sum', in the pinned program and in every row, IS THE sha256 OF THE DUMP (.gsa) THAT YtjpgiohdaadieaaProg.lean LOADS. Nothing in Lean hashes anything: it is a label: what it is worth is what the hold of that sum in a sandbox is worth. -/
noncomputable def Try.pinned : Pinned := { name := "ytjpgiohdaadieaa", sum := "f77867e40e0ce69b35364d71de0ce25fe2a0f87fe6a8e838c116e7379aff5153", checked := Try.checked }
namespace Rows
def none {H : Type} : Left H := { results := [], args := [] }

/-- 'oublaw24.ClogRoom': WHATEVER THE INPUT: true; the input reads as it did. -/
def clogRoomSpec : ChangeSpec := { name := "clogRoom", fn := fun _ => fun
  | [d1, d2, d3] => { results := [.lit (.bool true)], args := [d1, d2, d3] }
  | _ => none }
def clogRoomRow : OpenClaim := { program := "ytjpgiohdaadieaa", sum := "f77867e40e0ce69b35364d71de0ce25fe2a0f87fe6a8e838c116e7379aff5153", func := "oubliette/oublaw24.ClogRoom", spec := "clogRoom", inPlace := ["internal/bytealg.MakeNoZero"], apart := false }
def ClogRoomSaid : Prop := clogRoomRow.holds Try.pinned (OpenSpec.ofChange clogRoomSpec)

/-- ITS FALSE NEIGHBOUR: 'it returns false'. Refute it at one input. -/
def clogRoomWrong : ChangeSpec := { name := "clogRoom", fn := fun _ => fun
  | [d1, d2, d3] => { results := [.lit (.bool false)], args := [d1, d2, d3] }
  | _ => none }
def ClogRoomWrongFalsely : Prop := clogRoomRow.holds Try.pinned (OpenSpec.ofChange clogRoomWrong)

/-- 'oublaw24.ClogTells': WHATEVER THE INPUT: true; the input reads as it did. -/
def clogTellsSpec : ChangeSpec := { name := "clogTells", fn := fun _ => fun
  | [d1, d2, d3, d4] => { results := [.lit (.bool true)], args := [d1, d2, d3, d4] }
  | _ => none }
def clogTellsRow : OpenClaim := { program := "ytjpgiohdaadieaa", sum := "f77867e40e0ce69b35364d71de0ce25fe2a0f87fe6a8e838c116e7379aff5153", func := "oubliette/oublaw24.ClogTells", spec := "clogTells", inPlace := ["internal/bytealg.MakeNoZero"], unfollowed := true, recurses := true, apart := false }
def ClogTellsSaid : Prop := clogTellsRow.holds Try.pinned (OpenSpec.ofChange clogTellsSpec)

/-- ITS FALSE NEIGHBOUR: 'it returns false'. Refute it at one input. -/
def clogTellsWrong : ChangeSpec := { name := "clogTells", fn := fun _ => fun
  | [d1, d2, d3, d4] => { results := [.lit (.bool false)], args := [d1, d2, d3, d4] }
  | _ => none }
def ClogTellsWrongFalsely : Prop := clogTellsRow.holds Try.pinned (OpenSpec.ofChange clogTellsWrong)

/-- 'oublaw24.ClogBack': WHATEVER THE INPUT: true; the input reads as it did. -/
def clogBackSpec : ChangeSpec := { name := "clogBack", fn := fun _ => fun
  | [d1, d2, d3] => { results := [.lit (.bool true)], args := [d1, d2, d3] }
  | _ => none }
def clogBackRow : OpenClaim := { program := "ytjpgiohdaadieaa", sum := "f77867e40e0ce69b35364d71de0ce25fe2a0f87fe6a8e838c116e7379aff5153", func := "oubliette/oublaw24.ClogBack", spec := "clogBack", inPlace := ["internal/bytealg.MakeNoZero"], unfollowed := true, recurses := true, apart := false }
def ClogBackSaid : Prop := clogBackRow.holds Try.pinned (OpenSpec.ofChange clogBackSpec)

/-- ITS FALSE NEIGHBOUR: 'it returns false'. Refute it at one input. -/
def clogBackWrong : ChangeSpec := { name := "clogBack", fn := fun _ => fun
  | [d1, d2, d3] => { results := [.lit (.bool false)], args := [d1, d2, d3] }
  | _ => none }
def ClogBackWrongFalsely : Prop := clogBackRow.holds Try.pinned (OpenSpec.ofChange clogBackWrong)

/-- 'oublaw24.ClogApart': WHATEVER THE INPUT: true; the input reads as it did. -/
def clogApartSpec : ChangeSpec := { name := "clogApart", fn := fun _ => fun
  | [d1, d2, d3] => { results := [.lit (.bool true)], args := [d1, d2, d3] }
  | _ => none }
def clogApartRow : OpenClaim := { program := "ytjpgiohdaadieaa", sum := "f77867e40e0ce69b35364d71de0ce25fe2a0f87fe6a8e838c116e7379aff5153", func := "oubliette/oublaw24.ClogApart", spec := "clogApart", inPlace := ["internal/bytealg.MakeNoZero"], unfollowed := true, recurses := true, apart := false }
def ClogApartSaid : Prop := clogApartRow.holds Try.pinned (OpenSpec.ofChange clogApartSpec)

/-- ITS FALSE NEIGHBOUR: 'it returns false'. Refute it at one input. -/
def clogApartWrong : ChangeSpec := { name := "clogApart", fn := fun _ => fun
  | [d1, d2, d3] => { results := [.lit (.bool false)], args := [d1, d2, d3] }
  | _ => none }
def ClogApartWrongFalsely : Prop := clogApartRow.holds Try.pinned (OpenSpec.ofChange clogApartWrong)

/- THE SECOND FORM. 'bulk': how many values and letters a reading holds, each counted each time it is reached (what is shared counts as often as it is met; a slice's spare places count too). A statement '..UptoSaid' is the law's where the arguments, and the package variables that the reading takes, are together of bulk at most 1048576: NARROWER than '..Said'. Prove '..Said' where nothing that the law and all that it calls make is longer than what came in: it says more and counts as full. Else prove '..UptoSaid'. A law counts once. -/
mutual
def uptoBulk {H : Type} : DataW H → Nat
  | .lit (.string bytes) => bytes.length + 1
  | .lit _ => 1
  | .nil => 1
  | .ptr d => uptoBulk d + 1
  | .slice elems spare => uptoBulkAll elems + uptoBulkAll spare + 1
  | .agg parts => uptoBulkAll parts + 1
  | .iface _ d => uptoBulk d + 1
  | .map entries => uptoBulkEntries entries + 1
  | .held _ => 1
def uptoBulkAll {H : Type} : List (DataW H) → Nat
  | [] => 0
  | d :: r => uptoBulk d + uptoBulkAll r
def uptoBulkEntries {H : Type} : List (Lit × DataW H) → Nat
  | [] => 0
  | x :: r => uptoBulkEntry x + uptoBulkEntries r
def uptoBulkEntry {H : Type} : Lit × DataW H → Nat
  | (.string bytes, d) => bytes.length + uptoBulk d + 1
  | (_, d) => uptoBulk d + 1
 end
def uptoSmall : (H : Type) → List (DataW H) → Bool := fun _ ds => decide (uptoBulkAll ds ≤ 1048576)
def OpenSpec.upto (s : _root_.Go.ChangeSpec) : _root_.Go.OpenSpec := { _root_.Go.OpenSpec.ofChange s with cond := some uptoSmall }

/-- 'oublaw24.ClogRoom', WHERE WHAT IT READS IS OF BULK AT MOST 1048576: true; the input reads as it did. -/
def clogRoomUptoRow : OpenClaim := { program := "ytjpgiohdaadieaa", sum := "f77867e40e0ce69b35364d71de0ce25fe2a0f87fe6a8e838c116e7379aff5153", func := "oubliette/oublaw24.ClogRoom", spec := "clogRoom", inPlace := ["internal/bytealg.MakeNoZero"], apart := false, narrowed := true }
def ClogRoomUptoSaid : Prop := clogRoomUptoRow.holds Try.pinned (OpenSpec.upto clogRoomSpec)

/-- 'oublaw24.ClogTells', WHERE WHAT IT READS IS OF BULK AT MOST 1048576: true; the input reads as it did. -/
def clogTellsUptoRow : OpenClaim := { program := "ytjpgiohdaadieaa", sum := "f77867e40e0ce69b35364d71de0ce25fe2a0f87fe6a8e838c116e7379aff5153", func := "oubliette/oublaw24.ClogTells", spec := "clogTells", inPlace := ["internal/bytealg.MakeNoZero"], unfollowed := true, recurses := true, apart := false, narrowed := true }
def ClogTellsUptoSaid : Prop := clogTellsUptoRow.holds Try.pinned (OpenSpec.upto clogTellsSpec)

/-- 'oublaw24.ClogBack', WHERE WHAT IT READS IS OF BULK AT MOST 1048576: true; the input reads as it did. -/
def clogBackUptoRow : OpenClaim := { program := "ytjpgiohdaadieaa", sum := "f77867e40e0ce69b35364d71de0ce25fe2a0f87fe6a8e838c116e7379aff5153", func := "oubliette/oublaw24.ClogBack", spec := "clogBack", inPlace := ["internal/bytealg.MakeNoZero"], unfollowed := true, recurses := true, apart := false, narrowed := true }
def ClogBackUptoSaid : Prop := clogBackUptoRow.holds Try.pinned (OpenSpec.upto clogBackSpec)

/-- 'oublaw24.ClogApart', WHERE WHAT IT READS IS OF BULK AT MOST 1048576: true; the input reads as it did. -/
def clogApartUptoRow : OpenClaim := { program := "ytjpgiohdaadieaa", sum := "f77867e40e0ce69b35364d71de0ce25fe2a0f87fe6a8e838c116e7379aff5153", func := "oubliette/oublaw24.ClogApart", spec := "clogApart", inPlace := ["internal/bytealg.MakeNoZero"], unfollowed := true, recurses := true, apart := false, narrowed := true }
def ClogApartUptoSaid : Prop := clogApartUptoRow.holds Try.pinned (OpenSpec.upto clogApartSpec)

end Rows
end Go.Proofs.Ytjpgiohdaadieaa
