/-
  No cell of these rows narrows 'for every input' (looked for: loops, veiled, ifaces, maps, wideKeys, modest, calm, conditions, laid).
  DERIVED. THE GIVEN ROWS OF THIS SEAT. 10 by the template 'for every input the law returns true; each argument reads behind the call as it read before'; 0 by the template 'total and deterministic' (their statements: YtplpidpbfljpnaaTotals.lean).
  GIVEN WITH THE SEED: the statements are not yours to turn. If you find one false, say at which input.
  Laid BY PROGRAM, IN A SANDBOX (cutbox-rows.mjs): the forced cells as the released guide's own fill.sh prints them over the translation aa38c6019ec5e690… (all of the seat's roots in one cut). By AI agents, Wed Nov 11 2026. No macro, syntax, notation, axiom, sorry.
-/
import Derived.Test.YtplpidpbfljpnaaChecked
import GoSem.Claim
import GoSem.ClaimJoined
import GoSem.ClaimMapViews
import Derived.JoinedTies
import Derived.KernelRfl
namespace Go.Proofs.Ytplpidpbfljpnaa
/- THE CELL 'sum', in the pinned program and in every row, IS THE sha256 OF THE DUMP (.gsa) THAT YtplpidpbfljpnaaProg.lean LOADS. Nothing in Lean hashes anything: it is a label: what it is worth is what the hold of that sum in a sandbox is worth. -/
noncomputable def Try.pinned : Pinned := { name := "ytplpidpbfljpnaa", sum := "aa38c6019ec5e6902422b114c3a4896c5a3d0a868f8991a088efcdd8c327a3a8", checked := Try.checked }
namespace Rows
def none {H : Type} : Left H := { results := [], args := [] }

/-- 'oublaw5.NonceEnds': WHATEVER THE INPUT: true; the input reads as it did. -/
def nonceEndsSpec : ChangeSpec := { name := "nonceEnds", fn := fun _ => fun
  | [d1, d2, d3] => { results := [.lit (.bool true)], args := [d1, d2, d3] }
  | _ => none }
def nonceEndsRow : OpenClaim := { program := "ytplpidpbfljpnaa", sum := "aa38c6019ec5e6902422b114c3a4896c5a3d0a868f8991a088efcdd8c327a3a8", func := "oubliette/oublaw5.NonceEnds", spec := "nonceEnds", apart := false }
def NonceEndsSaid : Prop := nonceEndsRow.holds Try.pinned (OpenSpec.ofChange nonceEndsSpec)

/-- ITS FALSE NEIGHBOUR: 'it returns false'. Refute it at one input. -/
def nonceEndsWrong : ChangeSpec := { name := "nonceEnds", fn := fun _ => fun
  | [d1, d2, d3] => { results := [.lit (.bool false)], args := [d1, d2, d3] }
  | _ => none }
def NonceEndsWrongFalsely : Prop := nonceEndsRow.holds Try.pinned (OpenSpec.ofChange nonceEndsWrong)

/-- 'oublaw15.ValGoes': WHATEVER THE INPUT: true; the input reads as it did. -/
def valGoesSpec : ChangeSpec := { name := "valGoes", fn := fun _ => fun
  | [d1, d2, d3] => { results := [.lit (.bool true)], args := [d1, d2, d3] }
  | _ => none }
def valGoesRow : OpenClaim := { program := "ytplpidpbfljpnaa", sum := "aa38c6019ec5e6902422b114c3a4896c5a3d0a868f8991a088efcdd8c327a3a8", func := "oubliette/oublaw15.ValGoes", spec := "valGoes", apart := false }
def ValGoesSaid : Prop := valGoesRow.holds Try.pinned (OpenSpec.ofChange valGoesSpec)

/-- ITS FALSE NEIGHBOUR: 'it returns false'. Refute it at one input. -/
def valGoesWrong : ChangeSpec := { name := "valGoes", fn := fun _ => fun
  | [d1, d2, d3] => { results := [.lit (.bool false)], args := [d1, d2, d3] }
  | _ => none }
def ValGoesWrongFalsely : Prop := valGoesRow.holds Try.pinned (OpenSpec.ofChange valGoesWrong)

/-- 'oublaw15.ValTells': WHATEVER THE INPUT: true; the input reads as it did. -/
def valTellsSpec : ChangeSpec := { name := "valTells", fn := fun _ => fun
  | [d1, d2, d3, d4] => { results := [.lit (.bool true)], args := [d1, d2, d3, d4] }
  | _ => none }
def valTellsRow : OpenClaim := { program := "ytplpidpbfljpnaa", sum := "aa38c6019ec5e6902422b114c3a4896c5a3d0a868f8991a088efcdd8c327a3a8", func := "oubliette/oublaw15.ValTells", spec := "valTells", apart := false }
def ValTellsSaid : Prop := valTellsRow.holds Try.pinned (OpenSpec.ofChange valTellsSpec)

/-- ITS FALSE NEIGHBOUR: 'it returns false'. Refute it at one input. -/
def valTellsWrong : ChangeSpec := { name := "valTells", fn := fun _ => fun
  | [d1, d2, d3, d4] => { results := [.lit (.bool false)], args := [d1, d2, d3, d4] }
  | _ => none }
def ValTellsWrongFalsely : Prop := valTellsRow.holds Try.pinned (OpenSpec.ofChange valTellsWrong)

/-- 'oublaw5.NonceNext': WHATEVER THE INPUT: true; the input reads as it did. -/
def nonceNextSpec : ChangeSpec := { name := "nonceNext", fn := fun _ => fun
  | [d1, d2, d3, d4] => { results := [.lit (.bool true)], args := [d1, d2, d3, d4] }
  | _ => none }
def nonceNextRow : OpenClaim := { program := "ytplpidpbfljpnaa", sum := "aa38c6019ec5e6902422b114c3a4896c5a3d0a868f8991a088efcdd8c327a3a8", func := "oubliette/oublaw5.NonceNext", spec := "nonceNext", apart := false }
def NonceNextSaid : Prop := nonceNextRow.holds Try.pinned (OpenSpec.ofChange nonceNextSpec)

/-- ITS FALSE NEIGHBOUR: 'it returns false'. Refute it at one input. -/
def nonceNextWrong : ChangeSpec := { name := "nonceNext", fn := fun _ => fun
  | [d1, d2, d3, d4] => { results := [.lit (.bool false)], args := [d1, d2, d3, d4] }
  | _ => none }
def NonceNextWrongFalsely : Prop := nonceNextRow.holds Try.pinned (OpenSpec.ofChange nonceNextWrong)

/-- 'oublaw15.ValReads': WHATEVER THE INPUT: true; the input reads as it did. -/
def valReadsSpec : ChangeSpec := { name := "valReads", fn := fun _ => fun
  | [d1, d2] => { results := [.lit (.bool true)], args := [d1, d2] }
  | _ => none }
def valReadsRow : OpenClaim := { program := "ytplpidpbfljpnaa", sum := "aa38c6019ec5e6902422b114c3a4896c5a3d0a868f8991a088efcdd8c327a3a8", func := "oubliette/oublaw15.ValReads", spec := "valReads", apart := false }
def ValReadsSaid : Prop := valReadsRow.holds Try.pinned (OpenSpec.ofChange valReadsSpec)

/-- ITS FALSE NEIGHBOUR: 'it returns false'. Refute it at one input. -/
def valReadsWrong : ChangeSpec := { name := "valReads", fn := fun _ => fun
  | [d1, d2] => { results := [.lit (.bool false)], args := [d1, d2] }
  | _ => none }
def ValReadsWrongFalsely : Prop := valReadsRow.holds Try.pinned (OpenSpec.ofChange valReadsWrong)

/-- 'oublaw15.ValOrder': WHATEVER THE INPUT: true; the input reads as it did. -/
def valOrderSpec : ChangeSpec := { name := "valOrder", fn := fun _ => fun
  | [d1, d2, d3, d4] => { results := [.lit (.bool true)], args := [d1, d2, d3, d4] }
  | _ => none }
def valOrderRow : OpenClaim := { program := "ytplpidpbfljpnaa", sum := "aa38c6019ec5e6902422b114c3a4896c5a3d0a868f8991a088efcdd8c327a3a8", func := "oubliette/oublaw15.ValOrder", spec := "valOrder", apart := false }
def ValOrderSaid : Prop := valOrderRow.holds Try.pinned (OpenSpec.ofChange valOrderSpec)

/-- ITS FALSE NEIGHBOUR: 'it returns false'. Refute it at one input. -/
def valOrderWrong : ChangeSpec := { name := "valOrder", fn := fun _ => fun
  | [d1, d2, d3, d4] => { results := [.lit (.bool false)], args := [d1, d2, d3, d4] }
  | _ => none }
def ValOrderWrongFalsely : Prop := valOrderRow.holds Try.pinned (OpenSpec.ofChange valOrderWrong)

/-- 'oublaw15.ValOne': WHATEVER THE INPUT: true; the input reads as it did. -/
def valOneSpec : ChangeSpec := { name := "valOne", fn := fun _ => fun
  | [d1, d2] => { results := [.lit (.bool true)], args := [d1, d2] }
  | _ => none }
def valOneRow : OpenClaim := { program := "ytplpidpbfljpnaa", sum := "aa38c6019ec5e6902422b114c3a4896c5a3d0a868f8991a088efcdd8c327a3a8", func := "oubliette/oublaw15.ValOne", spec := "valOne", apart := false }
def ValOneSaid : Prop := valOneRow.holds Try.pinned (OpenSpec.ofChange valOneSpec)

/-- ITS FALSE NEIGHBOUR: 'it returns false'. Refute it at one input. -/
def valOneWrong : ChangeSpec := { name := "valOne", fn := fun _ => fun
  | [d1, d2] => { results := [.lit (.bool false)], args := [d1, d2] }
  | _ => none }
def ValOneWrongFalsely : Prop := valOneRow.holds Try.pinned (OpenSpec.ofChange valOneWrong)

/-- 'oublaw5.NonceBytes': WHATEVER THE INPUT: true; the input reads as it did. -/
def nonceBytesSpec : ChangeSpec := { name := "nonceBytes", fn := fun _ => fun
  | [d1, d2, d3] => { results := [.lit (.bool true)], args := [d1, d2, d3] }
  | _ => none }
def nonceBytesRow : OpenClaim := { program := "ytplpidpbfljpnaa", sum := "aa38c6019ec5e6902422b114c3a4896c5a3d0a868f8991a088efcdd8c327a3a8", func := "oubliette/oublaw5.NonceBytes", spec := "nonceBytes", apart := false }
def NonceBytesSaid : Prop := nonceBytesRow.holds Try.pinned (OpenSpec.ofChange nonceBytesSpec)

/-- ITS FALSE NEIGHBOUR: 'it returns false'. Refute it at one input. -/
def nonceBytesWrong : ChangeSpec := { name := "nonceBytes", fn := fun _ => fun
  | [d1, d2, d3] => { results := [.lit (.bool false)], args := [d1, d2, d3] }
  | _ => none }
def NonceBytesWrongFalsely : Prop := nonceBytesRow.holds Try.pinned (OpenSpec.ofChange nonceBytesWrong)

/-- 'oublaw5.NonceOnce': WHATEVER THE INPUT: true; the input reads as it did. -/
def nonceOnceSpec : ChangeSpec := { name := "nonceOnce", fn := fun _ => fun
  | [d1, d2, d3] => { results := [.lit (.bool true)], args := [d1, d2, d3] }
  | _ => none }
def nonceOnceRow : OpenClaim := { program := "ytplpidpbfljpnaa", sum := "aa38c6019ec5e6902422b114c3a4896c5a3d0a868f8991a088efcdd8c327a3a8", func := "oubliette/oublaw5.NonceOnce", spec := "nonceOnce", apart := false }
def NonceOnceSaid : Prop := nonceOnceRow.holds Try.pinned (OpenSpec.ofChange nonceOnceSpec)

/-- ITS FALSE NEIGHBOUR: 'it returns false'. Refute it at one input. -/
def nonceOnceWrong : ChangeSpec := { name := "nonceOnce", fn := fun _ => fun
  | [d1, d2, d3] => { results := [.lit (.bool false)], args := [d1, d2, d3] }
  | _ => none }
def NonceOnceWrongFalsely : Prop := nonceOnceRow.holds Try.pinned (OpenSpec.ofChange nonceOnceWrong)

/-- 'oublaw5.NonceOrder': WHATEVER THE INPUT: true; the input reads as it did. -/
def nonceOrderSpec : ChangeSpec := { name := "nonceOrder", fn := fun _ => fun
  | [d1, d2, d3] => { results := [.lit (.bool true)], args := [d1, d2, d3] }
  | _ => none }
def nonceOrderRow : OpenClaim := { program := "ytplpidpbfljpnaa", sum := "aa38c6019ec5e6902422b114c3a4896c5a3d0a868f8991a088efcdd8c327a3a8", func := "oubliette/oublaw5.NonceOrder", spec := "nonceOrder", apart := false }
def NonceOrderSaid : Prop := nonceOrderRow.holds Try.pinned (OpenSpec.ofChange nonceOrderSpec)

/-- ITS FALSE NEIGHBOUR: 'it returns false'. Refute it at one input. -/
def nonceOrderWrong : ChangeSpec := { name := "nonceOrder", fn := fun _ => fun
  | [d1, d2, d3] => { results := [.lit (.bool false)], args := [d1, d2, d3] }
  | _ => none }
def NonceOrderWrongFalsely : Prop := nonceOrderRow.holds Try.pinned (OpenSpec.ofChange nonceOrderWrong)

/- THE SECOND FORM. 'bulk': how many values and letters a reading holds, each counted each time it is reached (what is shared counts as often as it is met; a slice's spare places count too). A statement '..UptoSaid' is the law's where the arguments, and the package variables that the reading takes, are together of bulk at most 1048576: NARROWER than '..Said'. Prove '..Said' where nothing that the law and all that it calls make is longer than what came in: it says more and counts as full. Else prove '..UptoSaid'. A law counts once. -/
mutual
def uptoBulk {H : Type} : DataW H → Nat
  | .lit (.string bytes) => bytes.length + 1
  | .lit _ => 1
  | .nil => 1
  | .ptr d => uptoBulk d + 1
  | .slice elems spare => uptoBulkAll elems + uptoBulkAll spare + 1
  | .agg parts => uptoBulkAll parts + 1
  | .iface _ d => uptoBulk d + 1
  | .map entries => uptoBulkEntries entries + 1
  | .held _ => 1
def uptoBulkAll {H : Type} : List (DataW H) → Nat
  | [] => 0
  | d :: r => uptoBulk d + uptoBulkAll r
def uptoBulkEntries {H : Type} : List (Lit × DataW H) → Nat
  | [] => 0
  | x :: r => uptoBulkEntry x + uptoBulkEntries r
def uptoBulkEntry {H : Type} : Lit × DataW H → Nat
  | (.string bytes, d) => bytes.length + uptoBulk d + 1
  | (_, d) => uptoBulk d + 1
 end
def uptoSmall : (H : Type) → List (DataW H) → Bool := fun _ ds => decide (uptoBulkAll ds ≤ 1048576)
def OpenSpec.upto (s : _root_.Go.ChangeSpec) : _root_.Go.OpenSpec := { _root_.Go.OpenSpec.ofChange s with cond := some uptoSmall }

/-- 'oublaw5.NonceEnds', WHERE WHAT IT READS IS OF BULK AT MOST 1048576: true; the input reads as it did. -/
def nonceEndsUptoRow : OpenClaim := { program := "ytplpidpbfljpnaa", sum := "aa38c6019ec5e6902422b114c3a4896c5a3d0a868f8991a088efcdd8c327a3a8", func := "oubliette/oublaw5.NonceEnds", spec := "nonceEnds", apart := false, narrowed := true }
def NonceEndsUptoSaid : Prop := nonceEndsUptoRow.holds Try.pinned (OpenSpec.upto nonceEndsSpec)

/-- 'oublaw15.ValGoes', WHERE WHAT IT READS IS OF BULK AT MOST 1048576: true; the input reads as it did. -/
def valGoesUptoRow : OpenClaim := { program := "ytplpidpbfljpnaa", sum := "aa38c6019ec5e6902422b114c3a4896c5a3d0a868f8991a088efcdd8c327a3a8", func := "oubliette/oublaw15.ValGoes", spec := "valGoes", apart := false, narrowed := true }
def ValGoesUptoSaid : Prop := valGoesUptoRow.holds Try.pinned (OpenSpec.upto valGoesSpec)

/-- 'oublaw15.ValTells', WHERE WHAT IT READS IS OF BULK AT MOST 1048576: true; the input reads as it did. -/
def valTellsUptoRow : OpenClaim := { program := "ytplpidpbfljpnaa", sum := "aa38c6019ec5e6902422b114c3a4896c5a3d0a868f8991a088efcdd8c327a3a8", func := "oubliette/oublaw15.ValTells", spec := "valTells", apart := false, narrowed := true }
def ValTellsUptoSaid : Prop := valTellsUptoRow.holds Try.pinned (OpenSpec.upto valTellsSpec)

/-- 'oublaw5.NonceNext', WHERE WHAT IT READS IS OF BULK AT MOST 1048576: true; the input reads as it did. -/
def nonceNextUptoRow : OpenClaim := { program := "ytplpidpbfljpnaa", sum := "aa38c6019ec5e6902422b114c3a4896c5a3d0a868f8991a088efcdd8c327a3a8", func := "oubliette/oublaw5.NonceNext", spec := "nonceNext", apart := false, narrowed := true }
def NonceNextUptoSaid : Prop := nonceNextUptoRow.holds Try.pinned (OpenSpec.upto nonceNextSpec)

/-- 'oublaw15.ValReads', WHERE WHAT IT READS IS OF BULK AT MOST 1048576: true; the input reads as it did. -/
def valReadsUptoRow : OpenClaim := { program := "ytplpidpbfljpnaa", sum := "aa38c6019ec5e6902422b114c3a4896c5a3d0a868f8991a088efcdd8c327a3a8", func := "oubliette/oublaw15.ValReads", spec := "valReads", apart := false, narrowed := true }
def ValReadsUptoSaid : Prop := valReadsUptoRow.holds Try.pinned (OpenSpec.upto valReadsSpec)

/-- 'oublaw15.ValOrder', WHERE WHAT IT READS IS OF BULK AT MOST 1048576: true; the input reads as it did. -/
def valOrderUptoRow : OpenClaim := { program := "ytplpidpbfljpnaa", sum := "aa38c6019ec5e6902422b114c3a4896c5a3d0a868f8991a088efcdd8c327a3a8", func := "oubliette/oublaw15.ValOrder", spec := "valOrder", apart := false, narrowed := true }
def ValOrderUptoSaid : Prop := valOrderUptoRow.holds Try.pinned (OpenSpec.upto valOrderSpec)

/-- 'oublaw15.ValOne', WHERE WHAT IT READS IS OF BULK AT MOST 1048576: true; the input reads as it did. -/
def valOneUptoRow : OpenClaim := { program := "ytplpidpbfljpnaa", sum := "aa38c6019ec5e6902422b114c3a4896c5a3d0a868f8991a088efcdd8c327a3a8", func := "oubliette/oublaw15.ValOne", spec := "valOne", apart := false, narrowed := true }
def ValOneUptoSaid : Prop := valOneUptoRow.holds Try.pinned (OpenSpec.upto valOneSpec)

/-- 'oublaw5.NonceBytes', WHERE WHAT IT READS IS OF BULK AT MOST 1048576: true; the input reads as it did. -/
def nonceBytesUptoRow : OpenClaim := { program := "ytplpidpbfljpnaa", sum := "aa38c6019ec5e6902422b114c3a4896c5a3d0a868f8991a088efcdd8c327a3a8", func := "oubliette/oublaw5.NonceBytes", spec := "nonceBytes", apart := false, narrowed := true }
def NonceBytesUptoSaid : Prop := nonceBytesUptoRow.holds Try.pinned (OpenSpec.upto nonceBytesSpec)

/-- 'oublaw5.NonceOnce', WHERE WHAT IT READS IS OF BULK AT MOST 1048576: true; the input reads as it did. -/
def nonceOnceUptoRow : OpenClaim := { program := "ytplpidpbfljpnaa", sum := "aa38c6019ec5e6902422b114c3a4896c5a3d0a868f8991a088efcdd8c327a3a8", func := "oubliette/oublaw5.NonceOnce", spec := "nonceOnce", apart := false, narrowed := true }
def NonceOnceUptoSaid : Prop := nonceOnceUptoRow.holds Try.pinned (OpenSpec.upto nonceOnceSpec)

/-- 'oublaw5.NonceOrder', WHERE WHAT IT READS IS OF BULK AT MOST 1048576: true; the input reads as it did. -/
def nonceOrderUptoRow : OpenClaim := { program := "ytplpidpbfljpnaa", sum := "aa38c6019ec5e6902422b114c3a4896c5a3d0a868f8991a088efcdd8c327a3a8", func := "oubliette/oublaw5.NonceOrder", spec := "nonceOrder", apart := false, narrowed := true }
def NonceOrderUptoSaid : Prop := nonceOrderUptoRow.holds Try.pinned (OpenSpec.upto nonceOrderSpec)

end Rows
end Go.Proofs.Ytplpidpbfljpnaa
