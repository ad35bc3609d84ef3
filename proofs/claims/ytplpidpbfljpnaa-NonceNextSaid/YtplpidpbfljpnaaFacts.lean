/- Facts on the values of a region: slices of bytes. -/
import Derived.Test.YtplpidpbfljpnaaFree
import Derived.Test.YtplpidpbfljpnaaReader
namespace Go.Proofs.Ytplpidpbfljpnaa
open Go.ChangeShapes Go.WideShapes Go.ChangeAt Go.RowKit
open Go.ChangeMaps (open_string shut_string)
set_option linter.unusedVariables false
set_option linter.unusedSimpArgs false

theorem OB.below {w w' : World} {B : Nat} {v : Value} {l : List UInt8} (h : OB w B v l) (hb : Below w.heap.size w w') : OB w' B v l :=
  h.kept (S := fun _ => False) (Keeps.of_below hb) (fun _ _ => id)
/-- A slice of new memory that holds l. -/
def Free.Fact.own (B : Nat) (l : List UInt8) : Free.Fact := ⟨fun v w => OB w B v l, fun _ _ _ h hb => OB.below h hb⟩
/-- A slice of n bytes that reads as l. -/
def Free.Fact.sl (n : Nat) (l : List UInt8) : Free.Fact := ⟨fun v w => ∃ A c, v = .slice A n c ∧ RB w A n c l, fun _ _ _ ⟨A, c, h, h2⟩ hb => ⟨A, c, h, h2.below hb⟩⟩
theorem Fr.sl {w : World} {B : Nat} {v : Value} {l : List UInt8} (h : Fr w B v l) (n : Nat) (hn : l.length = n) : ∃ A c, v = .slice A n c ∧ RB w A n c l := by subst hn; exact let ⟨A, c, h1, h2, _⟩ := h; ⟨A, c, h1, h2⟩
theorem OB.sl {w : World} {B : Nat} {v : Value} {l : List UInt8} (h : OB w B v l) (n : Nat) (hn : l.length = n) : ∃ A c, v = .slice A n c ∧ RB w A n c l := (Fr.of_own h).sl n hn
theorem Blk.sl {w : World} {g : Nat} {l : List UInt8} (h : Blk w g (bcells l) 5) (n : Nat) (hn : l.length = n) (hm : n ≤ maxLen) : ∃ A c, Value.slice (some ⟨g, 0, none⟩) n n = .slice A n c ∧ RB w A n c l := by subst hn; exact ⟨_, _, rfl, RB.of_row h hm⟩
/-- Below, one step on. -/
theorem _root_.Go.RowKit.Below.next {N : Nat} {a w w' : World} (h : Below N a w) (hb : Below w.heap.size w w') (hN : N ≤ a.heap.size) : Below N a w' := h.trans (hb.mono (Nat.le_trans hN h.size))
end Go.Proofs.Ytplpidpbfljpnaa
