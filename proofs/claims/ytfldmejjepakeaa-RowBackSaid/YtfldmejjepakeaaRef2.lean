/- Contracts of package oubref2: most, Put, Nums, Num. -/
import Derived.Test.YtfldmejjepakeaaReader2
import Derived.Test.YtfldmejjepakeaaSlab
namespace Go.Proofs.Ytfldmejjepakeaa
open Go.ChangeShapes Go.WideShapes Go.ChangeAt Go.RowKit
open Go.ChangeMaps (open_string shut_string)
set_option linter.unusedVariables false
set_option linter.unusedSimpArgs false
set_option maxRecDepth 100000

/-- A slice of the call's own has become another one, by appends. -/
structure Gr (w w' : World) (v v' : Value) : Prop where
  keeps : Keeps (fun k => v.ownBlock = some k) w w'
  own : ∀ k, v'.ownBlock = some k → v.ownBlock = some k ∨ w.heap.size ≤ k
namespace Gr
variable {w w' w'' : World} {v v' v'' : Value}
theorem refl (w : World) (v : Value) : Gr w w v v := ⟨Keeps.refl _ _, fun _ h => .inl h⟩
theorem trans (h : Gr w w' v v') (k : Gr w' w'' v' v'') : Gr w w'' v v'' :=
  ⟨h.keeps.trans k.keeps (fun i hi => h.own i hi), fun i hi => (k.own i hi).elim (h.own i) (fun e => .inr (Nat.le_trans h.keeps.size e))⟩
theorem app {B : Nat} {l : List UInt8} (h : App w w' B v v' l) : Gr w w' v v' :=
  ⟨h.keeps, fun k hk => by
    rcases h.at_ with e | e
    · rw [e] at hk; exact .inl hk
    · rw [e] at hk; injection hk with hk; exact .inr (by omega)⟩
theorem new (o : Obj) (h : Gr (w.alloc o) w' v v') : Gr w w' v v' :=
  ⟨(Keeps.alloc (Keeps.refl _ w) o).trans h.keeps (fun i hi => .inl hi), fun k hk => (h.own k hk).elim .inl (fun e => .inr (by simp at e; omega))⟩
theorem drew (h : Gr w w' v v') : Gr w w'.drew v v' := ⟨h.keeps.drew, h.own⟩
theorem below {B : Nat} (h : Gr w w' v v') (hv : ∀ k, v.ownBlock = some k → B ≤ k) (hB : B ≤ w.heap.size) : Below B w w' ∧ ∀ k, v'.ownBlock = some k → B ≤ k :=
  ⟨h.keeps.below hB (fun k hk hs => by have := hv k hs; omega), fun k hk => (h.own k hk).elim (hv k) (fun e => by omega)⟩
end Gr

theorem byte_of' (n : Int) (i : Nat) : n / 2 ^ (8 * i) % 256 = ((byteAt n i).toNat : Int) := by
  have := byte_of n i
  rw [IntKind.wrap_u8, show (8 * (i : Int)).toNat = 8 * i from by omega] at this
  exact this

theorem byteAt_top (k i : Nat) (h : i < k) (h7 : k ≤ 7) : byteAt (topW k) i = byteAt (-1) i := by
  have hk : k = 1 ∨ k = 2 ∨ k = 3 ∨ k = 4 ∨ k = 5 ∨ k = 6 ∨ k = 7 := by omega
  have hi : i = 0 ∨ i = 1 ∨ i = 2 ∨ i = 3 ∨ i = 4 ∨ i = 5 ∨ i = 6 := by omega
  rcases hk with rfl | rfl | rfl | rfl | rfl | rfl | rfl <;> rcases hi with rfl | rfl | rfl | rfl | rfl | rfl | rfl <;> first | omega | decide

theorem be_top (k : Nat) (h7 : k ≤ 7) : ∀ j, j ≤ k → be j (topW k) = be j (-1)
  | 0, _ => rfl
  | j + 1, h => by simp only [be]; rw [byteAt_top k j (by omega) h7, be_top k h7 j (by omega)]

end Go.Proofs.Ytfldmejjepakeaa
