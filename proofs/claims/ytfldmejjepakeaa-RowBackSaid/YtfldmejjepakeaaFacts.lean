/- Facts on the values of a region: slices of bytes. -/
import Derived.Test.YtfldmejjepakeaaFree
import Derived.Test.YtfldmejjepakeaaReader
namespace Go.Proofs.Ytfldmejjepakeaa
open Go.ChangeShapes Go.WideShapes Go.ChangeAt Go.RowKit
open Go.ChangeMaps (open_string shut_string)
set_option linter.unusedVariables false
set_option linter.unusedSimpArgs false
set_option maxRecDepth 100000

theorem OB.below {w w' : World} {B : Nat} {v : Value} {l : List UInt8} (h : OB w B v l) (hb : Below w.heap.size w w') : OB w' B v l :=
  h.kept (S := fun _ => False) (Keeps.of_below hb) (fun _ _ => id)
/-- A slice of new memory that holds l. -/
def Free.Fact.own (B : Nat) (l : List UInt8) : Free.Fact := ⟨fun v w => OB w B v l, fun _ _ _ h hb => OB.below h hb⟩
/-- A slice of n bytes that reads as l. -/
def Free.Fact.sl (n : Nat) (l : List UInt8) : Free.Fact := ⟨fun v w => ∃ A c, v = .slice A n c ∧ RB w A n c l, fun _ _ _ ⟨A, c, h, h2⟩ hb => ⟨A, c, h, h2.below hb⟩⟩
theorem Fr.sl {w : World} {B : Nat} {v : Value} {l : List UInt8} (h : Fr w B v l) (n : Nat) (hn : l.length = n) : ∃ A c, v = .slice A n c ∧ RB w A n c l := by subst hn; exact let ⟨A, c, h1, h2, _⟩ := h; ⟨A, c, h1, h2⟩
theorem OB.sl {w : World} {B : Nat} {v : Value} {l : List UInt8} (h : OB w B v l) (n : Nat) (hn : l.length = n) : ∃ A c, v = .slice A n c ∧ RB w A n c l := (Fr.of_own h).sl n hn
theorem Blk.sl {w : World} {g : Nat} {l : List UInt8} (h : Blk w g (bcells l) 5) (n : Nat) (hn : l.length = n) (hm : n ≤ maxLen) : ∃ A c, Value.slice (some ⟨g, 0, none⟩) n n = .slice A n c ∧ RB w A n c l := by subst hn; exact ⟨_, _, rfl, RB.of_row h hm⟩
/-- Below, one step on. -/
theorem _root_.Go.RowKit.Below.next {N : Nat} {a w w' : World} (h : Below N a w) (hb : Below w.heap.size w w') (hN : N ≤ a.heap.size) : Below N a w' := h.trans (hb.mono (Nat.le_trans hN h.size))

theorem RB.cells {w : World} {g o n c : Nat} {l : List UInt8} (h : RB w (some ⟨g, o, none⟩) n c l) : ∀ j v, (l.map bv)[j]? = some v → w.cell? ((⟨g, o, none⟩ : Addr).add j) = some v := by
  intro j v hv
  have hj : j < l.length := by have := (List.getElem?_eq_some_iff.1 hv).1; simpa using this
  obtain ⟨g', o', e, hc⟩ := h.at_ (by have := h.len; omega)
  injection e with e
  injection e with e1 e2
  subst e1; subst e2
  rw [List.getElem?_map, List.getElem?_eq_getElem hj] at hv
  injection hv with hv
  rw [← hv, Addr.add_lit]
  exact hc j _ (List.getElem?_eq_getElem hj)

/-- append onto a slice that is full: new memory. -/
theorem run_app_grow (ty : TypeId) (w : World) (g o sc : Nat) (l news : List UInt8) (h : RB w (some ⟨g, o, none⟩) l.length sc l) (A : Option Addr) (m c : Nat) (hr : RB w A m c news) (hg : sc < l.length + m) (hm : 0 < m) (hsz : l.length + m ≤ 1099511627776) :
    ∃ v' w', (Builtin.append_ #[22, 22] ty #[.slice (some ⟨g, o, none⟩) l.length sc, .slice A m c]).run Try.prog w = .ok v' w' ∧ OB w' w.heap.size v' (l ++ news) ∧ Below w.heap.size w w' := by
  obtain ⟨i0, hi, hz0, hz1, hz2⟩ := info_parts info_u8
  have hln := hr.len
  obtain ⟨g2, o2, rfl, _⟩ := hr.at_ hm
  have hnc : Builtin.nextslicecap (l.length + m) sc * i0.bytes ≤ 281474976710656 := by
    have := nextslicecap_le hg
    rw [hz2]; omega
  have hrun := run_append_grow (P := Try.prog) w 22 ty 5 i0 (.int .u8 0) Try.underlying22 hi hz0 ⟨g, o, none⟩ l.length sc (l.map bv) (by simp [hz1]) h.cells ⟨g2, o2, none⟩ m c (news.map bv) (by simp [hz1, hln]) hr.cells hg (by omega) hnc
  refine ⟨_, _, hrun, ?_, (Below.refl _ _).drew.alloc (Nat.le_refl _) _⟩
  have hge := grownCap_ge w (l.length + m) sc 5
  have hgm := grownCap_le_maxLen w (l.length + m) sc 5 (by unfold maxLen; omega)
  have hlen : (l ++ news).length = l.length + m := by rw [List.length_append, hln]
  refine ⟨by simp, .inr ⟨w.heap.size, _, _, by rw [hlen], Nat.le_refl _, heap_alloc_new w.drew _, by rw [hlen]; exact hge, hgm, ?_, ?_⟩⟩
  · have hcells : (Value.int IntKind.u8 0).cells = #[Value.int .u8 0] := rfl
    simp only [Array.size_append, List.size_toArray, size_zeroCells, hcells, List.length_map, hln]
    simp
    omega
  · simp only [Array.toList_append, List.append_assoc]
    rw [hlen, Nat.mul_one, List.map_append, ← List.append_assoc]
    have e : ((l.map bv).toArray.toList ++ (news.map bv).toArray.toList).length = l.length + m := by simp [hln]
    rw [← e]
    exact List.take_left

section
variable {ops : Array Oper} {o : Oper} {a : Act} {w : World} {rest : List Oper} {K : Act → World → Prop} {Q : Exit → Act → World → Prop}
theorem wp_appg (s x : Operand) (hop : o.op = Op.call { callee := Callee.builtin Builtin.append, args := #[s, x], argTypes := #[22, 22] })
    (g off n sc : Nat) (l news : List UInt8) (A : Option Addr) (m c : Nat) (hs : a.eval s = .slice (some ⟨g, off, none⟩) n sc) (hx : a.eval x = .slice A m c) (h : RB w (some ⟨g, off, none⟩) n sc l) (hr : RB w A m c news) (hg : sc < n + m) (hm : 0 < m) (hsz : n + m ≤ 1099511627776)
    (hK : ∀ v' w', OB w' w.heap.size v' (l ++ news) → Below w.heap.size w w' → K (a.put o.dst v') w') : Oper.wp Try.prog o a w K Q := by
  have hn := h.len
  subst hn
  obtain ⟨v', w', hrun, h1, h2⟩ := run_app_grow o.type w g off sc l news h A m c hr hg hm hsz
  unfold Oper.wp execOp
  simp only [hop, resolve, invoke, builtin, Sem.run_bind, Sem.run_pure, Result.andThen_ok, List.map_toArray, List.map_cons, List.map_nil, hs, hx, hrun]
  exact hK v' w' h1 h2
theorem wpList_appg (hgd : o.guard = none) (s x : Operand) (hop : o.op = Op.call { callee := Callee.builtin Builtin.append, args := #[s, x], argTypes := #[22, 22] })
    (g off n sc : Nat) (l news : List UInt8) (A : Option Addr) (m c : Nat) (hs : a.eval s = .slice (some ⟨g, off, none⟩) n sc) (hx : a.eval x = .slice A m c) (h : RB w (some ⟨g, off, none⟩) n sc l) (hr : RB w A m c news) (hg : sc < n + m) (hm : 0 < m) (hsz : n + m ≤ 1099511627776)
    (hK : ∀ v' w', OB w' w.heap.size v' (l ++ news) → Below w.heap.size w w' → wpList Try.prog ops Q rest (a.put o.dst v') w') : wpList Try.prog ops Q (o :: rest) a w :=
  wpList_plain hgd fun _ hK2 => wp_appg s x hop g off n sc l news A m c hs hx h hr hg hm hsz fun v' w' h1 h2 => hK2 _ _ (hK v' w' h1 h2)
end
/-- A slice at an address, full: of one byte. -/
def Free.Fact.one (b : UInt8) : Free.Fact := ⟨fun v w => ∃ g, v = .slice (some ⟨g, 0, none⟩) 1 1 ∧ RB w (some ⟨g, 0, none⟩) 1 1 [b], fun _ _ _ ⟨g, h, h2⟩ hb => ⟨g, h, h2.below hb⟩⟩
theorem str_append (a b : List UInt8) : str a ++ str b = str (a ++ b) := by
  apply ByteArray.ext
  rw [ByteArray.data_append]
  simp [str]
end Go.Proofs.Ytfldmejjepakeaa
