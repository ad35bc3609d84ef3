/- Contracts of bytes.Join of one part, of slab.Writer.Raw of one part. -/
import Derived.Test.YtfldmejjepakeaaSlab2
import Derived.Test.YtfldmejjepakeaaFacts
import Derived.Test.YtfldmejjepakeaaFreeR
namespace Go.Proofs.Ytfldmejjepakeaa
open Go.ChangeShapes Go.WideShapes Go.ChangeAt Go.RowKit
open Go.ChangeMaps (open_string shut_string)
set_option linter.unusedVariables false
set_option linter.unusedSimpArgs false
set_option maxRecDepth 100000

def Free.FactR.of (f : Free.Fact) : Free.FactR (fun w w' => Below w.heap.size w w') := { f := f.f, stab := f.stab }
theorem App.below {w w1 w2 : World} {B : Nat} {v v' : Value} {l : List UInt8} (h : App w w1 B v v' l) (hb : Below w1.heap.size w1 w2) : App w w2 B v v' l := ⟨OB.below h.own hb, h.keeps.then_below hb, h.at_⟩
/-- What an append onto v left, in a world that grew out of w. -/
def Free.FactR.app (w : World) (v : Value) (l : List UInt8) : Free.FactR (fun w w' => Below w.heap.size w w') := { f := fun v7 w' => ∃ w1, Below w.heap.size w w1 ∧ App w1 w' 0 v v7 l, stab := fun _ _ _ ⟨w1, h, h2⟩ hb => ⟨w1, h, h2.below hb⟩ }
/-- A writer, one step on. -/
def Free.FactR.wr (w : World) (p : Nat) (v : Value) (l : List UInt8) (br : Bool) : Free.FactR (fun w w' => Below w.heap.size w w') := { f := fun _ w' => ∃ v', Wr w' p v' l br ∧ WStep w w' p v v', stab := fun _ _ _ ⟨v', h, h2⟩ hb => ⟨v', h.below hb, h2.below hb⟩ }
theorem join_one (g t : Nat) (A : Option Addr) (m c : Nat) (l : List UInt8) (w : World) (hg : Blk w g #[.slice A m c] t) (h : RB w A m c l) (hm : m ≤ 1000000) :
    Calls Try.prog 79 #[.slice (some ⟨g, 0, none⟩) 1 1, .slice none 0 0] w fun e w' => ∃ v, e = .returned v ∧ OB w' w.heap.size v l ∧ Below w.heap.size w w' := by
  have hl := h.len
  have c0 := hg.cell 0 (v := .slice A m c) rfl
  go_enter Try.func79, Try.ntmps79
  go_wp2_with (refine wpList_app rfl (.const (.slice none 0 0)) (.tmp 21) rfl w.heap.size (.slice none 0 0) [] l A m c rfl rfl (OB.nil _ _) h (by simp; omega) (Nat.le_refl _) ?_; intro v2 w2 ha; obtain ⟨A2, c2, rfl, _⟩ := OB.sl ha.own m (by simp [hl]))
  go_ret
  exact ⟨_, rfl, ha.own, (Below.refl w.heap.size w).keeps ha.keeps (fun i _ e => by simp [Value.ownBlock] at e) (Nat.le_refl _)⟩
theorem raw_one (p : Nat) (v : Value) (l : List UInt8) (g t : Nat) (A : Option Addr) (m c : Nat) (x : List UInt8) (w : World) (h : Wr w p v l false) (hg : Blk w g #[.slice A m c] t) (hx : RB w A m c x) (hm : m ≤ 1000000) (hl : l.length ≤ 1000000) :
    Calls Try.prog 54 #[.pointer (some ⟨p, 0, none⟩), .slice (some ⟨g, 0, none⟩) 1 1] w fun e w' => e = .returned (.pointer (some ⟨p, 0, none⟩)) ∧ ∃ v', Wr w' p v' (l ++ x) false ∧ WStep w w' p v v' := by
  have c1 := h.c1
  have hxl := hx.len
  obtain ⟨n0, hn0⟩ : ∃ n, l.length = n := ⟨_, rfl⟩
  obtain ⟨A0, c0, rfl, _⟩ := OB.sl h.own n0 hn0
  have hJ := Lib.hid (fun w hg h => join_one g t A m c x w hg h hm)
  have hn0 := Lib.hid hn0
  have hl := Lib.hid hl
  have hxl := Lib.hid hxl
  have hR : ∀ {w w' : World}, Below w.heap.size w w' → Below w.heap.size w w' := fun h => h
  go_enter Try.func54, Try.ntmps54
  go_wp2_with fail
  have hvo := Free.val
  refine Free.wp_factsRW (R := (fun w w' => Below w.heap.size w w')) (ss := [7]) (pures := [0, 1, 2, 3, 4, 5, 8, 9]) (M := [0, 0, 2, 6, 14, 0, 32, 126, 255, 511, 1023]) (D := [[], [], [(1, 11)], [(2, 12)], [(3, 13)], [], [(5, 15)], [(4, 14), (6, 16)], [(0, 10)], [(8, 18)], [(9, 19), (7, 17)]]) (outs := [10]) (soles := [7, 10]) (E := [(0, some 10, false), (1, some 11, false), (2, some 12, false), (3, some 13, false), (4, some 14, false), (5, some 15, false), (6, some 16, false), (7, some 17, false), (8, some 18, false), (9, some 19, false), (10, none, true)]) (N := 21) (S := (fun (d : Nat) w' => d = 0 → Below w.heap.size w w')) [Free.FactR.is ?_, Free.FactR.is ?_, Free.FactR.is ?_, Free.FactR.is ?_, Free.FactR.is ?_, Free.FactR.is ?_, Free.FactR.of (Free.Fact.sl m x), Free.FactR.app w (.slice A0 n0 c0) (l ++ x), Free.FactR.is ?_, Free.FactR.is ?_, Free.FactR.wr w p (.slice A0 n0 c0) (l ++ x) false] (by kernel_rfl) (by kernel_rfl) (by kernel_rfl) rfl rfl (by decide) (fun _ => (Below.refl _ _).drew) ?_ ?_
  rotate_left 8
  refine Free.cons ?_ ?_
  · intro st hag w' hS; intro K hK; first | (refine Free.run_yes (by rfl) ?_; go_simp; refine Free.oR hK (hR (Below.refl _ _)) hS ?_; exact rfl) | (refine Free.run_no (by rfl) (Free.oR hK (hR (Below.refl _ _)) hS ?_); exact rfl)
  refine Free.cons ?_ ?_
  · intro st hag; (obtain rfl : st = 0 := Nat.le_antisymm hag.2 hag.1); intro w' hS; intro K hK; first | (refine Free.run_yes (by rfl) ?_; go_simp; refine Free.oR hK (hR (Below.refl _ _)) hS ?_; exact rfl) | (refine Free.run_no (by rfl) (Free.oR hK (hR (Below.refl _ _)) hS ?_); exact rfl)
  refine Free.cons ?_ ?_
  · intro st hag; (obtain rfl : st = 0 := Nat.le_antisymm hag.2 hag.1); intro w' hS; (rintro _ rfl); intro K hK; first | (refine Free.run_yes (by rfl) ?_; go_simp; refine Free.oR hK (hR (Below.refl _ _)) hS ?_; exact rfl) | (refine Free.run_no (by rfl) (Free.oR hK (hR (Below.refl _ _)) hS ?_); exact rfl)
  refine Free.cons ?_ ?_
  · intro st hag; (obtain rfl : st = 0 := Nat.le_antisymm hag.2 hag.1); intro w' hS; (rintro _ rfl); intro K hK; first | (refine Free.run_yes (by rfl) ?_; go_simp; refine Free.oR hK (hR (Below.refl _ _)) hS ?_; exact rfl) | (refine Free.run_no (by rfl) (Free.oR hK (hR (Below.refl _ _)) hS ?_); exact rfl)
  refine Free.cons ?_ ?_
  · intro st hag; (obtain rfl : st = 0 := Nat.le_antisymm hag.2 hag.1); intro w' hS; (rintro _ rfl); intro K hK; refine Free.run_yes (by rfl) ?_; (have k0 := (h.below (hS rfl)).c0; go_simp; refine Free.oR hK (hR (Below.refl _ _)) hS ?_; exact rfl)
  refine Free.cons ?_ ?_
  · intro st hag; (obtain rfl : st = 0 := Nat.le_antisymm hag.2 hag.1); intro w' hS; intro K hK; first | (refine Free.run_yes (by rfl) ?_; go_simp; refine Free.oR hK (hR (Below.refl _ _)) hS ?_; exact rfl) | (refine Free.run_no (by rfl) (Free.oR hK (hR (Below.refl _ _)) hS ?_); exact rfl)
  refine Free.cons ?_ ?_
  · intro st hag; (obtain rfl : st = 0 := Nat.le_antisymm hag.2 hag.1); intro w' hS; (rintro _ rfl); intro K hK; refine Free.run_yes (by rfl) ?_; (go_simp; go_at_call 79; refine (hJ.out _ (hg.below (hS rfl) hg.lt) (hx.below (hS rfl))).mono ?_; rintro e w2 ⟨v2, rfl, ho, hb⟩; simp only [Free.valOf, Act.put, List.setIfInBounds_toArray, List.set_cons_zero, List.set_cons_succ, Array.getD_eq_getD_getElem?, List.getElem?_toArray, List.getElem?_cons_succ, List.getElem?_cons_zero, Option.getD_some]; refine hK.out _ _ (OB.sl ho m hxl.out) (fun _ => Below.next (hS rfl) hb (Nat.le_refl _)) (.inr hb))
  refine Free.cons ?_ ?_
  · intro st hag; (obtain rfl : st = 0 := Nat.le_antisymm hag.2 hag.1); intro w' hS; (rintro _ rfl); (intro v6 h6); intro K hK; refine Free.run_yes (by rfl) ?_; (obtain ⟨A6, c6, rfl, hr6⟩ := h6; refine wp_app (.tmp 14) (.tmp 16) rfl 0 (.slice A0 n0 c0) l x A6 m c6 rfl rfl (OB.below h.own (hS rfl)) hr6 (by have := hl.out; omega) (by omega) ?_; intro v7 w7 ha; refine ⟨rfl, ?_⟩; simp only [Free.valOf, Act.put, List.setIfInBounds_toArray, List.set_cons_zero, List.set_cons_succ, Array.getD_eq_getD_getElem?, List.getElem?_toArray, List.getElem?_cons_succ, List.getElem?_cons_zero, Option.getD_some]; refine hK.out _ _ ⟨w', hS rfl, ha⟩ (fun e => by cases e) (.inl rfl))
  refine Free.cons ?_ ?_
  · intro st hag; (obtain rfl : st = 1 := Nat.le_antisymm hag.2 hag.1); intro w' hS; (rintro _ rfl); intro K hK; first | (refine Free.run_yes (by rfl) ?_; go_simp; refine Free.oR hK (hR (Below.refl _ _)) hS ?_; exact rfl) | (refine Free.run_no (by rfl) (Free.oR hK (hR (Below.refl _ _)) hS ?_); exact rfl)
  refine Free.cons ?_ ?_
  · intro st hag; (obtain rfl : st = 1 := Nat.le_antisymm hag.2 hag.1); intro w' hS; (rintro _ rfl); intro K hK; first | (refine Free.run_yes (by rfl) ?_; go_simp; refine Free.oR hK (hR (Below.refl _ _)) hS ?_; exact rfl) | (refine Free.run_no (by rfl) (Free.oR hK (hR (Below.refl _ _)) hS ?_); exact rfl)
  refine Free.cons ?_ ?_
  · intro st hag; (obtain rfl : st = 1 := Nat.le_antisymm hag.2 hag.1); intro w' hS; (rintro _ rfl); (intro v7 h7); intro K hK; refine Free.run_yes (by rfl) ?_; (obtain ⟨w1, hb1, ha⟩ := h7; have hw1 := h.below hb1; have hbk := hw1.blk.keeps ha.keeps h.ne; obtain ⟨A7, c7, rfl, _⟩ := OB.sl ha.own (n0 + m) (by rw [List.length_append, hn0.out, hxl.out]); have k0 := hbk.cell 0 (v := .slice A0 n0 c0) rfl; have k1 := hbk.fz 0; go_simp; refine hK.out _ _ ⟨_, Wr.app hw1 (Keeps.refl _ _) ha, WStep.step ((WStep.refl w p _).below hb1) (Keeps.refl _ _) ha⟩ (fun e => by cases e) (.inl rfl))
  exact Free.nil
  clear hvo
  intro w' hS; intro v0; intro v1; intro v2; intro v3; intro v4; intro v5; intro v6; intro v7; intro v8; intro v9; intro v10 h10; (try simp only [Act.put, List.setIfInBounds_toArray, List.set_cons_zero, List.set_cons_succ]); refine Free.toldW_nil ?_
  obtain ⟨v', hw, hst⟩ := h10
  go_wp2
  go_ret
  exact ⟨rfl, v', hw, hst⟩
end Go.Proofs.Ytfldmejjepakeaa
