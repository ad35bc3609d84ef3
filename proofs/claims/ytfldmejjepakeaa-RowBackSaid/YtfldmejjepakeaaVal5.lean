/- Contracts of values: the document's Encode. -/
import Derived.Test.YtfldmejjepakeaaVal4
import Derived.Test.YtfldmejjepakeaaFacts
namespace Go.Proofs.Ytfldmejjepakeaa
open Go.ChangeShapes Go.WideShapes Go.ChangeAt Go.RowKit
open Go.ChangeMaps (open_string shut_string)
set_option linter.unusedVariables false
set_option linter.unusedSimpArgs false
set_option maxRecDepth 100000

theorem refmay_is (k n : Int) (l : List UInt8) (b : Bool) (w : World) (h : mayV k n l = b) : Calls Try.prog 66 #[.agg #[.int .i64 (k), .int .i64 (n), .string (str (l))]] w fun e w' => e = .returned (.bool b) ∧ Below w.heap.size w w' := by
  have := ref_may15 k n l w
  rw [h] at this
  exact this

set_option maxRecDepth 100000 in
theorem renc_no (k n : Int) (l : List UInt8) (w : World) (hm : mayV k n l = false) :
    Calls Try.prog 61 #[.agg #[.int .i64 (k), .int .i64 (n), .string (str (l))]] w fun e w' => e = .returned (.tuple #[.slice none 0 0, .int .i64 12]) ∧ Below w.heap.size w w' := by
  go_enter Try.func61, Try.ntmps61
  go_wp2_with (go_at_call 66; refine (refmay_is _ _ _ _ _ hm).mono ?_; rintro e w1 ⟨rfl, hb⟩)
  go_ret2
  exact ⟨rfl, ((Below.refl w.heap.size w).alloc (Nat.le_refl _) _).trans (hb.mono (by simp))⟩

set_option maxHeartbeats 1000000 in
set_option maxRecDepth 100000 in
theorem renc_text (n : Int) (l : List UInt8) (w : World) (hm : mayV 2 n l = true) :
    Calls Try.prog 61 #[.agg #[.int .i64 (2), .int .i64 (n), .string (str (l))]] w fun e w' => ∃ v, e = .returned (.tuple #[v, .int .i64 0]) ∧ OB w' w.heap.size v (encB 2 n l) ∧ Below w.heap.size w w' := by
  have hl : l.length ≤ 8 := by simp [mayV] at hm; exact hm.2
  have hz := str_size l
  have hcv := fun w => conv_str w l
  have hbx := Blk.new w #[.int .i64 (2), .int .i64 (n), .string (str (l))] 51
  have hbl : Below w.heap.size w (w.alloc (.cells #[.int .i64 (2), .int .i64 (n), .string (str (l))] 51)) := (by repeat (first | exact Below.refl _ _ | assumption | apply below_drewN' | apply Below.drew | refine Below.alloc ?_ (by first | omega | (simp; done) | (simp; omega)) _ | refine Below.setCell ?_ (by first | omega | (simp; done) | (simp; omega)) _))
  go_enter Try.func61, Try.ntmps61
  go_wp2_with fail
  refine (refmay_is _ _ _ _ _ hm).mono ?_
  rintro e w1 ⟨rfl, hb⟩
  have hb1 := hbx.below hb (by simp)
  have c0 := hb1.cell 0 (v := .int .i64 2) rfl
  have hbl1 := hbl.trans (hb.mono (by simp))
  have hlt1 := hb1.lt
  obtain ⟨x, hx⟩ : ∃ x, x = UInt8.ofNat (2 + l.length) := ⟨_, rfl⟩
  have hx8 : IntKind.u8.wrap (IntKind.i64.wrap (2 + (l.length : Int))) = (x.toNat : Int) := by
    rw [hx, UInt8.toNat_ofNat', IntKind.wrap_u8, IntKind.wrap_i64]; omega
  have HE : Hid (encB 2 n l = [x] ++ fill l 8) := by rw [hx]; rfl
  have hfl := fill_length l 8
  have keep := fun {w' w'' : World} (h : Below w1.heap.size w1 w') (hb : Below w'.heap.size w' w'') => h.next hb (Nat.le_refl _)
  clear hx hb hbx hbl hm
  go_wp2_with fail
  have hvo := Free.val
  refine Free.wp_facts (M := [0, 1, 3, 7, 15, 31, 0, 64, 192, 448, 1023, 2047, 4095]) (D := [[], [(0, 18)], [(1, 19)], [(2, 20)], [(3, 21)], [(4, 22)], [], [(6, 24)], [(7, 25)], [(8, 26)], [(5, 23), (9, 27)], [(10, 28)], []]) (outs := [11, 12]) (soles := [10]) (E := [(0, 18, false), (1, 19, false), (2, 20, false), (3, 21, false), (4, 22, false), (5, 23, false), (6, 24, false), (7, 25, false), (8, 26, false), (9, 27, false), (10, 28, false), (11, 2, true), (12, 3, true)]) (N := 29) (S := (fun w' => Below w1.heap.size w1 w')) [Free.Fact.is ?_, Free.Fact.is ?_, Free.Fact.is ?_, Free.Fact.is ?_, Free.Fact.is ?_, Free.Fact.own w1.heap.size [x], Free.Fact.is ?_, Free.Fact.is ?_, Free.Fact.sl l.length l, Free.Fact.sl 8 (fill l 8), Free.Fact.own w1.heap.size ([x] ++ fill l 8), Free.Fact.own w1.heap.size ([x] ++ fill l 8), Free.Fact.is ?_] (by kernel_rfl) (by kernel_rfl) rfl ((Below.refl _ _).drew) ?_ ?_
  rotate_left 8
  refine Free.cons ?_ ?_
  · intro w' hS; intro K hK; have c2 := (hb1.below hS hlt1).cell 2 (v := .string (str l)) rfl; first | (refine Free.run_yes (by rfl) ?_; go_simp; refine Free.o hK hS ?_; exact rfl) | (refine Free.run_no (by rfl) (Free.o hK hS ?_); exact rfl)
  refine Free.cons ?_ ?_
  · intro w' hS; (rintro _ rfl); intro K hK; have c2 := (hb1.below hS hlt1).cell 2 (v := .string (str l)) rfl; first | (refine Free.run_yes (by rfl) ?_; go_simp; refine Free.o hK hS ?_; exact rfl) | (refine Free.run_no (by rfl) (Free.o hK hS ?_); exact rfl)
  refine Free.cons ?_ ?_
  · intro w' hS; (rintro _ rfl); intro K hK; have c2 := (hb1.below hS hlt1).cell 2 (v := .string (str l)) rfl; first | (refine Free.run_yes (by rfl) ?_; go_simp; refine Free.o hK hS ?_; exact rfl) | (refine Free.run_no (by rfl) (Free.o hK hS ?_); exact rfl)
  refine Free.cons ?_ ?_
  · intro w' hS; (rintro _ rfl); intro K hK; have c2 := (hb1.below hS hlt1).cell 2 (v := .string (str l)) rfl; first | (refine Free.run_yes (by rfl) ?_; go_simp; refine Free.o hK hS ?_; exact rfl) | (refine Free.run_no (by rfl) (Free.o hK hS ?_); exact rfl)
  refine Free.cons ?_ ?_
  · intro w' hS; (rintro _ rfl); intro K hK; have c2 := (hb1.below hS hlt1).cell 2 (v := .string (str l)) rfl; first | (refine Free.run_yes (by rfl) ?_; go_simp; refine Free.o hK hS ?_; exact rfl) | (refine Free.run_no (by rfl) (Free.o hK hS ?_); exact rfl)
  refine Free.cons ?_ ?_
  · intro w' hS; (rintro _ rfl); intro K hK; have c2 := (hb1.below hS hlt1).cell 2 (v := .string (str l)) rfl; refine Free.run_yes (by rfl) ?_; (go_simp; (try simp only [Free.valOf, Act.put, List.setIfInBounds_toArray, List.set_cons_zero, List.set_cons_succ, Array.getD_eq_getD_getElem?, List.getElem?_toArray, List.getElem?_cons_succ, List.getElem?_cons_zero, Option.getD_some]); refine hK.out _ _ (OB.of_row (l := [x]) (Blk.new w' (bcells [x]) 5) (by unfold maxLen; simp) hS.size) (hS.alloc hS.size _) (.inr ((Below.refl _ _).alloc (Nat.le_refl _) _)))
  refine Free.cons ?_ ?_
  · intro w' hS; intro K hK; have c2 := (hb1.below hS hlt1).cell 2 (v := .string (str l)) rfl; first | (refine Free.run_yes (by rfl) ?_; go_simp; refine Free.o hK hS ?_; exact rfl) | (refine Free.run_no (by rfl) (Free.o hK hS ?_); exact rfl)
  refine Free.cons ?_ ?_
  · intro w' hS; (rintro _ rfl); intro K hK; have c2 := (hb1.below hS hlt1).cell 2 (v := .string (str l)) rfl; first | (refine Free.run_yes (by rfl) ?_; go_simp; refine Free.o hK hS ?_; exact rfl) | (refine Free.run_no (by rfl) (Free.o hK hS ?_); exact rfl)
  refine Free.cons ?_ ?_
  · intro w' hS; (rintro _ rfl); intro K hK; have c2 := (hb1.below hS hlt1).cell 2 (v := .string (str l)) rfl; refine Free.run_yes (by rfl) ?_; (go_simp; (try simp only [Free.valOf, Act.put, List.setIfInBounds_toArray, List.set_cons_zero, List.set_cons_succ, Array.getD_eq_getD_getElem?, List.getElem?_toArray, List.getElem?_cons_succ, List.getElem?_cons_zero, Option.getD_some]); refine hK.out _ _ ⟨_, _, rfl, bytesWorld_rb w' l (by omega)⟩ (keep hS (bytesWorld_below w' l)) (.inr (bytesWorld_below w' l)))
  refine Free.cons ?_ ?_
  · intro w' hS; (intro v8 h8); intro K hK; have c2 := (hb1.below hS hlt1).cell 2 (v := .string (str l)) rfl; refine Free.run_yes (by rfl) ?_; (obtain ⟨A, c, rfl, hrb⟩ := h8; go_simp; refine (ref_Fill A l.length c 8 l _ hrb (by omega)).mono ?_; rintro e w2 ⟨rfl, hbk, hb⟩; (try simp only [Free.valOf, Act.put, List.setIfInBounds_toArray, List.set_cons_zero, List.set_cons_succ, Array.getD_eq_getD_getElem?, List.getElem?_toArray, List.getElem?_cons_succ, List.getElem?_cons_zero, Option.getD_some]); refine hK.out _ _ (hbk.sl 8 hfl (by unfold maxLen; omega)) (keep hS hb) (.inr hb))
  refine Free.cons ?_ ?_
  · intro w' hS; (intro v5 h5); (intro v9 h9); intro K hK; have c2 := (hb1.below hS hlt1).cell 2 (v := .string (str l)) rfl; refine Free.run_yes (by rfl) ?_; (obtain ⟨A, c, rfl, hrb⟩ := h9; refine wp_app (.tmp 23) (.tmp 27) rfl w1.heap.size v5 [x] (fill l 8) A 8 c rfl rfl h5 hrb (by simp) hS.size ?_; intro v3 w3 ha; refine ⟨rfl, ?_⟩; (try simp only [Free.valOf, Act.put, List.setIfInBounds_toArray, List.set_cons_zero, List.set_cons_succ, Array.getD_eq_getD_getElem?, List.getElem?_toArray, List.getElem?_cons_succ, List.getElem?_cons_zero, Option.getD_some]); refine hK.out _ _ ha.own (hS.keeps ha.keeps (fun i hi e => by have := (OB.lt h5 i e).1; omega) (Nat.le_refl _)) (.inl rfl))
  refine Free.cons ?_ ?_
  · intro w' hS; (intro v10 h10); intro K hK; have c2 := (hb1.below hS hlt1).cell 2 (v := .string (str l)) rfl; first | (refine Free.run_yes (by rfl) ?_; go_simp; refine Free.o hK hS ?_; first | exact rfl | assumption) | (refine Free.run_no (by rfl) (Free.o hK hS ?_); exact rfl)
  refine Free.cons ?_ ?_
  · intro w' hS; intro K hK; have c2 := (hb1.below hS hlt1).cell 2 (v := .string (str l)) rfl; first | (refine Free.run_yes (by rfl) ?_; go_simp; refine Free.o hK hS ?_; exact rfl) | (refine Free.run_no (by rfl) (Free.o hK hS ?_); exact rfl)
  exact Free.nil
  clear hvo
  intro w' hS; intro v0; intro v1; intro v2; intro v3; intro v4; intro v5; intro v6; intro v7; intro v8; intro v9; intro v10; intro v11 h11; (rintro _ rfl); (try simp only [Act.put, List.setIfInBounds_toArray, List.set_cons_zero, List.set_cons_succ]); refine Free.toldE_nil ?_
  obtain ⟨A, c, rfl, _, _⟩ := OB.form h11
  go_wp2
  go_ret2
  refine ⟨_, rfl, ?_, hbl1.trans (hS.mono (by omega))⟩
  rw [HE.out]
  exact OB.mono h11 (fun k hk => by have := (OB.lt h11 k hk).1; omega)
end Go.Proofs.Ytfldmejjepakeaa
