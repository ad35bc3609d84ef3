/- Contracts of values: Parse of texts. -/
import Derived.Test.YtplpidpbfljpnaaVal9
namespace Go.Proofs.Ytplpidpbfljpnaa
open Go.ChangeShapes Go.WideShapes Go.ChangeAt Go.RowKit
open Go.ChangeMaps (open_string shut_string)
set_option linter.unusedVariables false
set_option linter.unusedSimpArgs false

set_option maxHeartbeats 4000000 in
set_option maxRecDepth 100000 in
theorem parse_big (a z : UInt8) (mid : List UInt8) (w : World) (h : mid.length = 8) (hz9 : 9 < z.toNat) :
    Calls Try.prog 36 #[.string (str (a :: (mid ++ [z])))] w fun e w' => e = pkRet (pkOk a mid z) a 2 0 mid ∧ Below w.heap.size w w' := by
  have hz : (str (a :: (mid ++ [z]))).size = 10 := by rw [str_size]; simp [h]
  have h0 := key_at0 a z mid h (by rw [hz]; omega)
  have h9 := key_at9 a z mid h (by rw [hz]; omega)
  have hc := key_cut a z mid h 9 (by omega)
  rw [List.take_of_length_le (by omega)] at hc
  have hwa : IntKind.i64.wrap (a.toNat : Int) = (a.toNat : Int) := IntWalk.i64_in _ (by have := a.toNat_lt; omega)
  have hb0 : Below w.heap.size w (w.alloc (.cells #[.int .i64 0, .int .i64 0, .string { data := #[] }] 35)) := (by repeat (first | exact Below.refl _ _ | assumption | apply below_drewN' | apply Below.drew | refine Below.alloc ?_ (by first | omega | (simp; done) | (simp; omega)) _ | refine Below.setCell ?_ (by first | omega | (simp; done) | (simp; omega)) _))
  have hR0 := Blk.new w #[.int .i64 0, .int .i64 0, .string { data := #[] }] 35
  have hz0 : z ≠ 0 := fun e => by rw [e] at hz9; exact absurd hz9 (by decide)
  have hwz : IntKind.i64.wrap (z.toNat : Int) = (z.toNat : Int) := IntWalk.i64_in _ (by have := z.toNat_lt; omega)
  have HK := fun w => key_any a.toNat 2 0 (mid) w
  have HO := pkOk_key a mid z
  have hs : mid.take (min z.toNat 9 - 1) = mid := by (rw [show min z.toNat 9 = 9 by omega]); exact List.take_of_length_le (by omega)
  simp only [pkK, pkN, pkS, if_neg hz0, hs] at HO
  skip
  generalize hk : a :: (mid ++ [z]) = key at *
  clear hs
  generalize keyT a.toNat 2 0 (mid) = T at *
  generalize keyE a.toNat 2 0 (mid) = E at *
  have hzi1 : 0 < (z.toNat : Int) := by omega
  have hzi : 9 < (z.toNat : Int) := by omega
  go_enter Try.func36, Try.ntmps36
  go_wp2_with fail
  generalize w.alloc (.cells #[.int .i64 0, .int .i64 0, .string { data := #[] }] 35) = W0 at *
  have hlt0 := hR0.lt
  refine Free.wp_facts (M := [0, 1, 3, 0, 8, 24, 7, 127]) (D := [[], [(0, 14)], [(1, 15)], [], [(3, 17)], [(4, 18)], [(2, 16)], [(5, 19)]]) (outs := [6, 7]) (soles := []) (E := [(0, 14, false), (1, 15, false), (2, 16, false), (3, 17, false), (4, 18, false), (5, 19, false), (6, 5, true), (7, 6, true)]) (N := 49) (S := (fun w' => Below W0.heap.size W0 w')) [Free.Fact.is ?_, Free.Fact.is ?_, Free.Fact.is ?_, Free.Fact.is ?_, Free.Fact.is ?_, Free.Fact.is ?_, Free.Fact.is ?_, Free.Fact.is ?_] (by kernel_rfl) (by kernel_rfl) rfl ((Below.refl _ _).drew) ?_ ?_
  rotate_left 8
  refine Free.cons ?_ ?_
  · intro w' hS; intro K hK; (try simp only [Act.put, List.setIfInBounds_toArray, List.set_cons_zero, List.set_cons_succ]); first | (refine Free.run_yes (by rfl) ?_; go_simp; simp only [Free.valOf, Act.put, List.setIfInBounds_toArray, List.set_cons_zero, List.set_cons_succ, Array.getD_eq_getD_getElem?, List.getElem?_toArray, List.getElem?_cons_succ, List.getElem?_cons_zero, Option.getD_some]; refine hK.out _ _ ?_ hS (.inr (Below.refl _ _)); first | exact rfl | assumption) | (refine Free.run_no (by rfl) ?_; refine hK.out _ _ ?_ hS (.inr (Below.refl _ _)); exact rfl)
  refine Free.cons ?_ ?_
  · intro w' hS; (rintro _ rfl); intro K hK; (try simp only [Act.put, List.setIfInBounds_toArray, List.set_cons_zero, List.set_cons_succ]); first | (refine Free.run_yes (by rfl) ?_; go_simp; simp only [Free.valOf, Act.put, List.setIfInBounds_toArray, List.set_cons_zero, List.set_cons_succ, Array.getD_eq_getD_getElem?, List.getElem?_toArray, List.getElem?_cons_succ, List.getElem?_cons_zero, Option.getD_some]; refine hK.out _ _ ?_ hS (.inr (Below.refl _ _)); first | exact rfl | assumption) | (refine Free.run_no (by rfl) ?_; refine hK.out _ _ ?_ hS (.inr (Below.refl _ _)); exact rfl)
  refine Free.cons ?_ ?_
  · intro w' hS; (rintro _ rfl); intro K hK; (try simp only [Act.put, List.setIfInBounds_toArray, List.set_cons_zero, List.set_cons_succ]); first | (refine Free.run_yes (by rfl) ?_; go_simp; simp only [Free.valOf, Act.put, List.setIfInBounds_toArray, List.set_cons_zero, List.set_cons_succ, Array.getD_eq_getD_getElem?, List.getElem?_toArray, List.getElem?_cons_succ, List.getElem?_cons_zero, Option.getD_some]; refine hK.out _ _ ?_ hS (.inr (Below.refl _ _)); first | exact rfl | assumption) | (refine Free.run_no (by rfl) ?_; refine hK.out _ _ ?_ hS (.inr (Below.refl _ _)); exact rfl)
  refine Free.cons ?_ ?_
  · intro w' hS; intro K hK; (try simp only [Act.put, List.setIfInBounds_toArray, List.set_cons_zero, List.set_cons_succ]); first | (refine Free.run_yes (by rfl) ?_; go_simp; simp only [Free.valOf, Act.put, List.setIfInBounds_toArray, List.set_cons_zero, List.set_cons_succ, Array.getD_eq_getD_getElem?, List.getElem?_toArray, List.getElem?_cons_succ, List.getElem?_cons_zero, Option.getD_some]; refine hK.out _ _ ?_ hS (.inr (Below.refl _ _)); first | exact rfl | assumption) | (refine Free.run_no (by rfl) ?_; refine hK.out _ _ ?_ hS (.inr (Below.refl _ _)); exact rfl)
  refine Free.cons ?_ ?_
  · intro w' hS; (rintro _ rfl); intro K hK; (try simp only [Act.put, List.setIfInBounds_toArray, List.set_cons_zero, List.set_cons_succ]); first | (refine Free.run_yes (by rfl) ?_; go_simp; simp only [Free.valOf, Act.put, List.setIfInBounds_toArray, List.set_cons_zero, List.set_cons_succ, Array.getD_eq_getD_getElem?, List.getElem?_toArray, List.getElem?_cons_succ, List.getElem?_cons_zero, Option.getD_some]; refine hK.out _ _ ?_ hS (.inr (Below.refl _ _)); first | exact rfl | assumption) | (refine Free.run_no (by rfl) ?_; refine hK.out _ _ ?_ hS (.inr (Below.refl _ _)); exact rfl)
  refine Free.cons ?_ ?_
  · intro w' hS; (rintro _ rfl); intro K hK; (try simp only [Act.put, List.setIfInBounds_toArray, List.set_cons_zero, List.set_cons_succ]); first | (refine Free.run_yes (by rfl) ?_; go_simp; simp only [Free.valOf, Act.put, List.setIfInBounds_toArray, List.set_cons_zero, List.set_cons_succ, Array.getD_eq_getD_getElem?, List.getElem?_toArray, List.getElem?_cons_succ, List.getElem?_cons_zero, Option.getD_some]; refine hK.out _ _ ?_ hS (.inr (Below.refl _ _)); first | exact rfl | assumption) | (refine Free.run_no (by rfl) ?_; refine hK.out _ _ ?_ hS (.inr (Below.refl _ _)); exact rfl)
  refine Free.cons ?_ ?_
  · intro w' hS; (rintro _ rfl); intro K hK; (try simp only [Act.put, List.setIfInBounds_toArray, List.set_cons_zero, List.set_cons_succ]); first | (refine Free.run_yes (by rfl) ?_; go_simp; simp only [Free.valOf, Act.put, List.setIfInBounds_toArray, List.set_cons_zero, List.set_cons_succ, Array.getD_eq_getD_getElem?, List.getElem?_toArray, List.getElem?_cons_succ, List.getElem?_cons_zero, Option.getD_some]; refine hK.out _ _ ?_ hS (.inr (Below.refl _ _)); first | exact rfl | assumption) | (refine Free.run_no (by rfl) ?_; refine hK.out _ _ ?_ hS (.inr (Below.refl _ _)); exact rfl)
  refine Free.cons ?_ ?_
  · intro w' hS; (rintro _ rfl); intro K hK; (try simp only [Act.put, List.setIfInBounds_toArray, List.set_cons_zero, List.set_cons_succ]); first | (refine Free.run_yes (by rfl) ?_; go_simp; simp only [Free.valOf, Act.put, List.setIfInBounds_toArray, List.set_cons_zero, List.set_cons_succ, Array.getD_eq_getD_getElem?, List.getElem?_toArray, List.getElem?_cons_succ, List.getElem?_cons_zero, Option.getD_some]; refine hK.out _ _ ?_ hS (.inr (Below.refl _ _)); first | exact rfl | assumption) | (refine Free.run_no (by rfl) ?_; refine hK.out _ _ ?_ hS (.inr (Below.refl _ _)); exact rfl)
  exact Free.nil
  intro w' hS; intro v0; intro v1; intro v2; intro v3; intro v4; intro v5; (rintro _ rfl); (rintro _ rfl); (try simp only [Act.put, List.setIfInBounds_toArray, List.set_cons_zero, List.set_cons_succ]); refine Free.toldE_nil ?_
  have hR1 := hR0.below hS hlt0
  have q1 := hS.size
  have hq : wrap64 (bits .xor .u64 (numB mid) 9223372036854775808) = sgnV (numB mid) := by unfold sgnV; rfl
  go_wp2_with fail
  refine (val_number mid _ (by omega)).mono ?_
  rintro e w1 ⟨rfl, hb1⟩
  have hR2 := hR1.below hb1 hR1.lt
  have q2 := hb1.size
  have b2 : Below w.heap.size w w1 := hb0.trans ((hS.next hb1 (Nat.le_refl _)).mono (by omega))
  go_wp2_with fail
  refine (HK _).mono ?_
  rintro e w3 ⟨rfl, hb3⟩
  have hR3 := (hR2.alloc (.cells #[.int .i64 (2), .int .i64 (0), .string (str (mid))] 35)).below hb3 (by have := hR2.lt; simp; omega)
  have hV3 := (Blk.new w1 #[.int .i64 (2), .int .i64 (0), .string (str (mid))] 35).below hb3 (by simp)
  have b3 := (b2.alloc (by have := b2.size; omega) (.cells #[.int .i64 (2), .int .i64 (0), .string (str (mid))] 35)).trans (hb3.mono (by have := b2.size; simp; omega))
  have q3 := hR3.lt
  have q4 := hV3.lt
  have v0 := hV3.cell 0 (v := .int .i64 (2)) rfl
  have v1 := hV3.cell 1 (v := .int .i64 (0)) rfl
  have v2 := hV3.cell 2 (v := .string (str (mid))) rfl
  have f0 := hR3.fz 0
  have f1 := hR3.fz 1
  have f2 := hR3.fz 2
  have r0 := hR3.cell 0 (v := .int .i64 0) rfl
  have r1 := hR3.cell 1 (v := .int .i64 0) rfl
  have r2 := hR3.cell 2 (v := .string { data := #[] }) rfl
  have T1 := str_list T
  have T2 := str_list key
  by_cases hE : E = 0
  · subst hE
    by_cases hT : T = key
    · subst hT
      have hok := Lib.hid (show pkOk a mid (z) = true by rw [HO]; simp)
      have hF := ((hR3.set 0 (.int .i64 (2))).set 1 (.int .i64 (0))).set 2 (.string (str (mid)))
      have bF : Below w.heap.size w (((w3.setCell ⟨w.heap.size, 0, none⟩ (.int .i64 (2))).setCell ⟨w.heap.size, 1, none⟩ (.int .i64 (0))).setCell ⟨w.heap.size, 2, none⟩ (.string (str (mid)))) := (by repeat (first | exact Below.refl _ _ | assumption | apply below_drewN' | apply Below.drew | refine Below.alloc ?_ (by first | omega | (simp; done) | (simp; omega)) _ | refine Below.setCell ?_ (by first | omega | (simp; done) | (simp; omega)) _))
      clear HK HO hR2 hR3 hV3 hb1 hb3 b2 hR1 hR0 hS
      go_wp2_with fail
      go_region
      all_goals go_wp2
      all_goals generalize ((w3.setCell ⟨w.heap.size, 0, none⟩ (.int .i64 (2))).setCell ⟨w.heap.size, 1, none⟩ (.int .i64 (0))).setCell ⟨w.heap.size, 2, none⟩ (.string (str (mid))) = WF at *
      all_goals
        have k0 := hF.cell 0 (v := .int .i64 (2)) rfl
        have k1 := hF.cell 1 (v := .int .i64 (0)) rfl
        have k2 := hF.cell 2 (v := .string (str (mid))) rfl
        refine bodyPost_ret (v := .tuple #[.int .i64 a.toNat, .agg #[.int .i64 (2), .int .i64 (0), .string (str (mid))], .int .i64 0]) (by simp [results, Try.results36, go_sem, k0, k1, k2]) rfl ⟨?_, bF.drew⟩
        rw [hok.out]; rfl
    · have hne : (T == key) = false := by rw [beq_eq_false_iff_ne]; exact hT
      have hok := Lib.hid (show pkOk a mid (z) = false by rw [HO, hne]; simp)
      clear HK HO hR2 hV3 hb1 hb3 b2 hR1 hR0 hS hT
      go_wp2
      have hF := ((hR3.set 0 (.int .i64 0)).set 1 (.int .i64 0)).set 2 (.string { data := #[] })
      have bF : Below w.heap.size w (((w3.setCell ⟨w.heap.size, 0, none⟩ (.int .i64 0)).setCell ⟨w.heap.size, 1, none⟩ (.int .i64 0)).setCell ⟨w.heap.size, 2, none⟩ (.string { data := #[] })) := (by repeat (first | exact Below.refl _ _ | assumption | apply below_drewN' | apply Below.drew | refine Below.alloc ?_ (by first | omega | (simp; done) | (simp; omega)) _ | refine Below.setCell ?_ (by first | omega | (simp; done) | (simp; omega)) _))
      generalize ((w3.setCell ⟨w.heap.size, 0, none⟩ (.int .i64 0)).setCell ⟨w.heap.size, 1, none⟩ (.int .i64 0)).setCell ⟨w.heap.size, 2, none⟩ (.string { data := #[] }) = WF at *
      have k0 := hF.cell 0 (v := .int .i64 0) rfl
      have k1 := hF.cell 1 (v := .int .i64 0) rfl
      have k2 := hF.cell 2 (v := .string { data := #[] }) rfl
      refine bodyPost_ret (v := .tuple #[.int .i64 0, .agg #[.int .i64 0, .int .i64 0, .string { data := #[] }], .int .i64 2]) (by simp [results, Try.results36, go_sem, k0, k1, k2]) rfl ⟨?_, bF⟩
      rw [hok.out]; rfl
  · have hne : (E != 0) = true := by rw [bne_iff_ne]; exact hE
    have hok := Lib.hid (show pkOk a mid (z) = false by rw [HO]; simp [hE])
    clear HK HO hR2 hV3 hb1 hb3 b2 hR1 hR0 hS
    · go_wp2
      have hF := ((hR3.set 0 (.int .i64 0)).set 1 (.int .i64 0)).set 2 (.string { data := #[] })
      have bF : Below w.heap.size w (((w3.setCell ⟨w.heap.size, 0, none⟩ (.int .i64 0)).setCell ⟨w.heap.size, 1, none⟩ (.int .i64 0)).setCell ⟨w.heap.size, 2, none⟩ (.string { data := #[] })) := (by repeat (first | exact Below.refl _ _ | assumption | apply below_drewN' | apply Below.drew | refine Below.alloc ?_ (by first | omega | (simp; done) | (simp; omega)) _ | refine Below.setCell ?_ (by first | omega | (simp; done) | (simp; omega)) _))
      generalize ((w3.setCell ⟨w.heap.size, 0, none⟩ (.int .i64 0)).setCell ⟨w.heap.size, 1, none⟩ (.int .i64 0)).setCell ⟨w.heap.size, 2, none⟩ (.string { data := #[] }) = WF at *
      have k0 := hF.cell 0 (v := .int .i64 0) rfl
      have k1 := hF.cell 1 (v := .int .i64 0) rfl
      have k2 := hF.cell 2 (v := .string { data := #[] }) rfl
      refine bodyPost_ret (v := .tuple #[.int .i64 0, .agg #[.int .i64 0, .int .i64 0, .string { data := #[] }], .int .i64 2]) (by simp [results, Try.results36, go_sem, k0, k1, k2]) rfl ⟨?_, bF⟩
      rw [hok.out]; rfl

set_option maxHeartbeats 4000000 in
set_option maxRecDepth 100000 in
theorem parse_small (a z : UInt8) (mid : List UInt8) (w : World) (h : mid.length = 8) (hz9 : 1 ≤ z.toNat ∧ z.toNat ≤ 9) :
    Calls Try.prog 36 #[.string (str (a :: (mid ++ [z])))] w fun e w' => e = pkRet (pkOk a mid z) a 2 0 (mid.take (z.toNat - 1)) ∧ Below w.heap.size w w' := by
  have hz : (str (a :: (mid ++ [z]))).size = 10 := by rw [str_size]; simp [h]
  have h0 := key_at0 a z mid h (by rw [hz]; omega)
  have h9 := key_at9 a z mid h (by rw [hz]; omega)
  have hc := key_cut a z mid h 9 (by omega)
  rw [List.take_of_length_le (by omega)] at hc
  have hwa : IntKind.i64.wrap (a.toNat : Int) = (a.toNat : Int) := IntWalk.i64_in _ (by have := a.toNat_lt; omega)
  have hb0 : Below w.heap.size w (w.alloc (.cells #[.int .i64 0, .int .i64 0, .string { data := #[] }] 35)) := (by repeat (first | exact Below.refl _ _ | assumption | apply below_drewN' | apply Below.drew | refine Below.alloc ?_ (by first | omega | (simp; done) | (simp; omega)) _ | refine Below.setCell ?_ (by first | omega | (simp; done) | (simp; omega)) _))
  have hR0 := Blk.new w #[.int .i64 0, .int .i64 0, .string { data := #[] }] 35
  have hz0 : z ≠ 0 := fun e => by rw [e] at hz9; exact absurd hz9 (by decide)
  have hwz : IntKind.i64.wrap (z.toNat : Int) = (z.toNat : Int) := IntWalk.i64_in _ (by have := z.toNat_lt; omega)
  have HK := fun w => key_any a.toNat 2 0 (mid.take (z.toNat - 1)) w
  have HO := pkOk_key a mid z
  have hs : mid.take (min z.toNat 9 - 1) = mid.take (z.toNat - 1) := by (rw [show min z.toNat 9 = z.toNat by omega]); skip
  simp only [pkK, pkN, pkS, if_neg hz0, hs] at HO
  have hcj := key_cut a z mid h z.toNat hz9.2
  generalize hk : a :: (mid ++ [z]) = key at *
  clear hs; generalize hs : mid.take (z.toNat - 1) = s at *
  generalize keyT a.toNat 2 0 (s) = T at *
  generalize keyE a.toNat 2 0 (s) = E at *
  have hzi1 : 0 < (z.toNat : Int) := by omega
  have hzi : (z.toNat : Int) ≤ 9 := by omega
  go_enter Try.func36, Try.ntmps36
  go_wp2_with fail
  generalize w.alloc (.cells #[.int .i64 0, .int .i64 0, .string { data := #[] }] 35) = W0 at *
  have hlt0 := hR0.lt
  refine Free.wp_facts (M := [0, 1, 3, 0, 8, 24, 7, 127]) (D := [[], [(0, 14)], [(1, 15)], [], [(3, 17)], [(4, 18)], [(2, 16)], [(5, 19)]]) (outs := [6, 7]) (soles := []) (E := [(0, 14, false), (1, 15, false), (2, 16, false), (3, 17, false), (4, 18, false), (5, 19, false), (6, 5, true), (7, 6, true)]) (N := 49) (S := (fun w' => Below W0.heap.size W0 w')) [Free.Fact.is ?_, Free.Fact.is ?_, Free.Fact.is ?_, Free.Fact.is ?_, Free.Fact.is ?_, Free.Fact.is ?_, Free.Fact.is ?_, Free.Fact.is ?_] (by kernel_rfl) (by kernel_rfl) rfl ((Below.refl _ _).drew) ?_ ?_
  rotate_left 8
  refine Free.cons ?_ ?_
  · intro w' hS; intro K hK; (try simp only [Act.put, List.setIfInBounds_toArray, List.set_cons_zero, List.set_cons_succ]); first | (refine Free.run_yes (by rfl) ?_; go_simp; simp only [Free.valOf, Act.put, List.setIfInBounds_toArray, List.set_cons_zero, List.set_cons_succ, Array.getD_eq_getD_getElem?, List.getElem?_toArray, List.getElem?_cons_succ, List.getElem?_cons_zero, Option.getD_some]; refine hK.out _ _ ?_ hS (.inr (Below.refl _ _)); first | exact rfl | assumption) | (refine Free.run_no (by rfl) ?_; refine hK.out _ _ ?_ hS (.inr (Below.refl _ _)); exact rfl)
  refine Free.cons ?_ ?_
  · intro w' hS; (rintro _ rfl); intro K hK; (try simp only [Act.put, List.setIfInBounds_toArray, List.set_cons_zero, List.set_cons_succ]); first | (refine Free.run_yes (by rfl) ?_; go_simp; simp only [Free.valOf, Act.put, List.setIfInBounds_toArray, List.set_cons_zero, List.set_cons_succ, Array.getD_eq_getD_getElem?, List.getElem?_toArray, List.getElem?_cons_succ, List.getElem?_cons_zero, Option.getD_some]; refine hK.out _ _ ?_ hS (.inr (Below.refl _ _)); first | exact rfl | assumption) | (refine Free.run_no (by rfl) ?_; refine hK.out _ _ ?_ hS (.inr (Below.refl _ _)); exact rfl)
  refine Free.cons ?_ ?_
  · intro w' hS; (rintro _ rfl); intro K hK; (try simp only [Act.put, List.setIfInBounds_toArray, List.set_cons_zero, List.set_cons_succ]); first | (refine Free.run_yes (by rfl) ?_; go_simp; simp only [Free.valOf, Act.put, List.setIfInBounds_toArray, List.set_cons_zero, List.set_cons_succ, Array.getD_eq_getD_getElem?, List.getElem?_toArray, List.getElem?_cons_succ, List.getElem?_cons_zero, Option.getD_some]; refine hK.out _ _ ?_ hS (.inr (Below.refl _ _)); first | exact rfl | assumption) | (refine Free.run_no (by rfl) ?_; refine hK.out _ _ ?_ hS (.inr (Below.refl _ _)); exact rfl)
  refine Free.cons ?_ ?_
  · intro w' hS; intro K hK; (try simp only [Act.put, List.setIfInBounds_toArray, List.set_cons_zero, List.set_cons_succ]); first | (refine Free.run_yes (by rfl) ?_; go_simp; simp only [Free.valOf, Act.put, List.setIfInBounds_toArray, List.set_cons_zero, List.set_cons_succ, Array.getD_eq_getD_getElem?, List.getElem?_toArray, List.getElem?_cons_succ, List.getElem?_cons_zero, Option.getD_some]; refine hK.out _ _ ?_ hS (.inr (Below.refl _ _)); first | exact rfl | assumption) | (refine Free.run_no (by rfl) ?_; refine hK.out _ _ ?_ hS (.inr (Below.refl _ _)); exact rfl)
  refine Free.cons ?_ ?_
  · intro w' hS; (rintro _ rfl); intro K hK; (try simp only [Act.put, List.setIfInBounds_toArray, List.set_cons_zero, List.set_cons_succ]); first | (refine Free.run_yes (by rfl) ?_; go_simp; simp only [Free.valOf, Act.put, List.setIfInBounds_toArray, List.set_cons_zero, List.set_cons_succ, Array.getD_eq_getD_getElem?, List.getElem?_toArray, List.getElem?_cons_succ, List.getElem?_cons_zero, Option.getD_some]; refine hK.out _ _ ?_ hS (.inr (Below.refl _ _)); first | exact rfl | assumption) | (refine Free.run_no (by rfl) ?_; refine hK.out _ _ ?_ hS (.inr (Below.refl _ _)); exact rfl)
  refine Free.cons ?_ ?_
  · intro w' hS; (rintro _ rfl); intro K hK; (try simp only [Act.put, List.setIfInBounds_toArray, List.set_cons_zero, List.set_cons_succ]); first | (refine Free.run_yes (by rfl) ?_; go_simp; simp only [Free.valOf, Act.put, List.setIfInBounds_toArray, List.set_cons_zero, List.set_cons_succ, Array.getD_eq_getD_getElem?, List.getElem?_toArray, List.getElem?_cons_succ, List.getElem?_cons_zero, Option.getD_some]; refine hK.out _ _ ?_ hS (.inr (Below.refl _ _)); first | exact rfl | assumption) | (refine Free.run_no (by rfl) ?_; refine hK.out _ _ ?_ hS (.inr (Below.refl _ _)); exact rfl)
  refine Free.cons ?_ ?_
  · intro w' hS; (rintro _ rfl); intro K hK; (try simp only [Act.put, List.setIfInBounds_toArray, List.set_cons_zero, List.set_cons_succ]); first | (refine Free.run_yes (by rfl) ?_; go_simp; simp only [Free.valOf, Act.put, List.setIfInBounds_toArray, List.set_cons_zero, List.set_cons_succ, Array.getD_eq_getD_getElem?, List.getElem?_toArray, List.getElem?_cons_succ, List.getElem?_cons_zero, Option.getD_some]; refine hK.out _ _ ?_ hS (.inr (Below.refl _ _)); first | exact rfl | assumption) | (refine Free.run_no (by rfl) ?_; refine hK.out _ _ ?_ hS (.inr (Below.refl _ _)); exact rfl)
  refine Free.cons ?_ ?_
  · intro w' hS; (rintro _ rfl); intro K hK; (try simp only [Act.put, List.setIfInBounds_toArray, List.set_cons_zero, List.set_cons_succ]); first | (refine Free.run_yes (by rfl) ?_; go_simp; simp only [Free.valOf, Act.put, List.setIfInBounds_toArray, List.set_cons_zero, List.set_cons_succ, Array.getD_eq_getD_getElem?, List.getElem?_toArray, List.getElem?_cons_succ, List.getElem?_cons_zero, Option.getD_some]; refine hK.out _ _ ?_ hS (.inr (Below.refl _ _)); first | exact rfl | assumption) | (refine Free.run_no (by rfl) ?_; refine hK.out _ _ ?_ hS (.inr (Below.refl _ _)); exact rfl)
  exact Free.nil
  intro w' hS; intro v0; intro v1; intro v2; intro v3; intro v4; intro v5; (rintro _ rfl); (rintro _ rfl); (try simp only [Act.put, List.setIfInBounds_toArray, List.set_cons_zero, List.set_cons_succ]); refine Free.toldE_nil ?_
  have hR1 := hR0.below hS hlt0
  have q1 := hS.size
  have hq : wrap64 (bits .xor .u64 (numB mid) 9223372036854775808) = sgnV (numB mid) := by unfold sgnV; rfl
  go_wp2_with fail
  refine (val_number mid _ (by omega)).mono ?_
  rintro e w1 ⟨rfl, hb1⟩
  have hR2 := hR1.below hb1 hR1.lt
  have q2 := hb1.size
  have b2 : Below w.heap.size w w1 := hb0.trans ((hS.next hb1 (Nat.le_refl _)).mono (by omega))
  go_wp2_with fail
  refine (HK _).mono ?_
  rintro e w3 ⟨rfl, hb3⟩
  have hR3 := (hR2.alloc (.cells #[.int .i64 (2), .int .i64 (0), .string (str (s))] 35)).below hb3 (by have := hR2.lt; simp; omega)
  have hV3 := (Blk.new w1 #[.int .i64 (2), .int .i64 (0), .string (str (s))] 35).below hb3 (by simp)
  have b3 := (b2.alloc (by have := b2.size; omega) (.cells #[.int .i64 (2), .int .i64 (0), .string (str (s))] 35)).trans (hb3.mono (by have := b2.size; simp; omega))
  have q3 := hR3.lt
  have q4 := hV3.lt
  have v0 := hV3.cell 0 (v := .int .i64 (2)) rfl
  have v1 := hV3.cell 1 (v := .int .i64 (0)) rfl
  have v2 := hV3.cell 2 (v := .string (str (s))) rfl
  have f0 := hR3.fz 0
  have f1 := hR3.fz 1
  have f2 := hR3.fz 2
  have r0 := hR3.cell 0 (v := .int .i64 0) rfl
  have r1 := hR3.cell 1 (v := .int .i64 0) rfl
  have r2 := hR3.cell 2 (v := .string { data := #[] }) rfl
  have T1 := str_list T
  have T2 := str_list key
  by_cases hE : E = 0
  · subst hE
    by_cases hT : T = key
    · subst hT
      have hok := Lib.hid (show pkOk a mid (z) = true by rw [HO]; simp)
      have hF := ((hR3.set 0 (.int .i64 (2))).set 1 (.int .i64 (0))).set 2 (.string (str (s)))
      have bF : Below w.heap.size w (((w3.setCell ⟨w.heap.size, 0, none⟩ (.int .i64 (2))).setCell ⟨w.heap.size, 1, none⟩ (.int .i64 (0))).setCell ⟨w.heap.size, 2, none⟩ (.string (str (s)))) := (by repeat (first | exact Below.refl _ _ | assumption | apply below_drewN' | apply Below.drew | refine Below.alloc ?_ (by first | omega | (simp; done) | (simp; omega)) _ | refine Below.setCell ?_ (by first | omega | (simp; done) | (simp; omega)) _))
      clear HK HO hR2 hR3 hV3 hb1 hb3 b2 hR1 hR0 hS
      go_wp2_with fail
      go_region
      all_goals go_wp2
      all_goals generalize ((w3.setCell ⟨w.heap.size, 0, none⟩ (.int .i64 (2))).setCell ⟨w.heap.size, 1, none⟩ (.int .i64 (0))).setCell ⟨w.heap.size, 2, none⟩ (.string (str (s))) = WF at *
      all_goals
        have k0 := hF.cell 0 (v := .int .i64 (2)) rfl
        have k1 := hF.cell 1 (v := .int .i64 (0)) rfl
        have k2 := hF.cell 2 (v := .string (str (s))) rfl
        refine bodyPost_ret (v := .tuple #[.int .i64 a.toNat, .agg #[.int .i64 (2), .int .i64 (0), .string (str (s))], .int .i64 0]) (by simp [results, Try.results36, go_sem, k0, k1, k2]) rfl ⟨?_, bF.drew⟩
        rw [hok.out]; rfl
    · have hne : (T == key) = false := by rw [beq_eq_false_iff_ne]; exact hT
      have hok := Lib.hid (show pkOk a mid (z) = false by rw [HO, hne]; simp)
      clear HK HO hR2 hV3 hb1 hb3 b2 hR1 hR0 hS hT
      go_wp2
      have hF := ((hR3.set 0 (.int .i64 0)).set 1 (.int .i64 0)).set 2 (.string { data := #[] })
      have bF : Below w.heap.size w (((w3.setCell ⟨w.heap.size, 0, none⟩ (.int .i64 0)).setCell ⟨w.heap.size, 1, none⟩ (.int .i64 0)).setCell ⟨w.heap.size, 2, none⟩ (.string { data := #[] })) := (by repeat (first | exact Below.refl _ _ | assumption | apply below_drewN' | apply Below.drew | refine Below.alloc ?_ (by first | omega | (simp; done) | (simp; omega)) _ | refine Below.setCell ?_ (by first | omega | (simp; done) | (simp; omega)) _))
      generalize ((w3.setCell ⟨w.heap.size, 0, none⟩ (.int .i64 0)).setCell ⟨w.heap.size, 1, none⟩ (.int .i64 0)).setCell ⟨w.heap.size, 2, none⟩ (.string { data := #[] }) = WF at *
      have k0 := hF.cell 0 (v := .int .i64 0) rfl
      have k1 := hF.cell 1 (v := .int .i64 0) rfl
      have k2 := hF.cell 2 (v := .string { data := #[] }) rfl
      refine bodyPost_ret (v := .tuple #[.int .i64 0, .agg #[.int .i64 0, .int .i64 0, .string { data := #[] }], .int .i64 2]) (by simp [results, Try.results36, go_sem, k0, k1, k2]) rfl ⟨?_, bF⟩
      rw [hok.out]; rfl
  · have hne : (E != 0) = true := by rw [bne_iff_ne]; exact hE
    have hok := Lib.hid (show pkOk a mid (z) = false by rw [HO]; simp [hE])
    clear HK HO hR2 hV3 hb1 hb3 b2 hR1 hR0 hS
    · go_wp2
      have hF := ((hR3.set 0 (.int .i64 0)).set 1 (.int .i64 0)).set 2 (.string { data := #[] })
      have bF : Below w.heap.size w (((w3.setCell ⟨w.heap.size, 0, none⟩ (.int .i64 0)).setCell ⟨w.heap.size, 1, none⟩ (.int .i64 0)).setCell ⟨w.heap.size, 2, none⟩ (.string { data := #[] })) := (by repeat (first | exact Below.refl _ _ | assumption | apply below_drewN' | apply Below.drew | refine Below.alloc ?_ (by first | omega | (simp; done) | (simp; omega)) _ | refine Below.setCell ?_ (by first | omega | (simp; done) | (simp; omega)) _))
      generalize ((w3.setCell ⟨w.heap.size, 0, none⟩ (.int .i64 0)).setCell ⟨w.heap.size, 1, none⟩ (.int .i64 0)).setCell ⟨w.heap.size, 2, none⟩ (.string { data := #[] }) = WF at *
      have k0 := hF.cell 0 (v := .int .i64 0) rfl
      have k1 := hF.cell 1 (v := .int .i64 0) rfl
      have k2 := hF.cell 2 (v := .string { data := #[] }) rfl
      refine bodyPost_ret (v := .tuple #[.int .i64 0, .agg #[.int .i64 0, .int .i64 0, .string { data := #[] }], .int .i64 2]) (by simp [results, Try.results36, go_sem, k0, k1, k2]) rfl ⟨?_, bF⟩
      rw [hok.out]; rfl
end Go.Proofs.Ytplpidpbfljpnaa
