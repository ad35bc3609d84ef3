/- Contracts of values: the document's ParseKey. -/
import Derived.Test.YtplpidpbfljpnaaVal10
namespace Go.Proofs.Ytplpidpbfljpnaa
open Go.ChangeShapes Go.WideShapes Go.ChangeAt Go.RowKit
open Go.ChangeMaps (open_string shut_string)
set_option linter.unusedVariables false
set_option linter.unusedSimpArgs false

theorem rparse_short (l : List UInt8) (w : World) (h : l.length ≠ 10) (hl : l.length ≤ 1099511627776) :
    Calls Try.prog 37 #[.string (str l)] w fun e w' => e = .returned (.tuple #[.int .i64 0, .agg #[.int .i64 0, .int .i64 0, .string (str [])], .int .i64 2]) ∧ Below w.heap.size w w' := by
  have hz := str_size l
  have hne : ((l.length : Int) != 10) = true := by rw [bne_iff_ne]; omega
  go_enter Try.func37, Try.ntmps37
  go_wp2
  refine bodyPost_ret (v := .tuple #[.int .i64 0, .agg #[.int .i64 0, .int .i64 0, .string (str [])], .int .i64 2]) (by simp [results, Try.results37, go_sem, str]) rfl ⟨rfl, (by repeat (first | exact Below.refl _ _ | assumption | apply below_drewN' | apply Below.drew | refine Below.alloc ?_ (by first | omega | (simp; done) | (simp; omega)) _ | refine Below.setCell ?_ (by first | omega | (simp; done) | (simp; omega)) _))⟩


set_option maxHeartbeats 1000000 in
set_option maxRecDepth 100000 in
theorem rparse_int (a : UInt8) (mid : List UInt8) (w : World) (h : mid.length = 8) :
    Calls Try.prog 37 #[.string (str (a :: (mid ++ [0])))] w fun e w' => e = pkRet (pkOk a mid 0) a 1 (sgnV (numB mid)) [] ∧ Below w.heap.size w w' := by
  have hz : (str (a :: (mid ++ [0]))).size = 10 := by rw [str_size]; simp [h]
  have h0 := key_at0 a 0 mid h (by rw [hz]; omega)
  have h9 := key_at9 a 0 mid h (by rw [hz]; omega)
  have hc := key_cut a 0 mid h 9 (by omega)
  rw [List.take_of_length_le (by omega)] at hc
  have hcv := fun w => conv_str w mid
  rw [h] at hcv
  have hwa : IntKind.i64.wrap (a.toNat : Int) = (a.toNat : Int) := IntWalk.i64_in _ (by have := a.toNat_lt; omega)
  have hb0 : Below w.heap.size w (w.alloc (.cells #[.int .i64 0, .int .i64 0, .string { data := #[] }] 35)) := (by repeat (first | exact Below.refl _ _ | assumption | apply below_drewN' | apply Below.drew | refine Below.alloc ?_ (by first | omega | (simp; done) | (simp; omega)) _ | refine Below.setCell ?_ (by first | omega | (simp; done) | (simp; omega)) _))
  have hR0 := Blk.new w #[.int .i64 0, .int .i64 0, .string { data := #[] }] 35
  have hw0 : IntKind.i64.wrap 0 = 0 := rfl
  have HK := fun w => rkey_any a.toNat 1 (sgnV (numB mid)) [] w
  have HO := pkOk_key a mid 0
  simp only [pkK, pkN, pkS, if_true] at HO
  generalize hk : a :: (mid ++ [0]) = key at *
  generalize keyT a.toNat 1 (sgnV (numB mid)) [] = T at *
  generalize keyE a.toNat 1 (sgnV (numB mid)) [] = E at *
  go_enter Try.func37, Try.ntmps37
  go_wp2_with fail
  have hWs : (w.alloc (.cells #[.int .i64 0, .int .i64 0, .string { data := #[] }] 35)).heap.size = w.heap.size + 1 := World.size_alloc _ _
  generalize w.alloc (.cells #[.int .i64 0, .int .i64 0, .string { data := #[] }] 35) = W0 at *
  have HWs := Lib.hid hWs
  clear hWs
  have hlt0 := hR0.lt
  have hq : wrap64 (bits .xor .u64 (numB mid) 9223372036854775808) = sgnV (numB mid) := by unfold sgnV; rfl
  have hrm := bytesWorld_rb W0 mid (by omega)
  have hbm := bytesWorld_below W0 mid
  rw [h, HWs.out] at hrm
  have hnm := fun c u h9 => ref_number (some ⟨w.heap.size + 1, 0, none⟩) c mid u h9 (by omega)
  rw [h] at hnm
  go_wp2_with fail
  refine (hnm _ _ hrm).mono ?_
  rintro e w1 ⟨rfl, rfl⟩
  have hR2 := hR0.below hbm hlt0
  have b2 : Below w.heap.size w (Lib.bytesWorld W0 5 (str mid)) := hb0.trans (hbm.mono (by omega))
  clear hnm hrm
  generalize grownCap W0 8 0 5 = CC at *
  generalize Lib.bytesWorld W0 5 (str mid) = w1 at *
  have hlt1 := hR2.lt
  go_wp2_with fail
  have hRv := hR2.alloc (.cells #[.int .i64 (1), .int .i64 (sgnV (numB mid)), .string (ByteArray.mk #[])] 35)
  have hVv := Blk.new w1 #[.int .i64 (1), .int .i64 (sgnV (numB mid)), .string (ByteArray.mk #[])] 35
  have bv9 := b2.alloc (by have := b2.size; omega) (.cells #[.int .i64 (1), .int .i64 (sgnV (numB mid)), .string (ByteArray.mk #[])] 35)
  have hRl := hRv.lt
  have hVl := hVv.lt
  generalize hWv : w1.alloc (.cells #[.int .i64 (1), .int .i64 (sgnV (numB mid)), .string (ByteArray.mk #[])] 35) = Wv at *
  have keep := fun {w' w'' : World} (h : Below Wv.heap.size Wv w') (hb : Below w'.heap.size w' w'') => h.next hb (Nat.le_refl _)
  refine Free.wp_facts (M := [0, 1, 3, 0, 15, 31, 63, 63, 127, 511]) (D := [[], [(0, 33)], [(1, 34)], [], [(2, 35), (3, 36)], [(4, 37)], [(5, 32)], [(5, 32)], [(6, 38)], [(7, 39)]]) (outs := [8, 9]) (soles := []) (E := [(0, 33, false), (1, 34, false), (2, 35, false), (3, 36, false), (4, 37, false), (5, 32, false), (6, 38, false), (7, 39, false), (8, 7, true), (9, 8, true)]) (N := 52) (S := (fun w' => Below Wv.heap.size Wv w')) [Free.Fact.is ?_, Free.Fact.is ?_, Free.Fact.is ?_, Free.Fact.is ?_, Free.Fact.is ?_, Free.Fact.is ?_, Free.Fact.is ?_, Free.Fact.is ?_, Free.Fact.is ?_, Free.Fact.is ?_] (by kernel_rfl) (by kernel_rfl) rfl ((Below.refl _ _).drew) ?_ ?_
  rotate_left 10
  refine Free.cons ?_ ?_
  · intro w' hS; intro K hK; (try simp only [Act.put, List.setIfInBounds_toArray, List.set_cons_zero, List.set_cons_succ]); have v0 := (hVv.below hS hVl).cell 0 (v := .int .i64 (1)) rfl; have v1 := (hVv.below hS hVl).cell 1 (v := .int .i64 (sgnV (numB mid))) rfl; have v2 := (hVv.below hS hVl).cell 2 (v := .string (ByteArray.mk #[])) rfl; first | (refine Free.run_yes (by rfl) ?_; go_simp; simp only [Free.valOf, Act.put, List.setIfInBounds_toArray, List.set_cons_zero, List.set_cons_succ, Array.getD_eq_getD_getElem?, List.getElem?_toArray, List.getElem?_cons_succ, List.getElem?_cons_zero, Option.getD_some]; refine hK.out _ _ ?_ hS (.inr (Below.refl _ _)); first | exact rfl | assumption) | (refine Free.run_no (by rfl) ?_; refine hK.out _ _ ?_ hS (.inr (Below.refl _ _)); exact rfl)
  refine Free.cons ?_ ?_
  · intro w' hS; (rintro _ rfl); intro K hK; (try simp only [Act.put, List.setIfInBounds_toArray, List.set_cons_zero, List.set_cons_succ]); have v0 := (hVv.below hS hVl).cell 0 (v := .int .i64 (1)) rfl; have v1 := (hVv.below hS hVl).cell 1 (v := .int .i64 (sgnV (numB mid))) rfl; have v2 := (hVv.below hS hVl).cell 2 (v := .string (ByteArray.mk #[])) rfl; first | (refine Free.run_yes (by rfl) ?_; go_simp; simp only [Free.valOf, Act.put, List.setIfInBounds_toArray, List.set_cons_zero, List.set_cons_succ, Array.getD_eq_getD_getElem?, List.getElem?_toArray, List.getElem?_cons_succ, List.getElem?_cons_zero, Option.getD_some]; refine hK.out _ _ ?_ hS (.inr (Below.refl _ _)); first | exact rfl | assumption) | (refine Free.run_no (by rfl) ?_; refine hK.out _ _ ?_ hS (.inr (Below.refl _ _)); exact rfl)
  refine Free.cons ?_ ?_
  · intro w' hS; (rintro _ rfl); intro K hK; (try simp only [Act.put, List.setIfInBounds_toArray, List.set_cons_zero, List.set_cons_succ]); have v0 := (hVv.below hS hVl).cell 0 (v := .int .i64 (1)) rfl; have v1 := (hVv.below hS hVl).cell 1 (v := .int .i64 (sgnV (numB mid))) rfl; have v2 := (hVv.below hS hVl).cell 2 (v := .string (ByteArray.mk #[])) rfl; first | (refine Free.run_yes (by rfl) ?_; go_simp; simp only [Free.valOf, Act.put, List.setIfInBounds_toArray, List.set_cons_zero, List.set_cons_succ, Array.getD_eq_getD_getElem?, List.getElem?_toArray, List.getElem?_cons_succ, List.getElem?_cons_zero, Option.getD_some]; refine hK.out _ _ ?_ hS (.inr (Below.refl _ _)); first | exact rfl | assumption) | (refine Free.run_no (by rfl) ?_; refine hK.out _ _ ?_ hS (.inr (Below.refl _ _)); exact rfl)
  refine Free.cons ?_ ?_
  · intro w' hS; intro K hK; (try simp only [Act.put, List.setIfInBounds_toArray, List.set_cons_zero, List.set_cons_succ]); have v0 := (hVv.below hS hVl).cell 0 (v := .int .i64 (1)) rfl; have v1 := (hVv.below hS hVl).cell 1 (v := .int .i64 (sgnV (numB mid))) rfl; have v2 := (hVv.below hS hVl).cell 2 (v := .string (ByteArray.mk #[])) rfl; first | (refine Free.run_yes (by rfl) ?_; go_simp; simp only [Free.valOf, Act.put, List.setIfInBounds_toArray, List.set_cons_zero, List.set_cons_succ, Array.getD_eq_getD_getElem?, List.getElem?_toArray, List.getElem?_cons_succ, List.getElem?_cons_zero, Option.getD_some]; refine hK.out _ _ ?_ hS (.inr (Below.refl _ _)); first | exact rfl | assumption) | (refine Free.run_no (by rfl) ?_; refine hK.out _ _ ?_ hS (.inr (Below.refl _ _)); exact rfl)
  refine Free.cons ?_ ?_
  · intro w' hS; (rintro _ rfl); (rintro _ rfl); intro K hK; (try simp only [Act.put, List.setIfInBounds_toArray, List.set_cons_zero, List.set_cons_succ]); have v0 := (hVv.below hS hVl).cell 0 (v := .int .i64 (1)) rfl; have v1 := (hVv.below hS hVl).cell 1 (v := .int .i64 (sgnV (numB mid))) rfl; have v2 := (hVv.below hS hVl).cell 2 (v := .string (ByteArray.mk #[])) rfl; first | (refine Free.run_yes (by rfl) ?_; go_simp; (refine (HK _).mono ?_; rintro e w2 ⟨rfl, hb⟩); simp only [Free.valOf, Act.put, List.setIfInBounds_toArray, List.set_cons_zero, List.set_cons_succ, Array.getD_eq_getD_getElem?, List.getElem?_toArray, List.getElem?_cons_succ, List.getElem?_cons_zero, Option.getD_some]; refine hK.out _ _ ?_ (keep hS hb) (.inr hb); exact rfl) | (refine Free.run_no (by rfl) ?_; refine hK.out _ _ ?_ hS (.inr (Below.refl _ _)); exact rfl)
  refine Free.cons ?_ ?_
  · intro w' hS; (rintro _ rfl); intro K hK; (try simp only [Act.put, List.setIfInBounds_toArray, List.set_cons_zero, List.set_cons_succ]); have v0 := (hVv.below hS hVl).cell 0 (v := .int .i64 (1)) rfl; have v1 := (hVv.below hS hVl).cell 1 (v := .int .i64 (sgnV (numB mid))) rfl; have v2 := (hVv.below hS hVl).cell 2 (v := .string (ByteArray.mk #[])) rfl; first | (refine Free.run_yes (by rfl) ?_; go_simp; simp only [Free.valOf, Act.put, List.setIfInBounds_toArray, List.set_cons_zero, List.set_cons_succ, Array.getD_eq_getD_getElem?, List.getElem?_toArray, List.getElem?_cons_succ, List.getElem?_cons_zero, Option.getD_some]; refine hK.out _ _ ?_ hS (.inr (Below.refl _ _)); first | exact rfl | assumption) | (refine Free.run_no (by rfl) ?_; refine hK.out _ _ ?_ hS (.inr (Below.refl _ _)); exact rfl)
  refine Free.cons ?_ ?_
  · intro w' hS; (rintro _ rfl); intro K hK; (try simp only [Act.put, List.setIfInBounds_toArray, List.set_cons_zero, List.set_cons_succ]); have v0 := (hVv.below hS hVl).cell 0 (v := .int .i64 (1)) rfl; have v1 := (hVv.below hS hVl).cell 1 (v := .int .i64 (sgnV (numB mid))) rfl; have v2 := (hVv.below hS hVl).cell 2 (v := .string (ByteArray.mk #[])) rfl; first | (refine Free.run_yes (by rfl) ?_; go_simp; simp only [Free.valOf, Act.put, List.setIfInBounds_toArray, List.set_cons_zero, List.set_cons_succ, Array.getD_eq_getD_getElem?, List.getElem?_toArray, List.getElem?_cons_succ, List.getElem?_cons_zero, Option.getD_some]; refine hK.out _ _ ?_ hS (.inr (Below.refl _ _)); first | exact rfl | assumption) | (refine Free.run_no (by rfl) ?_; refine hK.out _ _ ?_ hS (.inr (Below.refl _ _)); exact rfl)
  refine Free.cons ?_ ?_
  · intro w' hS; (rintro _ rfl); intro K hK; (try simp only [Act.put, List.setIfInBounds_toArray, List.set_cons_zero, List.set_cons_succ]); have v0 := (hVv.below hS hVl).cell 0 (v := .int .i64 (1)) rfl; have v1 := (hVv.below hS hVl).cell 1 (v := .int .i64 (sgnV (numB mid))) rfl; have v2 := (hVv.below hS hVl).cell 2 (v := .string (ByteArray.mk #[])) rfl; first | (refine Free.run_yes (by rfl) ?_; go_simp; simp only [Free.valOf, Act.put, List.setIfInBounds_toArray, List.set_cons_zero, List.set_cons_succ, Array.getD_eq_getD_getElem?, List.getElem?_toArray, List.getElem?_cons_succ, List.getElem?_cons_zero, Option.getD_some]; refine hK.out _ _ ?_ hS (.inr (Below.refl _ _)); first | exact rfl | assumption) | (refine Free.run_no (by rfl) ?_; refine hK.out _ _ ?_ hS (.inr (Below.refl _ _)); exact rfl)
  refine Free.cons ?_ ?_
  · intro w' hS; (rintro _ rfl); intro K hK; (try simp only [Act.put, List.setIfInBounds_toArray, List.set_cons_zero, List.set_cons_succ]); have v0 := (hVv.below hS hVl).cell 0 (v := .int .i64 (1)) rfl; have v1 := (hVv.below hS hVl).cell 1 (v := .int .i64 (sgnV (numB mid))) rfl; have v2 := (hVv.below hS hVl).cell 2 (v := .string (ByteArray.mk #[])) rfl; first | (refine Free.run_yes (by rfl) ?_; go_simp; simp only [Free.valOf, Act.put, List.setIfInBounds_toArray, List.set_cons_zero, List.set_cons_succ, Array.getD_eq_getD_getElem?, List.getElem?_toArray, List.getElem?_cons_succ, List.getElem?_cons_zero, Option.getD_some]; refine hK.out _ _ ?_ hS (.inr (Below.refl _ _)); first | exact rfl | assumption) | (refine Free.run_no (by rfl) ?_; refine hK.out _ _ ?_ hS (.inr (Below.refl _ _)); exact rfl)
  refine Free.cons ?_ ?_
  · intro w' hS; (rintro _ rfl); intro K hK; (try simp only [Act.put, List.setIfInBounds_toArray, List.set_cons_zero, List.set_cons_succ]); have v0 := (hVv.below hS hVl).cell 0 (v := .int .i64 (1)) rfl; have v1 := (hVv.below hS hVl).cell 1 (v := .int .i64 (sgnV (numB mid))) rfl; have v2 := (hVv.below hS hVl).cell 2 (v := .string (ByteArray.mk #[])) rfl; first | (refine Free.run_yes (by rfl) ?_; go_simp; simp only [Free.valOf, Act.put, List.setIfInBounds_toArray, List.set_cons_zero, List.set_cons_succ, Array.getD_eq_getD_getElem?, List.getElem?_toArray, List.getElem?_cons_succ, List.getElem?_cons_zero, Option.getD_some]; refine hK.out _ _ ?_ hS (.inr (Below.refl _ _)); first | exact rfl | assumption) | (refine Free.run_no (by rfl) ?_; refine hK.out _ _ ?_ hS (.inr (Below.refl _ _)); exact rfl)
  exact Free.nil
  intro w' hS; intro v0; intro v1; intro v2; intro v3; intro v4; intro v5; intro v6; intro v7; (rintro _ rfl); (rintro _ rfl); (try simp only [Act.put, List.setIfInBounds_toArray, List.set_cons_zero, List.set_cons_succ]); refine Free.toldE_nil ?_
  obtain ⟨w3, rfl⟩ : ∃ w3 : World, w3 = w' := ⟨_, rfl⟩
  have hR3 := hRv.below hS hRl
  have hV3 := hVv.below hS hVl
  have b3 := bv9.trans (hS.mono (by have := bv9.size; omega))
  have q3 := hR3.lt
  have q4 := hV3.lt
  have v0 := hV3.cell 0 (v := .int .i64 (1)) rfl
  have v1 := hV3.cell 1 (v := .int .i64 (sgnV (numB mid))) rfl
  have v2 := hV3.cell 2 (v := .string (ByteArray.mk #[])) rfl
  have f0 := hR3.fz 0
  have f1 := hR3.fz 1
  have f2 := hR3.fz 2
  have r0 := hR3.cell 0 (v := .int .i64 0) rfl
  have r1 := hR3.cell 1 (v := .int .i64 0) rfl
  have r2 := hR3.cell 2 (v := .string { data := #[] }) rfl
  have T1 := str_list T
  have T2 := str_list key
  have q5 : w.heap.size ≠ w1.heap.size := by have := hR2.lt; omega
  by_cases hE : E = 0
  · subst hE
    by_cases hT : T = key
    · subst hT
      have hok := Lib.hid (show pkOk a mid (0) = true by rw [HO]; simp)
      have hF := ((hR3.set 0 (.int .i64 (1))).set 1 (.int .i64 (sgnV (numB mid)))).set 2 (.string (ByteArray.mk #[]))
      have bF : Below w.heap.size w (((w3.setCell ⟨w.heap.size, 0, none⟩ (.int .i64 (1))).setCell ⟨w.heap.size, 1, none⟩ (.int .i64 (sgnV (numB mid)))).setCell ⟨w.heap.size, 2, none⟩ (.string (ByteArray.mk #[]))) := (by repeat (first | exact Below.refl _ _ | assumption | apply below_drewN' | apply Below.drew | refine Below.alloc ?_ (by first | omega | (simp; done) | (simp; omega)) _ | refine Below.setCell ?_ (by first | omega | (simp; done) | (simp; omega)) _))
      clear HK HO hR2 hR3 hV3 hRv hVv bv9 b2 hR0 hS keep
      go_wp2_with fail
      go_region
      all_goals go_wp2
      all_goals generalize ((w3.setCell ⟨w.heap.size, 0, none⟩ (.int .i64 (1))).setCell ⟨w.heap.size, 1, none⟩ (.int .i64 (sgnV (numB mid)))).setCell ⟨w.heap.size, 2, none⟩ (.string (ByteArray.mk #[])) = WF at *
      all_goals
        have k0 := hF.cell 0 (v := .int .i64 (1)) rfl
        have k1 := hF.cell 1 (v := .int .i64 (sgnV (numB mid))) rfl
        have k2 := hF.cell 2 (v := .string (ByteArray.mk #[])) rfl
        refine bodyPost_ret (v := .tuple #[.int .i64 a.toNat, .agg #[.int .i64 (1), .int .i64 (sgnV (numB mid)), .string (ByteArray.mk #[])], .int .i64 0]) (by simp [results, Try.results37, go_sem, k0, k1, k2]) rfl ⟨?_, bF.drew⟩
        rw [hok.out]; rfl
    · have hne : (T == key) = false := by rw [beq_eq_false_iff_ne]; exact hT
      have hok := Lib.hid (show pkOk a mid (0) = false by rw [HO, hne]; simp)
      clear HK HO hR2 hV3 hRv hVv bv9 b2 hR0 hS keep hT
      go_wp2
      have hF := ((hR3.set 0 (.int .i64 0)).set 1 (.int .i64 0)).set 2 (.string { data := #[] })
      have bF : Below w.heap.size w (((w3.setCell ⟨w.heap.size, 0, none⟩ (.int .i64 0)).setCell ⟨w.heap.size, 1, none⟩ (.int .i64 0)).setCell ⟨w.heap.size, 2, none⟩ (.string { data := #[] })) := (by repeat (first | exact Below.refl _ _ | assumption | apply below_drewN' | apply Below.drew | refine Below.alloc ?_ (by first | omega | (simp; done) | (simp; omega)) _ | refine Below.setCell ?_ (by first | omega | (simp; done) | (simp; omega)) _))
      generalize ((w3.setCell ⟨w.heap.size, 0, none⟩ (.int .i64 0)).setCell ⟨w.heap.size, 1, none⟩ (.int .i64 0)).setCell ⟨w.heap.size, 2, none⟩ (.string { data := #[] }) = WF at *
      have k0 := hF.cell 0 (v := .int .i64 0) rfl
      have k1 := hF.cell 1 (v := .int .i64 0) rfl
      have k2 := hF.cell 2 (v := .string { data := #[] }) rfl
      refine bodyPost_ret (v := .tuple #[.int .i64 0, .agg #[.int .i64 0, .int .i64 0, .string { data := #[] }], .int .i64 2]) (by simp [results, Try.results37, go_sem, k0, k1, k2]) rfl ⟨?_, bF⟩
      rw [hok.out]; rfl
  · have hne : (E != 0) = true := by rw [bne_iff_ne]; exact hE
    have hok := Lib.hid (show pkOk a mid (0) = false by rw [HO]; simp [hE])
    clear HK HO hR2 hV3 hRv hVv bv9 b2 hR0 hS keep
    · go_wp2
      have hF := ((hR3.set 0 (.int .i64 0)).set 1 (.int .i64 0)).set 2 (.string { data := #[] })
      have bF : Below w.heap.size w (((w3.setCell ⟨w.heap.size, 0, none⟩ (.int .i64 0)).setCell ⟨w.heap.size, 1, none⟩ (.int .i64 0)).setCell ⟨w.heap.size, 2, none⟩ (.string { data := #[] })) := (by repeat (first | exact Below.refl _ _ | assumption | apply below_drewN' | apply Below.drew | refine Below.alloc ?_ (by first | omega | (simp; done) | (simp; omega)) _ | refine Below.setCell ?_ (by first | omega | (simp; done) | (simp; omega)) _))
      generalize ((w3.setCell ⟨w.heap.size, 0, none⟩ (.int .i64 0)).setCell ⟨w.heap.size, 1, none⟩ (.int .i64 0)).setCell ⟨w.heap.size, 2, none⟩ (.string { data := #[] }) = WF at *
      have k0 := hF.cell 0 (v := .int .i64 0) rfl
      have k1 := hF.cell 1 (v := .int .i64 0) rfl
      have k2 := hF.cell 2 (v := .string { data := #[] }) rfl
      refine bodyPost_ret (v := .tuple #[.int .i64 0, .agg #[.int .i64 0, .int .i64 0, .string { data := #[] }], .int .i64 2]) (by simp [results, Try.results37, go_sem, k0, k1, k2]) rfl ⟨?_, bF⟩
      rw [hok.out]; rfl

set_option maxHeartbeats 2000000 in
set_option maxRecDepth 100000 in
theorem rparse_small (a z : UInt8) (mid : List UInt8) (w : World) (h : mid.length = 8) (hz9 : 1 ≤ z.toNat ∧ z.toNat ≤ 9) :
    Calls Try.prog 37 #[.string (str (a :: (mid ++ [z])))] w fun e w' => e = pkRet (pkOk a mid z) a 2 0 (mid.take (z.toNat - 1)) ∧ Below w.heap.size w w' := by
  have hz : (str (a :: (mid ++ [z]))).size = 10 := by rw [str_size]; simp [h]
  have h0 := key_at0 a z mid h (by rw [hz]; omega)
  have h9 := key_at9 a z mid h (by rw [hz]; omega)
  have hc := key_cut a z mid h 9 (by omega)
  rw [List.take_of_length_le (by omega)] at hc
  have hcv := fun w => conv_str w mid
  rw [h] at hcv
  have hwa : IntKind.i64.wrap (a.toNat : Int) = (a.toNat : Int) := IntWalk.i64_in _ (by have := a.toNat_lt; omega)
  have hb0 : Below w.heap.size w (w.alloc (.cells #[.int .i64 0, .int .i64 0, .string { data := #[] }] 35)) := (by repeat (first | exact Below.refl _ _ | assumption | apply below_drewN' | apply Below.drew | refine Below.alloc ?_ (by first | omega | (simp; done) | (simp; omega)) _ | refine Below.setCell ?_ (by first | omega | (simp; done) | (simp; omega)) _))
  have hR0 := Blk.new w #[.int .i64 0, .int .i64 0, .string { data := #[] }] 35
  have hz0 : z ≠ 0 := fun e => by rw [e] at hz9; exact absurd hz9 (by decide)
  have hwz : IntKind.i64.wrap (z.toNat : Int) = (z.toNat : Int) := IntWalk.i64_in _ (by have := z.toNat_lt; omega)
  have HK := fun w => rkey_any a.toNat 2 0 (mid.take (z.toNat - 1)) w
  have HO := pkOk_key a mid z
  have hs : mid.take (min z.toNat 9 - 1) = mid.take (z.toNat - 1) := by rw [show min z.toNat 9 = z.toNat by omega]
  simp only [pkK, pkN, pkS, if_neg hz0, hs] at HO
  have hcj := key_cut a z mid h z.toNat hz9.2
  generalize hk : a :: (mid ++ [z]) = key at *
  clear hs
  generalize hs : mid.take (z.toNat - 1) = s at *
  generalize keyT a.toNat 2 0 s = T at *
  generalize keyE a.toNat 2 0 s = E at *
  have hzi1 : 0 < (z.toNat : Int) := by omega
  have hzi : (z.toNat : Int) ≤ 9 := by omega
  go_enter Try.func37, Try.ntmps37
  go_wp2_with fail
  have hWs : (w.alloc (.cells #[.int .i64 0, .int .i64 0, .string { data := #[] }] 35)).heap.size = w.heap.size + 1 := World.size_alloc _ _
  generalize w.alloc (.cells #[.int .i64 0, .int .i64 0, .string { data := #[] }] 35) = W0 at *
  have HWs := Lib.hid hWs
  clear hWs
  have hlt0 := hR0.lt
  have hq : wrap64 (bits .xor .u64 (numB mid) 9223372036854775808) = sgnV (numB mid) := by unfold sgnV; rfl
  have hrm := bytesWorld_rb W0 mid (by omega)
  have hbm := bytesWorld_below W0 mid
  rw [h, HWs.out] at hrm
  have hnm := fun c u h9 => ref_number (some ⟨w.heap.size + 1, 0, none⟩) c mid u h9 (by omega)
  rw [h] at hnm
  go_wp2_with fail
  refine (hnm _ _ hrm).mono ?_
  rintro e w1 ⟨rfl, rfl⟩
  have hR2 := hR0.below hbm hlt0
  have b2 : Below w.heap.size w (Lib.bytesWorld W0 5 (str mid)) := hb0.trans (hbm.mono (by omega))
  clear hnm hrm
  generalize grownCap W0 8 0 5 = CC at *
  generalize Lib.bytesWorld W0 5 (str mid) = w1 at *
  have hlt1 := hR2.lt
  go_wp2_with fail
  have hRv := hR2.alloc (.cells #[.int .i64 (2), .int .i64 (0), .string (str s)] 35)
  have hVv := Blk.new w1 #[.int .i64 (2), .int .i64 (0), .string (str s)] 35
  have bv9 := b2.alloc (by have := b2.size; omega) (.cells #[.int .i64 (2), .int .i64 (0), .string (str s)] 35)
  have hRl := hRv.lt
  have hVl := hVv.lt
  generalize hWv : w1.alloc (.cells #[.int .i64 (2), .int .i64 (0), .string (str s)] 35) = Wv at *
  have keep := fun {w' w'' : World} (h : Below Wv.heap.size Wv w') (hb : Below w'.heap.size w' w'') => h.next hb (Nat.le_refl _)
  refine Free.wp_facts (M := [0, 1, 3, 0, 15, 31, 63, 63, 127, 511]) (D := [[], [(0, 33)], [(1, 34)], [], [(2, 35), (3, 36)], [(4, 37)], [(5, 32)], [(5, 32)], [(6, 38)], [(7, 39)]]) (outs := [8, 9]) (soles := []) (E := [(0, 33, false), (1, 34, false), (2, 35, false), (3, 36, false), (4, 37, false), (5, 32, false), (6, 38, false), (7, 39, false), (8, 7, true), (9, 8, true)]) (N := 52) (S := (fun w' => Below Wv.heap.size Wv w')) [Free.Fact.is ?_, Free.Fact.is ?_, Free.Fact.is ?_, Free.Fact.is ?_, Free.Fact.is ?_, Free.Fact.is ?_, Free.Fact.is ?_, Free.Fact.is ?_, Free.Fact.is ?_, Free.Fact.is ?_] (by kernel_rfl) (by kernel_rfl) rfl ((Below.refl _ _).drew) ?_ ?_
  rotate_left 10
  refine Free.cons ?_ ?_
  · intro w' hS; intro K hK; (try simp only [Act.put, List.setIfInBounds_toArray, List.set_cons_zero, List.set_cons_succ]); have v0 := (hVv.below hS hVl).cell 0 (v := .int .i64 (2)) rfl; have v1 := (hVv.below hS hVl).cell 1 (v := .int .i64 (0)) rfl; have v2 := (hVv.below hS hVl).cell 2 (v := .string (str s)) rfl; first | (refine Free.run_yes (by rfl) ?_; go_simp; simp only [Free.valOf, Act.put, List.setIfInBounds_toArray, List.set_cons_zero, List.set_cons_succ, Array.getD_eq_getD_getElem?, List.getElem?_toArray, List.getElem?_cons_succ, List.getElem?_cons_zero, Option.getD_some]; refine hK.out _ _ ?_ hS (.inr (Below.refl _ _)); first | exact rfl | assumption) | (refine Free.run_no (by rfl) ?_; refine hK.out _ _ ?_ hS (.inr (Below.refl _ _)); exact rfl)
  refine Free.cons ?_ ?_
  · intro w' hS; (rintro _ rfl); intro K hK; (try simp only [Act.put, List.setIfInBounds_toArray, List.set_cons_zero, List.set_cons_succ]); have v0 := (hVv.below hS hVl).cell 0 (v := .int .i64 (2)) rfl; have v1 := (hVv.below hS hVl).cell 1 (v := .int .i64 (0)) rfl; have v2 := (hVv.below hS hVl).cell 2 (v := .string (str s)) rfl; first | (refine Free.run_yes (by rfl) ?_; go_simp; simp only [Free.valOf, Act.put, List.setIfInBounds_toArray, List.set_cons_zero, List.set_cons_succ, Array.getD_eq_getD_getElem?, List.getElem?_toArray, List.getElem?_cons_succ, List.getElem?_cons_zero, Option.getD_some]; refine hK.out _ _ ?_ hS (.inr (Below.refl _ _)); first | exact rfl | assumption) | (refine Free.run_no (by rfl) ?_; refine hK.out _ _ ?_ hS (.inr (Below.refl _ _)); exact rfl)
  refine Free.cons ?_ ?_
  · intro w' hS; (rintro _ rfl); intro K hK; (try simp only [Act.put, List.setIfInBounds_toArray, List.set_cons_zero, List.set_cons_succ]); have v0 := (hVv.below hS hVl).cell 0 (v := .int .i64 (2)) rfl; have v1 := (hVv.below hS hVl).cell 1 (v := .int .i64 (0)) rfl; have v2 := (hVv.below hS hVl).cell 2 (v := .string (str s)) rfl; first | (refine Free.run_yes (by rfl) ?_; go_simp; simp only [Free.valOf, Act.put, List.setIfInBounds_toArray, List.set_cons_zero, List.set_cons_succ, Array.getD_eq_getD_getElem?, List.getElem?_toArray, List.getElem?_cons_succ, List.getElem?_cons_zero, Option.getD_some]; refine hK.out _ _ ?_ hS (.inr (Below.refl _ _)); first | exact rfl | assumption) | (refine Free.run_no (by rfl) ?_; refine hK.out _ _ ?_ hS (.inr (Below.refl _ _)); exact rfl)
  refine Free.cons ?_ ?_
  · intro w' hS; intro K hK; (try simp only [Act.put, List.setIfInBounds_toArray, List.set_cons_zero, List.set_cons_succ]); have v0 := (hVv.below hS hVl).cell 0 (v := .int .i64 (2)) rfl; have v1 := (hVv.below hS hVl).cell 1 (v := .int .i64 (0)) rfl; have v2 := (hVv.below hS hVl).cell 2 (v := .string (str s)) rfl; first | (refine Free.run_yes (by rfl) ?_; go_simp; simp only [Free.valOf, Act.put, List.setIfInBounds_toArray, List.set_cons_zero, List.set_cons_succ, Array.getD_eq_getD_getElem?, List.getElem?_toArray, List.getElem?_cons_succ, List.getElem?_cons_zero, Option.getD_some]; refine hK.out _ _ ?_ hS (.inr (Below.refl _ _)); first | exact rfl | assumption) | (refine Free.run_no (by rfl) ?_; refine hK.out _ _ ?_ hS (.inr (Below.refl _ _)); exact rfl)
  refine Free.cons ?_ ?_
  · intro w' hS; (rintro _ rfl); (rintro _ rfl); intro K hK; (try simp only [Act.put, List.setIfInBounds_toArray, List.set_cons_zero, List.set_cons_succ]); have v0 := (hVv.below hS hVl).cell 0 (v := .int .i64 (2)) rfl; have v1 := (hVv.below hS hVl).cell 1 (v := .int .i64 (0)) rfl; have v2 := (hVv.below hS hVl).cell 2 (v := .string (str s)) rfl; first | (refine Free.run_yes (by rfl) ?_; go_simp; (refine (HK _).mono ?_; rintro e w2 ⟨rfl, hb⟩); simp only [Free.valOf, Act.put, List.setIfInBounds_toArray, List.set_cons_zero, List.set_cons_succ, Array.getD_eq_getD_getElem?, List.getElem?_toArray, List.getElem?_cons_succ, List.getElem?_cons_zero, Option.getD_some]; refine hK.out _ _ ?_ (keep hS hb) (.inr hb); exact rfl) | (refine Free.run_no (by rfl) ?_; refine hK.out _ _ ?_ hS (.inr (Below.refl _ _)); exact rfl)
  refine Free.cons ?_ ?_
  · intro w' hS; (rintro _ rfl); intro K hK; (try simp only [Act.put, List.setIfInBounds_toArray, List.set_cons_zero, List.set_cons_succ]); have v0 := (hVv.below hS hVl).cell 0 (v := .int .i64 (2)) rfl; have v1 := (hVv.below hS hVl).cell 1 (v := .int .i64 (0)) rfl; have v2 := (hVv.below hS hVl).cell 2 (v := .string (str s)) rfl; first | (refine Free.run_yes (by rfl) ?_; go_simp; simp only [Free.valOf, Act.put, List.setIfInBounds_toArray, List.set_cons_zero, List.set_cons_succ, Array.getD_eq_getD_getElem?, List.getElem?_toArray, List.getElem?_cons_succ, List.getElem?_cons_zero, Option.getD_some]; refine hK.out _ _ ?_ hS (.inr (Below.refl _ _)); first | exact rfl | assumption) | (refine Free.run_no (by rfl) ?_; refine hK.out _ _ ?_ hS (.inr (Below.refl _ _)); exact rfl)
  refine Free.cons ?_ ?_
  · intro w' hS; (rintro _ rfl); intro K hK; (try simp only [Act.put, List.setIfInBounds_toArray, List.set_cons_zero, List.set_cons_succ]); have v0 := (hVv.below hS hVl).cell 0 (v := .int .i64 (2)) rfl; have v1 := (hVv.below hS hVl).cell 1 (v := .int .i64 (0)) rfl; have v2 := (hVv.below hS hVl).cell 2 (v := .string (str s)) rfl; first | (refine Free.run_yes (by rfl) ?_; go_simp; simp only [Free.valOf, Act.put, List.setIfInBounds_toArray, List.set_cons_zero, List.set_cons_succ, Array.getD_eq_getD_getElem?, List.getElem?_toArray, List.getElem?_cons_succ, List.getElem?_cons_zero, Option.getD_some]; refine hK.out _ _ ?_ hS (.inr (Below.refl _ _)); first | exact rfl | assumption) | (refine Free.run_no (by rfl) ?_; refine hK.out _ _ ?_ hS (.inr (Below.refl _ _)); exact rfl)
  refine Free.cons ?_ ?_
  · intro w' hS; (rintro _ rfl); intro K hK; (try simp only [Act.put, List.setIfInBounds_toArray, List.set_cons_zero, List.set_cons_succ]); have v0 := (hVv.below hS hVl).cell 0 (v := .int .i64 (2)) rfl; have v1 := (hVv.below hS hVl).cell 1 (v := .int .i64 (0)) rfl; have v2 := (hVv.below hS hVl).cell 2 (v := .string (str s)) rfl; first | (refine Free.run_yes (by rfl) ?_; go_simp; simp only [Free.valOf, Act.put, List.setIfInBounds_toArray, List.set_cons_zero, List.set_cons_succ, Array.getD_eq_getD_getElem?, List.getElem?_toArray, List.getElem?_cons_succ, List.getElem?_cons_zero, Option.getD_some]; refine hK.out _ _ ?_ hS (.inr (Below.refl _ _)); first | exact rfl | assumption) | (refine Free.run_no (by rfl) ?_; refine hK.out _ _ ?_ hS (.inr (Below.refl _ _)); exact rfl)
  refine Free.cons ?_ ?_
  · intro w' hS; (rintro _ rfl); intro K hK; (try simp only [Act.put, List.setIfInBounds_toArray, List.set_cons_zero, List.set_cons_succ]); have v0 := (hVv.below hS hVl).cell 0 (v := .int .i64 (2)) rfl; have v1 := (hVv.below hS hVl).cell 1 (v := .int .i64 (0)) rfl; have v2 := (hVv.below hS hVl).cell 2 (v := .string (str s)) rfl; first | (refine Free.run_yes (by rfl) ?_; go_simp; simp only [Free.valOf, Act.put, List.setIfInBounds_toArray, List.set_cons_zero, List.set_cons_succ, Array.getD_eq_getD_getElem?, List.getElem?_toArray, List.getElem?_cons_succ, List.getElem?_cons_zero, Option.getD_some]; refine hK.out _ _ ?_ hS (.inr (Below.refl _ _)); first | exact rfl | assumption) | (refine Free.run_no (by rfl) ?_; refine hK.out _ _ ?_ hS (.inr (Below.refl _ _)); exact rfl)
  refine Free.cons ?_ ?_
  · intro w' hS; (rintro _ rfl); intro K hK; (try simp only [Act.put, List.setIfInBounds_toArray, List.set_cons_zero, List.set_cons_succ]); have v0 := (hVv.below hS hVl).cell 0 (v := .int .i64 (2)) rfl; have v1 := (hVv.below hS hVl).cell 1 (v := .int .i64 (0)) rfl; have v2 := (hVv.below hS hVl).cell 2 (v := .string (str s)) rfl; first | (refine Free.run_yes (by rfl) ?_; go_simp; simp only [Free.valOf, Act.put, List.setIfInBounds_toArray, List.set_cons_zero, List.set_cons_succ, Array.getD_eq_getD_getElem?, List.getElem?_toArray, List.getElem?_cons_succ, List.getElem?_cons_zero, Option.getD_some]; refine hK.out _ _ ?_ hS (.inr (Below.refl _ _)); first | exact rfl | assumption) | (refine Free.run_no (by rfl) ?_; refine hK.out _ _ ?_ hS (.inr (Below.refl _ _)); exact rfl)
  exact Free.nil
  intro w' hS; intro v0; intro v1; intro v2; intro v3; intro v4; intro v5; intro v6; intro v7; (rintro _ rfl); (rintro _ rfl); (try simp only [Act.put, List.setIfInBounds_toArray, List.set_cons_zero, List.set_cons_succ]); refine Free.toldE_nil ?_
  obtain ⟨w3, rfl⟩ : ∃ w3 : World, w3 = w' := ⟨_, rfl⟩
  have hR3 := hRv.below hS hRl
  have hV3 := hVv.below hS hVl
  have b3 := bv9.trans (hS.mono (by have := bv9.size; omega))
  have q3 := hR3.lt
  have q4 := hV3.lt
  have v0 := hV3.cell 0 (v := .int .i64 (2)) rfl
  have v1 := hV3.cell 1 (v := .int .i64 (0)) rfl
  have v2 := hV3.cell 2 (v := .string (str s)) rfl
  have f0 := hR3.fz 0
  have f1 := hR3.fz 1
  have f2 := hR3.fz 2
  have r0 := hR3.cell 0 (v := .int .i64 0) rfl
  have r1 := hR3.cell 1 (v := .int .i64 0) rfl
  have r2 := hR3.cell 2 (v := .string { data := #[] }) rfl
  have T1 := str_list T
  have T2 := str_list key
  have q5 : w.heap.size ≠ w1.heap.size := by have := hR2.lt; omega
  by_cases hE : E = 0
  · subst hE
    by_cases hT : T = key
    · subst hT
      have hok := Lib.hid (show pkOk a mid (z) = true by rw [HO]; simp)
      have hF := ((hR3.set 0 (.int .i64 (2))).set 1 (.int .i64 (0))).set 2 (.string (str s))
      have bF : Below w.heap.size w (((w3.setCell ⟨w.heap.size, 0, none⟩ (.int .i64 (2))).setCell ⟨w.heap.size, 1, none⟩ (.int .i64 (0))).setCell ⟨w.heap.size, 2, none⟩ (.string (str s))) := (by repeat (first | exact Below.refl _ _ | assumption | apply below_drewN' | apply Below.drew | refine Below.alloc ?_ (by first | omega | (simp; done) | (simp; omega)) _ | refine Below.setCell ?_ (by first | omega | (simp; done) | (simp; omega)) _))
      clear HK HO hR2 hR3 hV3 hRv hVv bv9 b2 hR0 hS keep
      go_wp2_with fail
      go_region
      all_goals go_wp2
      all_goals generalize ((w3.setCell ⟨w.heap.size, 0, none⟩ (.int .i64 (2))).setCell ⟨w.heap.size, 1, none⟩ (.int .i64 (0))).setCell ⟨w.heap.size, 2, none⟩ (.string (str s)) = WF at *
      all_goals
        have k0 := hF.cell 0 (v := .int .i64 (2)) rfl
        have k1 := hF.cell 1 (v := .int .i64 (0)) rfl
        have k2 := hF.cell 2 (v := .string (str s)) rfl
        refine bodyPost_ret (v := .tuple #[.int .i64 a.toNat, .agg #[.int .i64 (2), .int .i64 (0), .string (str s)], .int .i64 0]) (by simp [results, Try.results37, go_sem, k0, k1, k2]) rfl ⟨?_, bF.drew⟩
        rw [hok.out]; rfl
    · have hne : (T == key) = false := by rw [beq_eq_false_iff_ne]; exact hT
      have hok := Lib.hid (show pkOk a mid (z) = false by rw [HO, hne]; simp)
      clear HK HO hR2 hV3 hRv hVv bv9 b2 hR0 hS keep hT
      go_wp2
      have hF := ((hR3.set 0 (.int .i64 0)).set 1 (.int .i64 0)).set 2 (.string { data := #[] })
      have bF : Below w.heap.size w (((w3.setCell ⟨w.heap.size, 0, none⟩ (.int .i64 0)).setCell ⟨w.heap.size, 1, none⟩ (.int .i64 0)).setCell ⟨w.heap.size, 2, none⟩ (.string { data := #[] })) := (by repeat (first | exact Below.refl _ _ | assumption | apply below_drewN' | apply Below.drew | refine Below.alloc ?_ (by first | omega | (simp; done) | (simp; omega)) _ | refine Below.setCell ?_ (by first | omega | (simp; done) | (simp; omega)) _))
      generalize ((w3.setCell ⟨w.heap.size, 0, none⟩ (.int .i64 0)).setCell ⟨w.heap.size, 1, none⟩ (.int .i64 0)).setCell ⟨w.heap.size, 2, none⟩ (.string { data := #[] }) = WF at *
      have k0 := hF.cell 0 (v := .int .i64 0) rfl
      have k1 := hF.cell 1 (v := .int .i64 0) rfl
      have k2 := hF.cell 2 (v := .string { data := #[] }) rfl
      refine bodyPost_ret (v := .tuple #[.int .i64 0, .agg #[.int .i64 0, .int .i64 0, .string { data := #[] }], .int .i64 2]) (by simp [results, Try.results37, go_sem, k0, k1, k2]) rfl ⟨?_, bF⟩
      rw [hok.out]; rfl
  · have hne : (E != 0) = true := by rw [bne_iff_ne]; exact hE
    have hok := Lib.hid (show pkOk a mid (z) = false by rw [HO]; simp [hE])
    clear HK HO hR2 hV3 hRv hVv bv9 b2 hR0 hS keep
    · go_wp2
      have hF := ((hR3.set 0 (.int .i64 0)).set 1 (.int .i64 0)).set 2 (.string { data := #[] })
      have bF : Below w.heap.size w (((w3.setCell ⟨w.heap.size, 0, none⟩ (.int .i64 0)).setCell ⟨w.heap.size, 1, none⟩ (.int .i64 0)).setCell ⟨w.heap.size, 2, none⟩ (.string { data := #[] })) := (by repeat (first | exact Below.refl _ _ | assumption | apply below_drewN' | apply Below.drew | refine Below.alloc ?_ (by first | omega | (simp; done) | (simp; omega)) _ | refine Below.setCell ?_ (by first | omega | (simp; done) | (simp; omega)) _))
      generalize ((w3.setCell ⟨w.heap.size, 0, none⟩ (.int .i64 0)).setCell ⟨w.heap.size, 1, none⟩ (.int .i64 0)).setCell ⟨w.heap.size, 2, none⟩ (.string { data := #[] }) = WF at *
      have k0 := hF.cell 0 (v := .int .i64 0) rfl
      have k1 := hF.cell 1 (v := .int .i64 0) rfl
      have k2 := hF.cell 2 (v := .string { data := #[] }) rfl
      refine bodyPost_ret (v := .tuple #[.int .i64 0, .agg #[.int .i64 0, .int .i64 0, .string { data := #[] }], .int .i64 2]) (by simp [results, Try.results37, go_sem, k0, k1, k2]) rfl ⟨?_, bF⟩
      rw [hok.out]; rfl

theorem pkOk_big (a z : UInt8) (mid : List UInt8) (h : mid.length = 8) (hz9 : 9 < z.toNat) : pkOk a mid z = false := by
  have hz0 : z ≠ 0 := fun e => by rw [e] at hz9; exact absurd hz9 (by decide)
  have hs : mid.take (min z.toNat 9 - 1) = mid := by rw [show min z.toNat 9 = 9 by omega]; exact List.take_of_length_le (by omega)
  unfold pkOk
  simp only [pkK, pkN, pkS, if_neg hz0, hs]
  have : (keyB a.toNat 2 0 mid == a :: (mid ++ [z])) = false := by
    rw [beq_eq_false_iff_ne]
    intro e
    have e2 := congrArg List.getLast? e
    unfold keyB keyL at e2
    rw [← List.cons_append, ← List.cons_append, List.getLast?_concat, List.getLast?_concat, if_neg (by decide), h] at e2
    injection e2 with e2
    rw [← e2] at hz9
    exact absurd hz9 (by decide)
  rw [this, Bool.and_false]

set_option maxHeartbeats 2000000 in
set_option maxRecDepth 100000 in
theorem rparse_big (a z : UInt8) (mid : List UInt8) (w : World) (h : mid.length = 8) (hz9 : 9 < z.toNat) :
    Calls Try.prog 37 #[.string (str (a :: (mid ++ [z])))] w fun e w' => e = pkRet false a 2 0 mid ∧ Below w.heap.size w w' := by
  have hz : (str (a :: (mid ++ [z]))).size = 10 := by rw [str_size]; simp [h]
  have h0 := key_at0 a z mid h (by rw [hz]; omega)
  have h9 := key_at9 a z mid h (by rw [hz]; omega)
  have hc := key_cut a z mid h 9 (by omega)
  rw [List.take_of_length_le (by omega)] at hc
  have hcv := fun w => conv_str w mid
  rw [h] at hcv
  have hwa : IntKind.i64.wrap (a.toNat : Int) = (a.toNat : Int) := IntWalk.i64_in _ (by have := a.toNat_lt; omega)
  have hb0 : Below w.heap.size w (w.alloc (.cells #[.int .i64 0, .int .i64 0, .string { data := #[] }] 35)) := (by repeat (first | exact Below.refl _ _ | assumption | apply below_drewN' | apply Below.drew | refine Below.alloc ?_ (by first | omega | (simp; done) | (simp; omega)) _ | refine Below.setCell ?_ (by first | omega | (simp; done) | (simp; omega)) _))
  have hR0 := Blk.new w #[.int .i64 0, .int .i64 0, .string { data := #[] }] 35
  have hwz : IntKind.i64.wrap (z.toNat : Int) = (z.toNat : Int) := IntWalk.i64_in _ (by have := z.toNat_lt; omega)
  generalize hk : a :: (mid ++ [z]) = key at *
  have hzi1 : 0 < (z.toNat : Int) := by omega
  have hzi : 9 < (z.toNat : Int) := by omega
  go_enter Try.func37, Try.ntmps37
  go_wp2_with fail
  have hWs : (w.alloc (.cells #[.int .i64 0, .int .i64 0, .string { data := #[] }] 35)).heap.size = w.heap.size + 1 := World.size_alloc _ _
  generalize w.alloc (.cells #[.int .i64 0, .int .i64 0, .string { data := #[] }] 35) = W0 at *
  have HWs := Lib.hid hWs
  clear hWs
  have hlt0 := hR0.lt
  have hq : wrap64 (bits .xor .u64 (numB mid) 9223372036854775808) = sgnV (numB mid) := by unfold sgnV; rfl
  have hrm := bytesWorld_rb W0 mid (by omega)
  have hbm := bytesWorld_below W0 mid
  rw [h, HWs.out] at hrm
  have hnm := fun c u h9 => ref_number (some ⟨w.heap.size + 1, 0, none⟩) c mid u h9 (by omega)
  rw [h] at hnm
  go_wp2_with fail
  refine (hnm _ _ hrm).mono ?_
  rintro e w1 ⟨rfl, rfl⟩
  have hR2 := hR0.below hbm hlt0
  have b2 : Below w.heap.size w (Lib.bytesWorld W0 5 (str mid)) := hb0.trans (hbm.mono (by omega))
  clear hnm hrm
  generalize grownCap W0 8 0 5 = CC at *
  generalize Lib.bytesWorld W0 5 (str mid) = w1 at *
  have hlt1 := hR2.lt
  have hR3 := (hR2.alloc (.cells #[.int .i64 1, .int .i64 (sgnV (numB mid)), .string (ByteArray.mk #[])] 35))
  have b3 := b2.alloc (by have := b2.size; omega) (.cells #[.int .i64 1, .int .i64 (sgnV (numB mid)), .string (ByteArray.mk #[])] 35)
  have f0 := hR2.fz 0
  have f1 := hR2.fz 1
  have f2 := hR2.fz 2
  have r0 := hR2.cell 0 (v := .int .i64 0) rfl
  have r1 := hR2.cell 1 (v := .int .i64 0) rfl
  have r2 := hR2.cell 2 (v := .string { data := #[] }) rfl
  go_wp2
  have hF := (((hR2.set 0 (.int .i64 0)).set 1 (.int .i64 0)).set 2 (.string { data := #[] })).alloc (.cells #[.int .i64 1, .int .i64 (sgnV (numB mid)), .string (ByteArray.mk #[])] 35)
  have bF : Below w.heap.size w ((((w1.setCell ⟨w.heap.size, 0, none⟩ (.int .i64 0)).setCell ⟨w.heap.size, 1, none⟩ (.int .i64 0)).setCell ⟨w.heap.size, 2, none⟩ (.string { data := #[] })).alloc (.cells #[.int .i64 1, .int .i64 (sgnV (numB mid)), .string (ByteArray.mk #[])] 35)) := (by repeat (first | exact Below.refl _ _ | assumption | apply below_drewN' | apply Below.drew | refine Below.alloc ?_ (by first | omega | (simp; done) | (simp; omega)) _ | refine Below.setCell ?_ (by first | omega | (simp; done) | (simp; omega)) _))
  generalize (((w1.setCell ⟨w.heap.size, 0, none⟩ (.int .i64 0)).setCell ⟨w.heap.size, 1, none⟩ (.int .i64 0)).setCell ⟨w.heap.size, 2, none⟩ (.string { data := #[] })).alloc (.cells #[.int .i64 1, .int .i64 (sgnV (numB mid)), .string (ByteArray.mk #[])] 35) = WF at *
  have k0 := hF.cell 0 (v := .int .i64 0) rfl
  have k1 := hF.cell 1 (v := .int .i64 0) rfl
  have k2 := hF.cell 2 (v := .string { data := #[] }) rfl
  exact bodyPost_ret (v := .tuple #[.int .i64 0, .agg #[.int .i64 0, .int .i64 0, .string { data := #[] }], .int .i64 2]) (by simp [results, Try.results37, go_sem, k0, k1, k2]) rfl ⟨rfl, bF⟩

/-- What a key reads as. -/
def pkL (l : List UInt8) : Ending :=
  if l.length = 10 then pkRet (pkOk (l.getD 0 0) ((l.drop 1).take 8) (l.getD 9 0)) (l.getD 0 0) (pkK (l.getD 9 0)) (pkN ((l.drop 1).take 8) (l.getD 9 0)) (pkS ((l.drop 1).take 8) (l.getD 9 0)) else pkRet false 0 0 0 []
theorem key_shape (l : List UInt8) (h : l.length = 10) : ∃ a mid z, l = a :: (mid ++ [z]) ∧ mid.length = 8 := by
  match l, h with
  | [a, b0, b1, b2, b3, b4, b5, b6, b7, z], _ => exact ⟨a, [b0, b1, b2, b3, b4, b5, b6, b7], z, rfl, rfl⟩
theorem pkL_shape (a z : UInt8) (mid : List UInt8) (h : mid.length = 8) : pkL (a :: (mid ++ [z])) = pkRet (pkOk a mid z) a (pkK z) (pkN mid z) (pkS mid z) := by
  have e1 : (a :: (mid ++ [z])).length = 10 := by simp [h]
  have e2 : ((a :: (mid ++ [z])).drop 1).take 8 = mid := by
    rw [List.drop_succ_cons, List.drop_zero, List.take_append_of_le_length (by omega), List.take_of_length_le (by omega)]
  have e3 : (a :: (mid ++ [z])).getD 9 0 = z := by simp [h]
  have e4 : (a :: (mid ++ [z])).getD 0 0 = a := rfl
  unfold pkL
  rw [if_pos e1, e2, e3, e4]
theorem pkRet_no (a b : UInt8) (k n k' n' : Int) (s s' : List UInt8) : pkRet false a k n s = pkRet false b k' n' s' := rfl

theorem parse_any (l : List UInt8) (w : World) (hl : l.length ≤ 1099511627776) :
    Calls Try.prog 36 #[.string (str l)] w fun e w' => e = pkL l ∧ Below w.heap.size w w' := by
  by_cases h : l.length = 10
  · obtain ⟨a, mid, z, rfl, hm⟩ := key_shape l h
    rw [pkL_shape a z mid hm]
    by_cases hz : z = 0
    · subst hz
      have := parse_int a mid w hm
      simpa [pkK, pkN, pkS] using this
    · have hz1 : 1 ≤ z.toNat := by
        rcases Nat.eq_zero_or_pos z.toNat with h0 | h0
        · exact absurd (UInt8.toNat_inj.1 (by rw [h0]; rfl)) hz
        · exact h0
      simp only [pkK, pkN, pkS, if_neg hz]
      by_cases hz9 : z.toNat ≤ 9
      · rw [show min z.toNat 9 = z.toNat by omega]
        exact parse_small a z mid w hm ⟨hz1, hz9⟩
      · rw [show min z.toNat 9 = 9 by omega, List.take_of_length_le (by omega : mid.length ≤ 9 - 1)]
        exact parse_big a z mid w hm (by omega)
  · have : pkL l = pkRet false 0 0 0 [] := by unfold pkL; rw [if_neg h]
    rw [this]
    exact parse_short l w h hl
theorem rparse_any (l : List UInt8) (w : World) (hl : l.length ≤ 1099511627776) :
    Calls Try.prog 37 #[.string (str l)] w fun e w' => e = pkL l ∧ Below w.heap.size w w' := by
  by_cases h : l.length = 10
  · obtain ⟨a, mid, z, rfl, hm⟩ := key_shape l h
    rw [pkL_shape a z mid hm]
    by_cases hz : z = 0
    · subst hz
      have := rparse_int a mid w hm
      simpa [pkK, pkN, pkS] using this
    · have hz1 : 1 ≤ z.toNat := by
        rcases Nat.eq_zero_or_pos z.toNat with h0 | h0
        · exact absurd (UInt8.toNat_inj.1 (by rw [h0]; rfl)) hz
        · exact h0
      by_cases hz9 : z.toNat ≤ 9
      · simp only [pkK, pkN, pkS, if_neg hz]
        rw [show min z.toNat 9 = z.toNat by omega]
        exact rparse_small a z mid w hm ⟨hz1, hz9⟩
      · rw [pkOk_big a z mid hm (by omega), pkRet_no a a _ _ 2 0 _ mid]
        exact rparse_big a z mid w hm (by omega)
  · have : pkL l = pkRet false 0 0 0 [] := by unfold pkL; rw [if_neg h]
    rw [this]
    exact rparse_short l w h hl
end Go.Proofs.Ytplpidpbfljpnaa
