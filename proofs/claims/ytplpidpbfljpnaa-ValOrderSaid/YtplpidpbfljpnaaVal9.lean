/- Contracts of values: Parse. -/
import Derived.Test.YtplpidpbfljpnaaVal8
namespace Go.Proofs.Ytplpidpbfljpnaa
open Go.ChangeShapes Go.WideShapes Go.ChangeAt Go.RowKit
open Go.ChangeMaps (open_string shut_string)
set_option linter.unusedVariables false
set_option linter.unusedSimpArgs false

/-- What is between two places. -/
theorem str_extract (l : List UInt8) (i j : Nat) : (str l).extract i j = str ((l.take j).drop i) := by
  apply ByteArray.ext
  rw [ByteArray.data_extract]
  apply Array.toList_inj.1
  simp [str, List.extract_eq_take_drop, List.drop_take]
/-- A number's word, back. -/
def sgnV (x : Int) : Int := wrap64 (bits .xor .u64 x 9223372036854775808)

/-- A key's table, value (kind, number, text), as they are read; whether they are a key's. -/
def pkK (z : UInt8) : Int := if z = 0 then 1 else 2
def pkN (mid : List UInt8) (z : UInt8) : Int := if z = 0 then sgnV (numB mid) else 0
def pkS (mid : List UInt8) (z : UInt8) : List UInt8 := if z = 0 then [] else mid.take (min z.toNat 9 - 1)
def pkOk (a : UInt8) (mid : List UInt8) (z : UInt8) : Bool := tabB a.toNat && mayV (pkK z) (pkN mid z) (pkS mid z) && (keyB a.toNat (pkK z) (pkN mid z) (pkS mid z) == a :: (mid ++ [z]))
theorem pkOk_key (a : UInt8) (mid : List UInt8) (z : UInt8) : pkOk a mid z = ((keyE a.toNat (pkK z) (pkN mid z) (pkS mid z) == 0) && (keyT a.toNat (pkK z) (pkN mid z) (pkS mid z) == a :: (mid ++ [z]))) := by
  unfold pkOk keyE keyT
  cases tabB a.toNat <;> cases mayV (pkK z) (pkN mid z) (pkS mid z) <;> simp

set_option maxHeartbeats 2000000 in
set_option maxRecDepth 100000 in
theorem parse_short (l : List UInt8) (w : World) (h : l.length ≠ 10) (hl : l.length ≤ 1099511627776) :
    Calls Try.prog 36 #[.string (str l)] w fun e w' => e = .returned (.tuple #[.int .i64 0, .agg #[.int .i64 0, .int .i64 0, .string (str [])], .int .i64 2]) ∧ Below w.heap.size w w' := by
  have hz := str_size l
  have hne : ((l.length : Int) != 10) = true := by rw [bne_iff_ne]; omega
  go_enter Try.func36, Try.ntmps36
  go_wp2
  refine bodyPost_ret (v := .tuple #[.int .i64 0, .agg #[.int .i64 0, .int .i64 0, .string (str [])], .int .i64 2]) (by simp [results, Try.results36, go_sem, str]) rfl ⟨rfl, (by repeat (first | exact Below.refl _ _ | assumption | apply below_drewN' | apply Below.drew | refine Below.alloc ?_ (by first | omega | (simp; done) | (simp; omega)) _ | refine Below.setCell ?_ (by first | omega | (simp; done) | (simp; omega)) _))⟩

theorem key_at0 (a z : UInt8) (mid : List UInt8) (h : mid.length = 8) (p : 0 < (str (a :: (mid ++ [z]))).size) : (str (a :: (mid ++ [z])))[0]'p = a := by
  show (str (a :: (mid ++ [z]))).data[0] = a
  simp [str]
theorem key_at9 (a z : UInt8) (mid : List UInt8) (h : mid.length = 8) (p : 9 < (str (a :: (mid ++ [z]))).size) : (str (a :: (mid ++ [z])))[9]'p = z := by
  show (str (a :: (mid ++ [z]))).data[9] = z
  simp [str, h]
theorem key_cut (a z : UInt8) (mid : List UInt8) (h : mid.length = 8) (j : Nat) (hj : j ≤ 9) : (str (a :: (mid ++ [z]))).extract 1 j = str (mid.take (j - 1)) := by
  rw [str_extract]
  congr 1
  cases j with
  | zero => simp
  | succ j => rw [List.take_succ_cons, List.drop_succ_cons, List.drop_zero, List.take_append_of_le_length (by omega)]; rfl
theorem numB_lt64 (l : List UInt8) (h : l.length = 8) : numB l < 18446744073709551616 := by
  have := numB_lt l
  rw [h] at this
  exact this

/-- What is told of a key: table, kind, number, text, error. -/
def pkRet (ok : Bool) (a : UInt8) (k n : Int) (s : List UInt8) : Ending := .returned (.tuple (if ok then #[.int .i64 a.toNat, .agg #[.int .i64 k, .int .i64 n, .string (str s)], .int .i64 0] else #[.int .i64 0, .agg #[.int .i64 0, .int .i64 0, .string (str [])], .int .i64 2]))

set_option maxHeartbeats 4000000 in
set_option maxRecDepth 100000 in
theorem parse_int (a : UInt8) (mid : List UInt8) (w : World) (h : mid.length = 8) :
    Calls Try.prog 36 #[.string (str (a :: (mid ++ [0])))] w fun e w' => e = pkRet (pkOk a mid 0) a 1 (sgnV (numB mid)) [] ∧ Below w.heap.size w w' := by
  have hz : (str (a :: (mid ++ [0]))).size = 10 := by rw [str_size]; simp [h]
  have h0 := key_at0 a 0 mid h (by rw [hz]; omega)
  have h9 := key_at9 a 0 mid h (by rw [hz]; omega)
  have hc := key_cut a 0 mid h 9 (by omega)
  rw [List.take_of_length_le (by omega)] at hc
  have hwa : IntKind.i64.wrap (a.toNat : Int) = (a.toNat : Int) := IntWalk.i64_in _ (by have := a.toNat_lt; omega)
  have hb0 : Below w.heap.size w (w.alloc (.cells #[.int .i64 0, .int .i64 0, .string { data := #[] }] 35)) := (by repeat (first | exact Below.refl _ _ | assumption | apply below_drewN' | apply Below.drew | refine Below.alloc ?_ (by first | omega | (simp; done) | (simp; omega)) _ | refine Below.setCell ?_ (by first | omega | (simp; done) | (simp; omega)) _))
  have hR0 := Blk.new w #[.int .i64 0, .int .i64 0, .string { data := #[] }] 35
  have hw0 : IntKind.i64.wrap 0 = 0 := rfl
  have HK := fun w => key_any a.toNat 1 (sgnV (numB mid)) [] w
  have HO := pkOk_key a mid 0
  simp only [pkK, pkN, pkS, if_true] at HO
  generalize hk : a :: (mid ++ [0]) = key at *
  generalize keyT a.toNat 1 (sgnV (numB mid)) [] = T at *
  generalize keyE a.toNat 1 (sgnV (numB mid)) [] = E at *
  go_enter Try.func36, Try.ntmps36
  go_wp2_with fail
  generalize w.alloc (.cells #[.int .i64 0, .int .i64 0, .string { data := #[] }] 35) = W0 at *
  have hlt0 := hR0.lt
  refine Free.wp_facts (M := [0, 1, 3, 0, 8, 24, 7, 127]) (D := [[], [(0, 14)], [(1, 15)], [], [(3, 17)], [(4, 18)], [(2, 16)], [(5, 19)]]) (outs := [6, 7]) (soles := []) (E := [(0, 14, false), (1, 15, false), (2, 16, false), (3, 17, false), (4, 18, false), (5, 19, false), (6, 5, true), (7, 6, true)]) (N := 49) (S := (fun w' => Below W0.heap.size W0 w')) [Free.Fact.is ?_, Free.Fact.is ?_, Free.Fact.is ?_, Free.Fact.is ?_, Free.Fact.is ?_, Free.Fact.is ?_, Free.Fact.is ?_, Free.Fact.is ?_] (by kernel_rfl) (by kernel_rfl) rfl ((Below.refl _ _).drew) ?_ ?_
  rotate_left 8
  refine Free.cons ?_ ?_
  · intro w' hS; intro K hK; (try simp only [Act.put, List.setIfInBounds_toArray, List.set_cons_zero, List.set_cons_succ]); first | (refine Free.run_yes (by rfl) ?_; go_simp; simp only [Free.valOf, Act.put, List.setIfInBounds_toArray, List.set_cons_zero, List.set_cons_succ, Array.getD_eq_getD_getElem?, List.getElem?_toArray, List.getElem?_cons_succ, List.getElem?_cons_zero, Option.getD_some]; refine hK.out _ _ ?_ hS (.inr (Below.refl _ _)); first | exact rfl | assumption) | (refine Free.run_no (by rfl) ?_; refine hK.out _ _ ?_ hS (.inr (Below.refl _ _)); exact rfl)
  refine Free.cons ?_ ?_
  · intro w' hS; (rintro _ rfl); intro K hK; (try simp only [Act.put, List.setIfInBounds_toArray, List.set_cons_zero, List.set_cons_succ]); first | (refine Free.run_yes (by rfl) ?_; go_simp; simp only [Free.valOf, Act.put, List.setIfInBounds_toArray, List.set_cons_zero, List.set_cons_succ, Array.getD_eq_getD_getElem?, List.getElem?_toArray, List.getElem?_cons_succ, List.getElem?_cons_zero, Option.getD_some]; refine hK.out _ _ ?_ hS (.inr (Below.refl _ _)); first | exact rfl | assumption) | (refine Free.run_no (by rfl) ?_; refine hK.out _ _ ?_ hS (.inr (Below.refl _ _)); exact rfl)
  refine Free.cons ?_ ?_
  · intro w' hS; (rintro _ rfl); intro K hK; (try simp only [Act.put, List.setIfInBounds_toArray, List.set_cons_zero, List.set_cons_succ]); first | (refine Free.run_yes (by rfl) ?_; go_simp; simp only [Free.valOf, Act.put, List.setIfInBounds_toArray, List.set_cons_zero, List.set_cons_succ, Array.getD_eq_getD_getElem?, List.getElem?_toArray, List.getElem?_cons_succ, List.getElem?_cons_zero, Option.getD_some]; refine hK.out _ _ ?_ hS (.inr (Below.refl _ _)); first | exact rfl | assumption) | (refine Free.run_no (by rfl) ?_; refine hK.out _ _ ?_ hS (.inr (Below.refl _ _)); exact rfl)
  refine Free.cons ?_ ?_
  · intro w' hS; intro K hK; (try simp only [Act.put, List.setIfInBounds_toArray, List.set_cons_zero, List.set_cons_succ]); first | (refine Free.run_yes (by rfl) ?_; go_simp; simp only [Free.valOf, Act.put, List.setIfInBounds_toArray, List.set_cons_zero, List.set_cons_succ, Array.getD_eq_getD_getElem?, List.getElem?_toArray, List.getElem?_cons_succ, List.getElem?_cons_zero, Option.getD_some]; refine hK.out _ _ ?_ hS (.inr (Below.refl _ _)); first | exact rfl | assumption) | (refine Free.run_no (by rfl) ?_; refine hK.out _ _ ?_ hS (.inr (Below.refl _ _)); exact rfl)
  refine Free.cons ?_ ?_
  · intro w' hS; (rintro _ rfl); intro K hK; (try simp only [Act.put, List.setIfInBounds_toArray, List.set_cons_zero, List.set_cons_succ]); first | (refine Free.run_yes (by rfl) ?_; go_simp; simp only [Free.valOf, Act.put, List.setIfInBounds_toArray, List.set_cons_zero, List.set_cons_succ, Array.getD_eq_getD_getElem?, List.getElem?_toArray, List.getElem?_cons_succ, List.getElem?_cons_zero, Option.getD_some]; refine hK.out _ _ ?_ hS (.inr (Below.refl _ _)); first | exact rfl | assumption) | (refine Free.run_no (by rfl) ?_; refine hK.out _ _ ?_ hS (.inr (Below.refl _ _)); exact rfl)
  refine Free.cons ?_ ?_
  · intro w' hS; (rintro _ rfl); intro K hK; (try simp only [Act.put, List.setIfInBounds_toArray, List.set_cons_zero, List.set_cons_succ]); first | (refine Free.run_yes (by rfl) ?_; go_simp; simp only [Free.valOf, Act.put, List.setIfInBounds_toArray, List.set_cons_zero, List.set_cons_succ, Array.getD_eq_getD_getElem?, List.getElem?_toArray, List.getElem?_cons_succ, List.getElem?_cons_zero, Option.getD_some]; refine hK.out _ _ ?_ hS (.inr (Below.refl _ _)); first | exact rfl | assumption) | (refine Free.run_no (by rfl) ?_; refine hK.out _ _ ?_ hS (.inr (Below.refl _ _)); exact rfl)
  refine Free.cons ?_ ?_
  · intro w' hS; (rintro _ rfl); intro K hK; (try simp only [Act.put, List.setIfInBounds_toArray, List.set_cons_zero, List.set_cons_succ]); first | (refine Free.run_yes (by rfl) ?_; go_simp; simp only [Free.valOf, Act.put, List.setIfInBounds_toArray, List.set_cons_zero, List.set_cons_succ, Array.getD_eq_getD_getElem?, List.getElem?_toArray, List.getElem?_cons_succ, List.getElem?_cons_zero, Option.getD_some]; refine hK.out _ _ ?_ hS (.inr (Below.refl _ _)); first | exact rfl | assumption) | (refine Free.run_no (by rfl) ?_; refine hK.out _ _ ?_ hS (.inr (Below.refl _ _)); exact rfl)
  refine Free.cons ?_ ?_
  · intro w' hS; (rintro _ rfl); intro K hK; (try simp only [Act.put, List.setIfInBounds_toArray, List.set_cons_zero, List.set_cons_succ]); first | (refine Free.run_yes (by rfl) ?_; go_simp; simp only [Free.valOf, Act.put, List.setIfInBounds_toArray, List.set_cons_zero, List.set_cons_succ, Array.getD_eq_getD_getElem?, List.getElem?_toArray, List.getElem?_cons_succ, List.getElem?_cons_zero, Option.getD_some]; refine hK.out _ _ ?_ hS (.inr (Below.refl _ _)); first | exact rfl | assumption) | (refine Free.run_no (by rfl) ?_; refine hK.out _ _ ?_ hS (.inr (Below.refl _ _)); exact rfl)
  exact Free.nil
  intro w' hS; intro v0; intro v1; intro v2; intro v3; intro v4; intro v5; (rintro _ rfl); (rintro _ rfl); (try simp only [Act.put, List.setIfInBounds_toArray, List.set_cons_zero, List.set_cons_succ]); refine Free.toldE_nil ?_
  have hR1 := hR0.below hS hlt0
  have q1 := hS.size
  have hq : wrap64 (bits .xor .u64 (numB mid) 9223372036854775808) = sgnV (numB mid) := by unfold sgnV; rfl
  go_wp2_with fail
  refine (val_number mid _ (by omega)).mono ?_
  rintro e w1 ⟨rfl, hb1⟩
  have hR2 := hR1.below hb1 hR1.lt
  have q2 := hb1.size
  have b2 : Below w.heap.size w w1 := hb0.trans ((hS.next hb1 (Nat.le_refl _)).mono (by omega))
  go_wp2_with fail
  refine (HK _).mono ?_
  rintro e w3 ⟨rfl, hb3⟩
  have hR3 := (hR2.alloc (.cells #[.int .i64 (1), .int .i64 (sgnV (numB mid)), .string (str ([]))] 35)).below hb3 (by have := hR2.lt; simp; omega)
  have hV3 := (Blk.new w1 #[.int .i64 (1), .int .i64 (sgnV (numB mid)), .string (str ([]))] 35).below hb3 (by simp)
  have b3 := (b2.alloc (by have := b2.size; omega) (.cells #[.int .i64 (1), .int .i64 (sgnV (numB mid)), .string (str ([]))] 35)).trans (hb3.mono (by have := b2.size; simp; omega))
  have q3 := hR3.lt
  have q4 := hV3.lt
  have v0 := hV3.cell 0 (v := .int .i64 (1)) rfl
  have v1 := hV3.cell 1 (v := .int .i64 (sgnV (numB mid))) rfl
  have v2 := hV3.cell 2 (v := .string (str ([]))) rfl
  have f0 := hR3.fz 0
  have f1 := hR3.fz 1
  have f2 := hR3.fz 2
  have r0 := hR3.cell 0 (v := .int .i64 0) rfl
  have r1 := hR3.cell 1 (v := .int .i64 0) rfl
  have r2 := hR3.cell 2 (v := .string { data := #[] }) rfl
  have T1 := str_list T
  have T2 := str_list key
  by_cases hE : E = 0
  · subst hE
    by_cases hT : T = key
    · subst hT
      have hok := Lib.hid (show pkOk a mid (0) = true by rw [HO]; simp)
      have hF := ((hR3.set 0 (.int .i64 (1))).set 1 (.int .i64 (sgnV (numB mid)))).set 2 (.string (str ([])))
      have bF : Below w.heap.size w (((w3.setCell ⟨w.heap.size, 0, none⟩ (.int .i64 (1))).setCell ⟨w.heap.size, 1, none⟩ (.int .i64 (sgnV (numB mid)))).setCell ⟨w.heap.size, 2, none⟩ (.string (str ([])))) := (by repeat (first | exact Below.refl _ _ | assumption | apply below_drewN' | apply Below.drew | refine Below.alloc ?_ (by first | omega | (simp; done) | (simp; omega)) _ | refine Below.setCell ?_ (by first | omega | (simp; done) | (simp; omega)) _))
      clear HK HO hR2 hR3 hV3 hb1 hb3 b2 hR1 hR0 hS
      go_wp2_with fail
      go_region
      all_goals go_wp2
      all_goals generalize ((w3.setCell ⟨w.heap.size, 0, none⟩ (.int .i64 (1))).setCell ⟨w.heap.size, 1, none⟩ (.int .i64 (sgnV (numB mid)))).setCell ⟨w.heap.size, 2, none⟩ (.string (str ([]))) = WF at *
      all_goals
        have k0 := hF.cell 0 (v := .int .i64 (1)) rfl
        have k1 := hF.cell 1 (v := .int .i64 (sgnV (numB mid))) rfl
        have k2 := hF.cell 2 (v := .string (str ([]))) rfl
        refine bodyPost_ret (v := .tuple #[.int .i64 a.toNat, .agg #[.int .i64 (1), .int .i64 (sgnV (numB mid)), .string (str ([]))], .int .i64 0]) (by simp [results, Try.results36, go_sem, k0, k1, k2]) rfl ⟨?_, bF.drew⟩
        rw [hok.out]; rfl
    · have hne : (T == key) = false := by rw [beq_eq_false_iff_ne]; exact hT
      have hok := Lib.hid (show pkOk a mid (0) = false by rw [HO, hne]; simp)
      clear HK HO hR2 hV3 hb1 hb3 b2 hR1 hR0 hS hT
      go_wp2
      have hF := ((hR3.set 0 (.int .i64 0)).set 1 (.int .i64 0)).set 2 (.string { data := #[] })
      have bF : Below w.heap.size w (((w3.setCell ⟨w.heap.size, 0, none⟩ (.int .i64 0)).setCell ⟨w.heap.size, 1, none⟩ (.int .i64 0)).setCell ⟨w.heap.size, 2, none⟩ (.string { data := #[] })) := (by repeat (first | exact Below.refl _ _ | assumption | apply below_drewN' | apply Below.drew | refine Below.alloc ?_ (by first | omega | (simp; done) | (simp; omega)) _ | refine Below.setCell ?_ (by first | omega | (simp; done) | (simp; omega)) _))
      generalize ((w3.setCell ⟨w.heap.size, 0, none⟩ (.int .i64 0)).setCell ⟨w.heap.size, 1, none⟩ (.int .i64 0)).setCell ⟨w.heap.size, 2, none⟩ (.string { data := #[] }) = WF at *
      have k0 := hF.cell 0 (v := .int .i64 0) rfl
      have k1 := hF.cell 1 (v := .int .i64 0) rfl
      have k2 := hF.cell 2 (v := .string { data := #[] }) rfl
      refine bodyPost_ret (v := .tuple #[.int .i64 0, .agg #[.int .i64 0, .int .i64 0, .string { data := #[] }], .int .i64 2]) (by simp [results, Try.results36, go_sem, k0, k1, k2]) rfl ⟨?_, bF⟩
      rw [hok.out]; rfl
  · have hne : (E != 0) = true := by rw [bne_iff_ne]; exact hE
    have hok := Lib.hid (show pkOk a mid (0) = false by rw [HO]; simp [hE])
    clear HK HO hR2 hV3 hb1 hb3 b2 hR1 hR0 hS
    · go_wp2
      have hF := ((hR3.set 0 (.int .i64 0)).set 1 (.int .i64 0)).set 2 (.string { data := #[] })
      have bF : Below w.heap.size w (((w3.setCell ⟨w.heap.size, 0, none⟩ (.int .i64 0)).setCell ⟨w.heap.size, 1, none⟩ (.int .i64 0)).setCell ⟨w.heap.size, 2, none⟩ (.string { data := #[] })) := (by repeat (first | exact Below.refl _ _ | assumption | apply below_drewN' | apply Below.drew | refine Below.alloc ?_ (by first | omega | (simp; done) | (simp; omega)) _ | refine Below.setCell ?_ (by first | omega | (simp; done) | (simp; omega)) _))
      generalize ((w3.setCell ⟨w.heap.size, 0, none⟩ (.int .i64 0)).setCell ⟨w.heap.size, 1, none⟩ (.int .i64 0)).setCell ⟨w.heap.size, 2, none⟩ (.string { data := #[] }) = WF at *
      have k0 := hF.cell 0 (v := .int .i64 0) rfl
      have k1 := hF.cell 1 (v := .int .i64 0) rfl
      have k2 := hF.cell 2 (v := .string { data := #[] }) rfl
      refine bodyPost_ret (v := .tuple #[.int .i64 0, .agg #[.int .i64 0, .int .i64 0, .string { data := #[] }], .int .i64 2]) (by simp [results, Try.results36, go_sem, k0, k1, k2]) rfl ⟨?_, bF⟩
      rw [hok.out]; rfl

end Go.Proofs.Ytplpidpbfljpnaa
