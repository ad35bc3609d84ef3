/- The statement ValOrder: keys order as their tables, then as their values; there and back. -/
import Derived.Test.YtplpidpbfljpnaaFirst15
import Derived.Test.YtplpidpbfljpnaaArgsVal
import Derived.Test.YtplpidpbfljpnaaValPure3
namespace Go.Proofs.Ytplpidpbfljpnaa
open Go.ChangeShapes Go.WideShapes Go.ChangeAt Go.RowKit
open Go.ChangeMaps (open_string shut_string)
set_option linter.unusedVariables false
set_option linter.unusedSimpArgs false

theorem less_is_o (k n : Int) (l : List UInt8) (k' n' : Int) (l' : List UInt8) (b : Bool) (w : World) (h : lessV k n l k' n' l' = b) : Calls Try.prog 20 #[.agg #[.int .i64 (k), .int .i64 (n), .string (str (l))], .agg #[.int .i64 (k'), .int .i64 (n'), .string (str (l'))]] w fun e w' => e = .returned (.bool b) ∧ Below w.heap.size w w' := by
  have := val_less k n l k' n' l' w
  rw [h] at this
  exact this
theorem same_is_o (k n : Int) (l : List UInt8) (k' n' : Int) (l' : List UInt8) (b : Bool) (w : World) (h : sameV k n l k' n' l' = b) : Calls Try.prog 21 #[.agg #[.int .i64 (k), .int .i64 (n), .string (str (l))], .agg #[.int .i64 (k'), .int .i64 (n'), .string (str (l'))]] w fun e w' => e = .returned (.bool b) ∧ Below w.heap.size w w' := by
  have := val_same k n l k' n' l' w
  rw [h] at this
  exact this
theorem keyE_ok {t k n : Int} {l : List UInt8} (h : keyE t k n l = 0) : ∃ m : Nat, t = m ∧ m < 4 ∧ mayV k n l = true := by
  unfold keyE at h
  split at h
  · rename_i ht
    obtain ⟨m, rfl, hm⟩ := tab_nat ht
    split at h
    · rename_i hM; exact ⟨m, rfl, hm, hM⟩
    · cases h
  · cases h
theorem same_self_o (k n : Int) (l : List UInt8) (w : World) : Calls Try.prog 21 #[.agg #[.int .i64 (k), .int .i64 (n), .string (str (l))], .agg #[.int .i64 (k), .int .i64 (n), .string (str (l))]] w fun e w' => e = .returned (.bool true) ∧ Below w.heap.size w w' :=
  same_is_o k n l k n l true w ((sameV_iff k n l k n l).2 ⟨rfl, rfl, rfl⟩)

set_option maxHeartbeats 1000000 in
set_option maxRecDepth 100000 in
theorem valOrder_skip (ka na : Int) (la : List UInt8) (kb nb : Int) (lb : List UInt8) (s t : Int) (w : World) (h : 2000 < la.length ∨ 2000 < lb.length) (m1 : la.length ≤ maxLen) (m2 : lb.length ≤ maxLen) :
    Calls Try.prog 8 #[.agg #[.int .i64 (ka), .int .i64 (na), .string (str (la))], .agg #[.int .i64 (kb), .int .i64 (nb), .string (str (lb))], .int .i64 s, .int .i64 t] w fun e w' => e = .returned (.bool true) ∧ Below w.heap.size w w' := by
  unfold maxLen at m1 m2
  have z1 := str_size la
  have z2 := str_size lb
  have hA0 := (Blk.new w #[.int .i64 (ka), .int .i64 (na), .string (str (la))] 35).alloc (.cells #[.int .i64 (kb), .int .i64 (nb), .string (str (lb))] 35)
  have hB0 := Blk.new2 w (.cells #[.int .i64 (ka), .int .i64 (na), .string (str (la))] 35) #[.int .i64 (kb), .int .i64 (nb), .string (str (lb))] 35
  have b0 : Below w.heap.size w ((w.alloc (.cells #[.int .i64 (ka), .int .i64 (na), .string (str (la))] 35)).alloc (.cells #[.int .i64 (kb), .int .i64 (nb), .string (str (lb))] 35)) := (by repeat (first | exact Below.refl _ _ | assumption | apply below_drewN' | apply Below.drew | refine Below.alloc ?_ (by first | omega | (simp; done) | (simp; omega)) _ | refine Below.setCell ?_ (by first | omega | (simp; done) | (simp; omega)) _))
  go_enter Try.func8, Try.ntmps8
  go_wp2_with fail
  refine (first15_calls _).mono ?_
  rintro e W1 ⟨rfl, b1⟩
  have hA := hA0.below b1 hA0.lt
  have hB := hB0.below b1 hB0.lt
  have bb1 := b0.next b1 (Nat.le_refl _)
  have hAlt := hA.lt
  have hBlt := hB.lt
  clear hA0 hB0 b0 b1
  have b1 := Below.refl W1.heap.size W1
  have a0 := (hA.below b1 hAlt).cell 0 (v := .int .i64 ka) rfl; have a1 := (hA.below b1 hAlt).cell 1 (v := .int .i64 na) rfl; have a2 := (hA.below b1 hAlt).cell 2 (v := .string (str la)) rfl; have a3 := (hB.below b1 hBlt).cell 0 (v := .int .i64 kb) rfl; have a4 := (hB.below b1 hBlt).cell 1 (v := .int .i64 nb) rfl; have a5 := (hB.below b1 hBlt).cell 2 (v := .string (str lb)) rfl
  by_cases h1 : 2000 < la.length
  · clear h
    go_wp2_with fail; refine (first15_calls _).mono ?_; rintro e w9 ⟨rfl, b9⟩; go_wp2; go_ret; exact ⟨rfl, bb1.next (b1.next b9 (Nat.le_refl _)) (Nat.le_refl _)⟩
  · have h2 : 2000 < lb.length := by omega
    have h3 : la.length ≤ 2000 := by omega
    clear h
    go_wp2_with fail; refine (first15_calls _).mono ?_; rintro e w9 ⟨rfl, b9⟩; go_wp2; go_ret; exact ⟨rfl, bb1.next (b1.next b9 (Nat.le_refl _)) (Nat.le_refl _)⟩

set_option maxHeartbeats 1000000 in
set_option maxRecDepth 100000 in
theorem valOrder_no (ka na : Int) (la : List UInt8) (kb nb : Int) (lb : List UInt8) (s t : Int) (w : World) (h1 : la.length ≤ 2000) (h2 : lb.length ≤ 2000) (E : Int) (hE : keyE s ka na la = E) (hne : E ≠ 0) :
    Calls Try.prog 8 #[.agg #[.int .i64 (ka), .int .i64 (na), .string (str (la))], .agg #[.int .i64 (kb), .int .i64 (nb), .string (str (lb))], .int .i64 s, .int .i64 t] w fun e w' => e = .returned (.bool true) ∧ Below w.heap.size w w' := by
  have z1 := str_size la
  have z2 := str_size lb
  have hA0 := (Blk.new w #[.int .i64 (ka), .int .i64 (na), .string (str (la))] 35).alloc (.cells #[.int .i64 (kb), .int .i64 (nb), .string (str (lb))] 35)
  have hB0 := Blk.new2 w (.cells #[.int .i64 (ka), .int .i64 (na), .string (str (la))] 35) #[.int .i64 (kb), .int .i64 (nb), .string (str (lb))] 35
  have b0 : Below w.heap.size w ((w.alloc (.cells #[.int .i64 (ka), .int .i64 (na), .string (str (la))] 35)).alloc (.cells #[.int .i64 (kb), .int .i64 (nb), .string (str (lb))] 35)) := (by repeat (first | exact Below.refl _ _ | assumption | apply below_drewN' | apply Below.drew | refine Below.alloc ?_ (by first | omega | (simp; done) | (simp; omega)) _ | refine Below.setCell ?_ (by first | omega | (simp; done) | (simp; omega)) _))
  have HK := Lib.hid (fun w => key_any s ka na la w)
  have HK2 := Lib.hid (fun w => key_any t kb nb lb w)
  rw [hE] at HK
  have e1 : (E == 0) = false := by rw [beq_eq_false_iff_ne]; exact hne
  have e2 : (E != 0) = true := by rw [bne_iff_ne]; exact hne
  clear hE hne
  generalize keyT s ka na la = X at *
  generalize keyT t kb nb lb = Y at *
  generalize keyE t kb nb lb = E2 at *
  go_enter Try.func8, Try.ntmps8
  go_wp2_with fail
  refine (first15_calls _).mono ?_
  rintro e W1 ⟨rfl, b1⟩
  have hA := hA0.below b1 hA0.lt
  have hB := hB0.below b1 hB0.lt
  have bb1 := b0.next b1 (Nat.le_refl _)
  have hAlt := hA.lt
  have hBlt := hB.lt
  clear hA0 hB0 b0 b1
  have b1 := Below.refl W1.heap.size W1
  have a0 := (hA.below b1 hAlt).cell 0 (v := .int .i64 ka) rfl; have a1 := (hA.below b1 hAlt).cell 1 (v := .int .i64 na) rfl; have a2 := (hA.below b1 hAlt).cell 2 (v := .string (str la)) rfl; have a3 := (hB.below b1 hBlt).cell 0 (v := .int .i64 kb) rfl; have a4 := (hB.below b1 hBlt).cell 1 (v := .int .i64 nb) rfl; have a5 := (hB.below b1 hBlt).cell 2 (v := .string (str lb)) rfl
  go_wp2_with fail
  refine (HK.out _).mono ?_
  rintro e w2 ⟨rfl, hb⟩
  have b2 := b1.next hb (Nat.le_refl _); clear a0 a1 a2 a3 a4 a5; have a0 := (hA.below b2 hAlt).cell 0 (v := .int .i64 ka) rfl; have a1 := (hA.below b2 hAlt).cell 1 (v := .int .i64 na) rfl; have a2 := (hA.below b2 hAlt).cell 2 (v := .string (str la)) rfl; have a3 := (hB.below b2 hBlt).cell 0 (v := .int .i64 kb) rfl; have a4 := (hB.below b2 hBlt).cell 1 (v := .int .i64 nb) rfl; have a5 := (hB.below b2 hBlt).cell 2 (v := .string (str lb)) rfl
  clear hb b1
  go_wp2_with fail
  refine (HK2.out _).mono ?_
  rintro e w3 ⟨rfl, hb⟩
  have b3 := b2.next hb (Nat.le_refl _); clear a0 a1 a2 a3 a4 a5; have a0 := (hA.below b3 hAlt).cell 0 (v := .int .i64 ka) rfl; have a1 := (hA.below b3 hAlt).cell 1 (v := .int .i64 na) rfl; have a2 := (hA.below b3 hAlt).cell 2 (v := .string (str la)) rfl; have a3 := (hB.below b3 hBlt).cell 0 (v := .int .i64 kb) rfl; have a4 := (hB.below b3 hBlt).cell 1 (v := .int .i64 nb) rfl; have a5 := (hB.below b3 hBlt).cell 2 (v := .string (str lb)) rfl
  clear hb b2 HK HK2
  go_wp2_with fail; refine (first15_calls _).mono ?_; rintro e w9 ⟨rfl, b9⟩; go_wp2; go_ret; exact ⟨rfl, bb1.next (b3.next b9 (Nat.le_refl _)) (Nat.le_refl _)⟩

set_option maxHeartbeats 2000000 in
set_option maxRecDepth 100000 in
theorem valOrder_one (m : Nat) (ka na : Int) (la : List UInt8) (kb nb : Int) (lb : List UInt8) (t : Int) (w : World) (hm4 : m < 4) (h1 : la.length ≤ 2000) (h2 : lb.length ≤ 2000) (hM : mayV ka na la = true) (n0 : -9223372036854775808 ≤ na) (n1 : na ≤ 9223372036854775807) (E : Int) (hE : keyE t kb nb lb = E) (hne : E ≠ 0) :
    Calls Try.prog 8 #[.agg #[.int .i64 (ka), .int .i64 (na), .string (str (la))], .agg #[.int .i64 (kb), .int .i64 (nb), .string (str (lb))], .int .i64 m, .int .i64 t] w fun e w' => e = .returned (.bool true) ∧ Below w.heap.size w w' := by
  have z1 := str_size la
  have z2 := str_size lb
  have hA0 := (Blk.new w #[.int .i64 (ka), .int .i64 (na), .string (str (la))] 35).alloc (.cells #[.int .i64 (kb), .int .i64 (nb), .string (str (lb))] 35)
  have hB0 := Blk.new2 w (.cells #[.int .i64 (ka), .int .i64 (na), .string (str (la))] 35) #[.int .i64 (kb), .int .i64 (nb), .string (str (lb))] 35
  have b0 : Below w.heap.size w ((w.alloc (.cells #[.int .i64 (ka), .int .i64 (na), .string (str (la))] 35)).alloc (.cells #[.int .i64 (kb), .int .i64 (nb), .string (str (lb))] 35)) := (by repeat (first | exact Below.refl _ _ | assumption | apply below_drewN' | apply Below.drew | refine Below.alloc ?_ (by first | omega | (simp; done) | (simp; omega)) _ | refine Below.setCell ?_ (by first | omega | (simp; done) | (simp; omega)) _))
  have hKT : keyT m ka na la = keyB m ka na la := by unfold keyT; rw [tab_ok m hm4, hM]; rfl
  have hKE : keyE m ka na la = 0 := by unfold keyE; rw [tab_ok m hm4, hM]; rfl
  have hET : encT ka na la = encB ka na la := by unfold encT; rw [hM]; rfl
  have hEE : encE ka na la = 0 := by unfold encE; rw [hM]; rfl
  have HK := Lib.hid (fun w => key_any m ka na la w)
  have HE := Lib.hid (fun w => enc_any ka na la w)
  have HP := Lib.hid (fun w h => parse_any (keyB m ka na la) w h)
  have HD := Lib.hid (fun A c w h => dec_any A 9 c (encB ka na la) w h (by omega))
  have hmt : (((UInt8.ofNat m).toNat : Nat) : Int) = m := by rw [ofNat_toNat m (by omega)]
  rw [hKT, hKE] at HK
  rw [hEE, hET] at HE
  rw [pkL_back m ka na la hm4 hM n0 n1, pkRet, if_pos rfl, hmt] at HP
  rw [dkL_back ka na la hM n0 n1, dkRet, if_pos rfl] at HD
  have hkl : (keyB m ka na la).length = 10 := by rw [keyB_is]; simp [keyM_length]
  have HP2 := Lib.hid (fun w => HP.out w (by rw [hkl]; omega))
  have hzk : (str (keyB m ka na la)).size = 10 := by rw [str_size, hkl]
  have hel := Lib.hid (encB_length ka na la)
  clear HP hKT hKE hET hEE hmt hkl
  generalize encB ka na la = EB at *
  have HK2 := Lib.hid (fun w => key_any t kb nb lb w)
  rw [hE] at HK2
  have e2 : (E != 0) = true := by rw [bne_iff_ne]; exact hne
  clear hE hne hM
  generalize keyB m ka na la = KA at *
  generalize keyT t kb nb lb = Y at *
  go_enter Try.func8, Try.ntmps8
  go_wp2_with fail
  refine (first15_calls _).mono ?_
  rintro e W1 ⟨rfl, b1⟩
  have hA := hA0.below b1 hA0.lt
  have hB := hB0.below b1 hB0.lt
  have bb1 := b0.next b1 (Nat.le_refl _)
  have hAlt := hA.lt
  have hBlt := hB.lt
  clear hA0 hB0 b0 b1
  have b1 := Below.refl W1.heap.size W1
  have a0 := (hA.below b1 hAlt).cell 0 (v := .int .i64 ka) rfl; have a1 := (hA.below b1 hAlt).cell 1 (v := .int .i64 na) rfl; have a2 := (hA.below b1 hAlt).cell 2 (v := .string (str la)) rfl; have a3 := (hB.below b1 hBlt).cell 0 (v := .int .i64 kb) rfl; have a4 := (hB.below b1 hBlt).cell 1 (v := .int .i64 nb) rfl; have a5 := (hB.below b1 hBlt).cell 2 (v := .string (str lb)) rfl
  go_wp2_with fail
  refine (HK.out _).mono ?_
  rintro e w2 ⟨rfl, hb⟩
  have b2 := b1.next hb (Nat.le_refl _); clear a0 a1 a2 a3 a4 a5; have a0 := (hA.below b2 hAlt).cell 0 (v := .int .i64 ka) rfl; have a1 := (hA.below b2 hAlt).cell 1 (v := .int .i64 na) rfl; have a2 := (hA.below b2 hAlt).cell 2 (v := .string (str la)) rfl; have a3 := (hB.below b2 hBlt).cell 0 (v := .int .i64 kb) rfl; have a4 := (hB.below b2 hBlt).cell 1 (v := .int .i64 nb) rfl; have a5 := (hB.below b2 hBlt).cell 2 (v := .string (str lb)) rfl
  clear hb b1
  go_wp2_with fail
  refine (HK2.out _).mono ?_
  rintro e w3 ⟨rfl, hb⟩
  have b3 := b2.next hb (Nat.le_refl _); clear a0 a1 a2 a3 a4 a5; have a0 := (hA.below b3 hAlt).cell 0 (v := .int .i64 ka) rfl; have a1 := (hA.below b3 hAlt).cell 1 (v := .int .i64 na) rfl; have a2 := (hA.below b3 hAlt).cell 2 (v := .string (str la)) rfl; have a3 := (hB.below b3 hBlt).cell 0 (v := .int .i64 kb) rfl; have a4 := (hB.below b3 hBlt).cell 1 (v := .int .i64 nb) rfl; have a5 := (hB.below b3 hBlt).cell 2 (v := .string (str lb)) rfl
  clear hb b2 HK HK2
  go_wp2_with fail
  refine (HP2.out _).mono ?_
  rintro e w4 ⟨rfl, hb⟩
  have b4 := b3.next hb (Nat.le_refl _)
  have hX4 := Blk.new w4 #[.int .i64 (ka), .int .i64 (na), .string (str (la))] 35
  have b4' := b4.alloc b4.size (.cells #[.int .i64 (ka), .int .i64 (na), .string (str (la))] 35)
  have x0 := hX4.cell 0 (v := .int .i64 ka) rfl
  have x1 := hX4.cell 1 (v := .int .i64 na) rfl
  have x2 := hX4.cell 2 (v := .string (str la)) rfl
  clear a0 a1 a2 a3 a4 a5 hb b3 HP2
  have a0 := (hA.below b4' hAlt).cell 0 (v := .int .i64 ka) rfl; have a1 := (hA.below b4' hAlt).cell 1 (v := .int .i64 na) rfl; have a2 := (hA.below b4' hAlt).cell 2 (v := .string (str la)) rfl; have a3 := (hB.below b4' hBlt).cell 0 (v := .int .i64 kb) rfl; have a4 := (hB.below b4' hBlt).cell 1 (v := .int .i64 nb) rfl; have a5 := (hB.below b4' hBlt).cell 2 (v := .string (str lb)) rfl
  go_wp2_with fail
  refine (same_self_o ka na la _).mono ?_
  rintro e w5 ⟨rfl, hb⟩
  clear x0 x1 x2
  have b5 := b4'.next hb (Nat.le_refl _); clear a0 a1 a2 a3 a4 a5; have a0 := (hA.below b5 hAlt).cell 0 (v := .int .i64 ka) rfl; have a1 := (hA.below b5 hAlt).cell 1 (v := .int .i64 na) rfl; have a2 := (hA.below b5 hAlt).cell 2 (v := .string (str la)) rfl; have a3 := (hB.below b5 hBlt).cell 0 (v := .int .i64 kb) rfl; have a4 := (hB.below b5 hBlt).cell 1 (v := .int .i64 nb) rfl; have a5 := (hB.below b5 hBlt).cell 2 (v := .string (str lb)) rfl
  clear hb b4 b4' hX4
  go_wp2_with fail
  refine (HE.out _).mono ?_
  rintro e w6 ⟨v6, rfl, ho, hb⟩
  obtain ⟨A6, c6, rfl, hr6⟩ := ho.sl 9 hel.out
  have b6 := b5.next hb (Nat.le_refl _); clear a0 a1 a2 a3 a4 a5; have a0 := (hA.below b6 hAlt).cell 0 (v := .int .i64 ka) rfl; have a1 := (hA.below b6 hAlt).cell 1 (v := .int .i64 na) rfl; have a2 := (hA.below b6 hAlt).cell 2 (v := .string (str la)) rfl; have a3 := (hB.below b6 hBlt).cell 0 (v := .int .i64 kb) rfl; have a4 := (hB.below b6 hBlt).cell 1 (v := .int .i64 nb) rfl; have a5 := (hB.below b6 hBlt).cell 2 (v := .string (str lb)) rfl
  clear hb b5 HE ho
  go_wp2_with fail
  refine (HD.out _ _ _ hr6).mono ?_
  rintro e w7 ⟨rfl, hb⟩
  have b7 := b6.next hb (Nat.le_refl _)
  have hX7 := Blk.new w7 #[.int .i64 (ka), .int .i64 (na), .string (str (la))] 35
  have b7' := b7.alloc b7.size (.cells #[.int .i64 (ka), .int .i64 (na), .string (str (la))] 35)
  have x0 := hX7.cell 0 (v := .int .i64 ka) rfl
  have x1 := hX7.cell 1 (v := .int .i64 na) rfl
  have x2 := hX7.cell 2 (v := .string (str la)) rfl
  clear a0 a1 a2 a3 a4 a5 hb b6 HD hr6
  have a0 := (hA.below b7' hAlt).cell 0 (v := .int .i64 ka) rfl; have a1 := (hA.below b7' hAlt).cell 1 (v := .int .i64 na) rfl; have a2 := (hA.below b7' hAlt).cell 2 (v := .string (str la)) rfl; have a3 := (hB.below b7' hBlt).cell 0 (v := .int .i64 kb) rfl; have a4 := (hB.below b7' hBlt).cell 1 (v := .int .i64 nb) rfl; have a5 := (hB.below b7' hBlt).cell 2 (v := .string (str lb)) rfl
  go_wp2_with fail
  refine (same_self_o ka na la _).mono ?_
  rintro e w8 ⟨rfl, hb⟩
  clear x0 x1 x2
  have b8 := b7'.next hb (Nat.le_refl _); clear a0 a1 a2 a3 a4 a5; have a0 := (hA.below b8 hAlt).cell 0 (v := .int .i64 ka) rfl; have a1 := (hA.below b8 hAlt).cell 1 (v := .int .i64 na) rfl; have a2 := (hA.below b8 hAlt).cell 2 (v := .string (str la)) rfl; have a3 := (hB.below b8 hBlt).cell 0 (v := .int .i64 kb) rfl; have a4 := (hB.below b8 hBlt).cell 1 (v := .int .i64 nb) rfl; have a5 := (hB.below b8 hBlt).cell 2 (v := .string (str lb)) rfl
  clear hb b7 b7' hX7
  go_wp2_with fail; refine (first15_calls _).mono ?_; rintro e w9 ⟨rfl, b9⟩; go_wp2; go_ret; exact ⟨rfl, bb1.next (b8.next b9 (Nat.le_refl _)) (Nat.le_refl _)⟩

set_option maxHeartbeats 2000000 in
set_option maxRecDepth 100000 in
theorem valOrder_tables (m m' : Nat) (ka na : Int) (la : List UInt8) (kb nb : Int) (lb : List UInt8) (w : World) (hm4 : m < 4) (hm4' : m' < 4) (hne : m ≠ m') (h1 : la.length ≤ 2000) (h2 : lb.length ≤ 2000) (hM : mayV ka na la = true) (hM' : mayV kb nb lb = true) (n0 : -9223372036854775808 ≤ na) (n1 : na ≤ 9223372036854775807) :
    Calls Try.prog 8 #[.agg #[.int .i64 (ka), .int .i64 (na), .string (str (la))], .agg #[.int .i64 (kb), .int .i64 (nb), .string (str (lb))], .int .i64 m, .int .i64 m'] w fun e w' => e = .returned (.bool true) ∧ Below w.heap.size w w' := by
  have z1 := str_size la
  have z2 := str_size lb
  have hA0 := (Blk.new w #[.int .i64 (ka), .int .i64 (na), .string (str (la))] 35).alloc (.cells #[.int .i64 (kb), .int .i64 (nb), .string (str (lb))] 35)
  have hB0 := Blk.new2 w (.cells #[.int .i64 (ka), .int .i64 (na), .string (str (la))] 35) #[.int .i64 (kb), .int .i64 (nb), .string (str (lb))] 35
  have b0 : Below w.heap.size w ((w.alloc (.cells #[.int .i64 (ka), .int .i64 (na), .string (str (la))] 35)).alloc (.cells #[.int .i64 (kb), .int .i64 (nb), .string (str (lb))] 35)) := (by repeat (first | exact Below.refl _ _ | assumption | apply below_drewN' | apply Below.drew | refine Below.alloc ?_ (by first | omega | (simp; done) | (simp; omega)) _ | refine Below.setCell ?_ (by first | omega | (simp; done) | (simp; omega)) _))
  have hKT : keyT m ka na la = keyB m ka na la := by unfold keyT; rw [tab_ok m hm4, hM]; rfl
  have hKE : keyE m ka na la = 0 := by unfold keyE; rw [tab_ok m hm4, hM]; rfl
  have hET : encT ka na la = encB ka na la := by unfold encT; rw [hM]; rfl
  have hEE : encE ka na la = 0 := by unfold encE; rw [hM]; rfl
  have HK := Lib.hid (fun w => key_any m ka na la w)
  have HE := Lib.hid (fun w => enc_any ka na la w)
  have HP := Lib.hid (fun w h => parse_any (keyB m ka na la) w h)
  have HD := Lib.hid (fun A c w h => dec_any A 9 c (encB ka na la) w h (by omega))
  have hmt : (((UInt8.ofNat m).toNat : Nat) : Int) = m := by rw [ofNat_toNat m (by omega)]
  rw [hKT, hKE] at HK
  rw [hEE, hET] at HE
  rw [pkL_back m ka na la hm4 hM n0 n1, pkRet, if_pos rfl, hmt] at HP
  rw [dkL_back ka na la hM n0 n1, dkRet, if_pos rfl] at HD
  have hkl : (keyB m ka na la).length = 10 := by rw [keyB_is]; simp [keyM_length]
  have HP2 := Lib.hid (fun w => HP.out w (by rw [hkl]; omega))
  have hzk : (str (keyB m ka na la)).size = 10 := by rw [str_size, hkl]
  have hel := Lib.hid (encB_length ka na la)
  clear HP hKT hKE hET hEE hmt hkl
  generalize encB ka na la = EB at *
  have hKT : keyT m' kb nb lb = keyB m' kb nb lb := by unfold keyT; rw [tab_ok m' hm4', hM']; rfl
  have hKE : keyE m' kb nb lb = 0 := by unfold keyE; rw [tab_ok m' hm4', hM']; rfl
  have HK2 := Lib.hid (fun w => key_any m' kb nb lb w)
  rw [hKT, hKE] at HK2
  clear hKT hKE
  have g1 : ((m : Int) == (m' : Int)) = false := by rw [beq_eq_false_iff_ne]; omega
  have g2 : ((m : Int) != (m' : Int)) = true := by rw [bne_iff_ne]; omega
  have T1 := str_list (keyB m ka na la)
  have T2 := str_list (keyB m' kb nb lb)
  have g3 := keyB_tables m m' ka na la kb nb lb hm4 hm4' hne
  obtain ⟨d, hd⟩ : ∃ d, decide ((m : Int) < (m' : Int)) = d := ⟨_, rfl⟩
  have hdn : decide (m < m') = d := by rw [← hd, decide_eq_decide]; omega
  rw [hd] at g3
  clear hM hM' hne hm4 hm4'
  generalize keyB m ka na la = KA at *
  generalize keyB m' kb nb lb = KB at *
  go_enter Try.func8, Try.ntmps8
  go_wp2_with fail
  refine (first15_calls _).mono ?_
  rintro e W1 ⟨rfl, b1⟩
  have hA := hA0.below b1 hA0.lt
  have hB := hB0.below b1 hB0.lt
  have bb1 := b0.next b1 (Nat.le_refl _)
  have hAlt := hA.lt
  have hBlt := hB.lt
  clear hA0 hB0 b0 b1
  have b1 := Below.refl W1.heap.size W1
  have a0 := (hA.below b1 hAlt).cell 0 (v := .int .i64 ka) rfl; have a1 := (hA.below b1 hAlt).cell 1 (v := .int .i64 na) rfl; have a2 := (hA.below b1 hAlt).cell 2 (v := .string (str la)) rfl; have a3 := (hB.below b1 hBlt).cell 0 (v := .int .i64 kb) rfl; have a4 := (hB.below b1 hBlt).cell 1 (v := .int .i64 nb) rfl; have a5 := (hB.below b1 hBlt).cell 2 (v := .string (str lb)) rfl
  go_wp2_with fail
  refine (HK.out _).mono ?_
  rintro e w2 ⟨rfl, hb⟩
  have b2 := b1.next hb (Nat.le_refl _); clear a0 a1 a2 a3 a4 a5; have a0 := (hA.below b2 hAlt).cell 0 (v := .int .i64 ka) rfl; have a1 := (hA.below b2 hAlt).cell 1 (v := .int .i64 na) rfl; have a2 := (hA.below b2 hAlt).cell 2 (v := .string (str la)) rfl; have a3 := (hB.below b2 hBlt).cell 0 (v := .int .i64 kb) rfl; have a4 := (hB.below b2 hBlt).cell 1 (v := .int .i64 nb) rfl; have a5 := (hB.below b2 hBlt).cell 2 (v := .string (str lb)) rfl
  clear hb b1
  go_wp2_with fail
  refine (HK2.out _).mono ?_
  rintro e w3 ⟨rfl, hb⟩
  have b3 := b2.next hb (Nat.le_refl _); clear a0 a1 a2 a3 a4 a5; have a0 := (hA.below b3 hAlt).cell 0 (v := .int .i64 ka) rfl; have a1 := (hA.below b3 hAlt).cell 1 (v := .int .i64 na) rfl; have a2 := (hA.below b3 hAlt).cell 2 (v := .string (str la)) rfl; have a3 := (hB.below b3 hBlt).cell 0 (v := .int .i64 kb) rfl; have a4 := (hB.below b3 hBlt).cell 1 (v := .int .i64 nb) rfl; have a5 := (hB.below b3 hBlt).cell 2 (v := .string (str lb)) rfl
  clear hb b2 HK HK2
  go_wp2_with fail
  refine (HP2.out _).mono ?_
  rintro e w4 ⟨rfl, hb⟩
  have b4 := b3.next hb (Nat.le_refl _)
  have hX4 := Blk.new w4 #[.int .i64 (ka), .int .i64 (na), .string (str (la))] 35
  have b4' := b4.alloc b4.size (.cells #[.int .i64 (ka), .int .i64 (na), .string (str (la))] 35)
  have x0 := hX4.cell 0 (v := .int .i64 ka) rfl
  have x1 := hX4.cell 1 (v := .int .i64 na) rfl
  have x2 := hX4.cell 2 (v := .string (str la)) rfl
  clear a0 a1 a2 a3 a4 a5 hb b3 HP2
  have a0 := (hA.below b4' hAlt).cell 0 (v := .int .i64 ka) rfl; have a1 := (hA.below b4' hAlt).cell 1 (v := .int .i64 na) rfl; have a2 := (hA.below b4' hAlt).cell 2 (v := .string (str la)) rfl; have a3 := (hB.below b4' hBlt).cell 0 (v := .int .i64 kb) rfl; have a4 := (hB.below b4' hBlt).cell 1 (v := .int .i64 nb) rfl; have a5 := (hB.below b4' hBlt).cell 2 (v := .string (str lb)) rfl
  go_wp2_with fail
  refine (same_self_o ka na la _).mono ?_
  rintro e w5 ⟨rfl, hb⟩
  clear x0 x1 x2
  have b5 := b4'.next hb (Nat.le_refl _); clear a0 a1 a2 a3 a4 a5; have a0 := (hA.below b5 hAlt).cell 0 (v := .int .i64 ka) rfl; have a1 := (hA.below b5 hAlt).cell 1 (v := .int .i64 na) rfl; have a2 := (hA.below b5 hAlt).cell 2 (v := .string (str la)) rfl; have a3 := (hB.below b5 hBlt).cell 0 (v := .int .i64 kb) rfl; have a4 := (hB.below b5 hBlt).cell 1 (v := .int .i64 nb) rfl; have a5 := (hB.below b5 hBlt).cell 2 (v := .string (str lb)) rfl
  clear hb b4 b4' hX4
  go_wp2_with fail
  refine (HE.out _).mono ?_
  rintro e w6 ⟨v6, rfl, ho, hb⟩
  obtain ⟨A6, c6, rfl, hr6⟩ := ho.sl 9 hel.out
  have b6 := b5.next hb (Nat.le_refl _); clear a0 a1 a2 a3 a4 a5; have a0 := (hA.below b6 hAlt).cell 0 (v := .int .i64 ka) rfl; have a1 := (hA.below b6 hAlt).cell 1 (v := .int .i64 na) rfl; have a2 := (hA.below b6 hAlt).cell 2 (v := .string (str la)) rfl; have a3 := (hB.below b6 hBlt).cell 0 (v := .int .i64 kb) rfl; have a4 := (hB.below b6 hBlt).cell 1 (v := .int .i64 nb) rfl; have a5 := (hB.below b6 hBlt).cell 2 (v := .string (str lb)) rfl
  clear hb b5 HE ho
  go_wp2_with fail
  refine (HD.out _ _ _ hr6).mono ?_
  rintro e w7 ⟨rfl, hb⟩
  have b7 := b6.next hb (Nat.le_refl _)
  have hX7 := Blk.new w7 #[.int .i64 (ka), .int .i64 (na), .string (str (la))] 35
  have b7' := b7.alloc b7.size (.cells #[.int .i64 (ka), .int .i64 (na), .string (str (la))] 35)
  have x0 := hX7.cell 0 (v := .int .i64 ka) rfl
  have x1 := hX7.cell 1 (v := .int .i64 na) rfl
  have x2 := hX7.cell 2 (v := .string (str la)) rfl
  clear a0 a1 a2 a3 a4 a5 hb b6 HD hr6
  have a0 := (hA.below b7' hAlt).cell 0 (v := .int .i64 ka) rfl; have a1 := (hA.below b7' hAlt).cell 1 (v := .int .i64 na) rfl; have a2 := (hA.below b7' hAlt).cell 2 (v := .string (str la)) rfl; have a3 := (hB.below b7' hBlt).cell 0 (v := .int .i64 kb) rfl; have a4 := (hB.below b7' hBlt).cell 1 (v := .int .i64 nb) rfl; have a5 := (hB.below b7' hBlt).cell 2 (v := .string (str lb)) rfl
  go_wp2_with fail
  refine (same_self_o ka na la _).mono ?_
  rintro e w8 ⟨rfl, hb⟩
  clear x0 x1 x2
  have b8 := b7'.next hb (Nat.le_refl _); clear a0 a1 a2 a3 a4 a5; have a0 := (hA.below b8 hAlt).cell 0 (v := .int .i64 ka) rfl; have a1 := (hA.below b8 hAlt).cell 1 (v := .int .i64 na) rfl; have a2 := (hA.below b8 hAlt).cell 2 (v := .string (str la)) rfl; have a3 := (hB.below b8 hBlt).cell 0 (v := .int .i64 kb) rfl; have a4 := (hB.below b8 hBlt).cell 1 (v := .int .i64 nb) rfl; have a5 := (hB.below b8 hBlt).cell 2 (v := .string (str lb)) rfl
  clear hb b7 b7' hX7
  go_wp2_with fail; refine (first15_calls _).mono ?_; rintro e w9 ⟨rfl, b9⟩; go_wp2; go_ret; exact ⟨rfl, bb1.next (b8.next b9 (Nat.le_refl _)) (Nat.le_refl _)⟩

set_option maxHeartbeats 2000000 in
set_option maxRecDepth 100000 in
theorem valOrder_kinds (m : Nat) (ka na : Int) (la : List UInt8) (kb nb : Int) (lb : List UInt8) (w : World) (hm4 : m < 4) (hne : ka ≠ kb) (h1 : la.length ≤ 2000) (h2 : lb.length ≤ 2000) (hM : mayV ka na la = true) (hM' : mayV kb nb lb = true) (n0 : -9223372036854775808 ≤ na) (n1 : na ≤ 9223372036854775807) (n2 : -9223372036854775808 ≤ nb) (n3 : nb ≤ 9223372036854775807) :
    Calls Try.prog 8 #[.agg #[.int .i64 (ka), .int .i64 (na), .string (str (la))], .agg #[.int .i64 (kb), .int .i64 (nb), .string (str (lb))], .int .i64 m, .int .i64 m] w fun e w' => e = .returned (.bool true) ∧ Below w.heap.size w w' := by
  have hm4' := hm4
  obtain ⟨m', hm'⟩ : ∃ m', m' = m := ⟨m, rfl⟩
  have hx : (keyB m ka na la == keyB m' kb nb lb) = false := by
    rw [hm', keyB_inj m ka na la kb nb lb hm4 hM hM' n0 n1 n2 n3]
    cases hs : sameV ka na la kb nb lb with
    | false => rfl
    | true => exact absurd ((sameV_iff ka na la kb nb lb).1 hs).1 hne
  rw [← hm'] at hm4'
  have z1 := str_size la
  have z2 := str_size lb
  have hA0 := (Blk.new w #[.int .i64 (ka), .int .i64 (na), .string (str (la))] 35).alloc (.cells #[.int .i64 (kb), .int .i64 (nb), .string (str (lb))] 35)
  have hB0 := Blk.new2 w (.cells #[.int .i64 (ka), .int .i64 (na), .string (str (la))] 35) #[.int .i64 (kb), .int .i64 (nb), .string (str (lb))] 35
  have b0 : Below w.heap.size w ((w.alloc (.cells #[.int .i64 (ka), .int .i64 (na), .string (str (la))] 35)).alloc (.cells #[.int .i64 (kb), .int .i64 (nb), .string (str (lb))] 35)) := (by repeat (first | exact Below.refl _ _ | assumption | apply below_drewN' | apply Below.drew | refine Below.alloc ?_ (by first | omega | (simp; done) | (simp; omega)) _ | refine Below.setCell ?_ (by first | omega | (simp; done) | (simp; omega)) _))
  have hKT : keyT m ka na la = keyB m ka na la := by unfold keyT; rw [tab_ok m hm4, hM]; rfl
  have hKE : keyE m ka na la = 0 := by unfold keyE; rw [tab_ok m hm4, hM]; rfl
  have hET : encT ka na la = encB ka na la := by unfold encT; rw [hM]; rfl
  have hEE : encE ka na la = 0 := by unfold encE; rw [hM]; rfl
  have HK := Lib.hid (fun w => key_any m ka na la w)
  have HE := Lib.hid (fun w => enc_any ka na la w)
  have HP := Lib.hid (fun w h => parse_any (keyB m ka na la) w h)
  have HD := Lib.hid (fun A c w h => dec_any A 9 c (encB ka na la) w h (by omega))
  have hmt : (((UInt8.ofNat m).toNat : Nat) : Int) = m := by rw [ofNat_toNat m (by omega)]
  rw [hKT, hKE] at HK
  rw [hEE, hET] at HE
  rw [pkL_back m ka na la hm4 hM n0 n1, pkRet, if_pos rfl, hmt] at HP
  rw [dkL_back ka na la hM n0 n1, dkRet, if_pos rfl] at HD
  have hkl : (keyB m ka na la).length = 10 := by rw [keyB_is]; simp [keyM_length]
  have HP2 := Lib.hid (fun w => HP.out w (by rw [hkl]; omega))
  have hzk : (str (keyB m ka na la)).size = 10 := by rw [str_size, hkl]
  have hel := Lib.hid (encB_length ka na la)
  clear HP hKT hKE hET hEE hmt hkl
  generalize encB ka na la = EB at *
  have hKT : keyT m' kb nb lb = keyB m' kb nb lb := by unfold keyT; rw [tab_ok m' hm4', hM']; rfl
  have hKE : keyE m' kb nb lb = 0 := by unfold keyE; rw [tab_ok m' hm4', hM']; rfl
  have HK2 := Lib.hid (fun w => key_any m' kb nb lb w)
  rw [hKT, hKE] at HK2
  clear hKT hKE
  have g1 : (ka == kb) = false := by rw [beq_eq_false_iff_ne]; exact hne
  have g2 : (ka != kb) = true := by rw [bne_iff_ne]; exact hne
  have T1 := str_list (keyB m ka na la)
  have T2 := str_list (keyB m' kb nb lb)
  clear hM hM' hne hm4 hm4' n2 n3
  generalize keyB m ka na la = KA at *
  generalize keyB m' kb nb lb = KB at *
  have hx2 : (KA != KB) = true := by rw [bne, hx]; rfl
  subst hm'
  go_enter Try.func8, Try.ntmps8
  go_wp2_with fail
  refine (first15_calls _).mono ?_
  rintro e W1 ⟨rfl, b1⟩
  have hA := hA0.below b1 hA0.lt
  have hB := hB0.below b1 hB0.lt
  have bb1 := b0.next b1 (Nat.le_refl _)
  have hAlt := hA.lt
  have hBlt := hB.lt
  clear hA0 hB0 b0 b1
  have b1 := Below.refl W1.heap.size W1
  have a0 := (hA.below b1 hAlt).cell 0 (v := .int .i64 ka) rfl; have a1 := (hA.below b1 hAlt).cell 1 (v := .int .i64 na) rfl; have a2 := (hA.below b1 hAlt).cell 2 (v := .string (str la)) rfl; have a3 := (hB.below b1 hBlt).cell 0 (v := .int .i64 kb) rfl; have a4 := (hB.below b1 hBlt).cell 1 (v := .int .i64 nb) rfl; have a5 := (hB.below b1 hBlt).cell 2 (v := .string (str lb)) rfl
  go_wp2_with fail
  refine (HK.out _).mono ?_
  rintro e w2 ⟨rfl, hb⟩
  have b2 := b1.next hb (Nat.le_refl _); clear a0 a1 a2 a3 a4 a5; have a0 := (hA.below b2 hAlt).cell 0 (v := .int .i64 ka) rfl; have a1 := (hA.below b2 hAlt).cell 1 (v := .int .i64 na) rfl; have a2 := (hA.below b2 hAlt).cell 2 (v := .string (str la)) rfl; have a3 := (hB.below b2 hBlt).cell 0 (v := .int .i64 kb) rfl; have a4 := (hB.below b2 hBlt).cell 1 (v := .int .i64 nb) rfl; have a5 := (hB.below b2 hBlt).cell 2 (v := .string (str lb)) rfl
  clear hb b1
  go_wp2_with fail
  refine (HK2.out _).mono ?_
  rintro e w3 ⟨rfl, hb⟩
  have b3 := b2.next hb (Nat.le_refl _); clear a0 a1 a2 a3 a4 a5; have a0 := (hA.below b3 hAlt).cell 0 (v := .int .i64 ka) rfl; have a1 := (hA.below b3 hAlt).cell 1 (v := .int .i64 na) rfl; have a2 := (hA.below b3 hAlt).cell 2 (v := .string (str la)) rfl; have a3 := (hB.below b3 hBlt).cell 0 (v := .int .i64 kb) rfl; have a4 := (hB.below b3 hBlt).cell 1 (v := .int .i64 nb) rfl; have a5 := (hB.below b3 hBlt).cell 2 (v := .string (str lb)) rfl
  clear hb b2 HK HK2
  go_wp2_with fail
  refine (HP2.out _).mono ?_
  rintro e w4 ⟨rfl, hb⟩
  have b4 := b3.next hb (Nat.le_refl _)
  have hX4 := Blk.new w4 #[.int .i64 (ka), .int .i64 (na), .string (str (la))] 35
  have b4' := b4.alloc b4.size (.cells #[.int .i64 (ka), .int .i64 (na), .string (str (la))] 35)
  have x0 := hX4.cell 0 (v := .int .i64 ka) rfl
  have x1 := hX4.cell 1 (v := .int .i64 na) rfl
  have x2 := hX4.cell 2 (v := .string (str la)) rfl
  clear a0 a1 a2 a3 a4 a5 hb b3 HP2
  have a0 := (hA.below b4' hAlt).cell 0 (v := .int .i64 ka) rfl; have a1 := (hA.below b4' hAlt).cell 1 (v := .int .i64 na) rfl; have a2 := (hA.below b4' hAlt).cell 2 (v := .string (str la)) rfl; have a3 := (hB.below b4' hBlt).cell 0 (v := .int .i64 kb) rfl; have a4 := (hB.below b4' hBlt).cell 1 (v := .int .i64 nb) rfl; have a5 := (hB.below b4' hBlt).cell 2 (v := .string (str lb)) rfl
  go_wp2_with fail
  refine (same_self_o ka na la _).mono ?_
  rintro e w5 ⟨rfl, hb⟩
  clear x0 x1 x2
  have b5 := b4'.next hb (Nat.le_refl _); clear a0 a1 a2 a3 a4 a5; have a0 := (hA.below b5 hAlt).cell 0 (v := .int .i64 ka) rfl; have a1 := (hA.below b5 hAlt).cell 1 (v := .int .i64 na) rfl; have a2 := (hA.below b5 hAlt).cell 2 (v := .string (str la)) rfl; have a3 := (hB.below b5 hBlt).cell 0 (v := .int .i64 kb) rfl; have a4 := (hB.below b5 hBlt).cell 1 (v := .int .i64 nb) rfl; have a5 := (hB.below b5 hBlt).cell 2 (v := .string (str lb)) rfl
  clear hb b4 b4' hX4
  go_wp2_with fail
  refine (HE.out _).mono ?_
  rintro e w6 ⟨v6, rfl, ho, hb⟩
  obtain ⟨A6, c6, rfl, hr6⟩ := ho.sl 9 hel.out
  have b6 := b5.next hb (Nat.le_refl _); clear a0 a1 a2 a3 a4 a5; have a0 := (hA.below b6 hAlt).cell 0 (v := .int .i64 ka) rfl; have a1 := (hA.below b6 hAlt).cell 1 (v := .int .i64 na) rfl; have a2 := (hA.below b6 hAlt).cell 2 (v := .string (str la)) rfl; have a3 := (hB.below b6 hBlt).cell 0 (v := .int .i64 kb) rfl; have a4 := (hB.below b6 hBlt).cell 1 (v := .int .i64 nb) rfl; have a5 := (hB.below b6 hBlt).cell 2 (v := .string (str lb)) rfl
  clear hb b5 HE ho
  go_wp2_with fail
  refine (HD.out _ _ _ hr6).mono ?_
  rintro e w7 ⟨rfl, hb⟩
  have b7 := b6.next hb (Nat.le_refl _)
  have hX7 := Blk.new w7 #[.int .i64 (ka), .int .i64 (na), .string (str (la))] 35
  have b7' := b7.alloc b7.size (.cells #[.int .i64 (ka), .int .i64 (na), .string (str (la))] 35)
  have x0 := hX7.cell 0 (v := .int .i64 ka) rfl
  have x1 := hX7.cell 1 (v := .int .i64 na) rfl
  have x2 := hX7.cell 2 (v := .string (str la)) rfl
  clear a0 a1 a2 a3 a4 a5 hb b6 HD hr6
  have a0 := (hA.below b7' hAlt).cell 0 (v := .int .i64 ka) rfl; have a1 := (hA.below b7' hAlt).cell 1 (v := .int .i64 na) rfl; have a2 := (hA.below b7' hAlt).cell 2 (v := .string (str la)) rfl; have a3 := (hB.below b7' hBlt).cell 0 (v := .int .i64 kb) rfl; have a4 := (hB.below b7' hBlt).cell 1 (v := .int .i64 nb) rfl; have a5 := (hB.below b7' hBlt).cell 2 (v := .string (str lb)) rfl
  go_wp2_with fail
  refine (same_self_o ka na la _).mono ?_
  rintro e w8 ⟨rfl, hb⟩
  clear x0 x1 x2
  have b8 := b7'.next hb (Nat.le_refl _); clear a0 a1 a2 a3 a4 a5; have a0 := (hA.below b8 hAlt).cell 0 (v := .int .i64 ka) rfl; have a1 := (hA.below b8 hAlt).cell 1 (v := .int .i64 na) rfl; have a2 := (hA.below b8 hAlt).cell 2 (v := .string (str la)) rfl; have a3 := (hB.below b8 hBlt).cell 0 (v := .int .i64 kb) rfl; have a4 := (hB.below b8 hBlt).cell 1 (v := .int .i64 nb) rfl; have a5 := (hB.below b8 hBlt).cell 2 (v := .string (str lb)) rfl
  clear hb b7 b7' hX7
  go_wp2_with fail; refine (first15_calls _).mono ?_; rintro e w9 ⟨rfl, b9⟩; go_wp2; go_ret; exact ⟨rfl, bb1.next (b8.next b9 (Nat.le_refl _)) (Nat.le_refl _)⟩

set_option maxHeartbeats 2000000 in
set_option maxRecDepth 100000 in
theorem valOrder_kind (m : Nat) (ka na : Int) (la : List UInt8) (kb nb : Int) (lb : List UInt8) (w : World) (hm4 : m < 4) (hk : ka = kb) (h1 : la.length ≤ 2000) (h2 : lb.length ≤ 2000) (hM : mayV ka na la = true) (hM' : mayV kb nb lb = true) (n0 : -9223372036854775808 ≤ na) (n1 : na ≤ 9223372036854775807) (n2 : -9223372036854775808 ≤ nb) (n3 : nb ≤ 9223372036854775807) :
    Calls Try.prog 8 #[.agg #[.int .i64 (ka), .int .i64 (na), .string (str (la))], .agg #[.int .i64 (kb), .int .i64 (nb), .string (str (lb))], .int .i64 m, .int .i64 m] w fun e w' => e = .returned (.bool true) ∧ Below w.heap.size w w' := by
  have hm4' := hm4
  obtain ⟨m', hm'⟩ : ∃ m', m' = m := ⟨m, rfl⟩
  have hp : Op.bytesLess (keyB m ka na la) (keyB m' kb nb lb) = lessV ka na la kb nb lb := by
    rw [hm', ← hk] at *; exact keyB_less m ka na la nb lb hM hM' n0 n1 n2 n3
  have hq : Op.bytesLess (keyB m' kb nb lb) (keyB m ka na la) = lessV kb nb lb ka na la := by
    rw [hm', ← hk] at *; exact keyB_less m ka nb lb na la hM' hM n2 n3 n0 n1
  have hr : (keyB m ka na la == keyB m' kb nb lb) = sameV ka na la kb nb lb := by
    rw [hm']; exact keyB_inj m ka na la kb nb lb hm4 hM hM' n0 n1 n2 n3
  have HP1 := Lib.hid (fun w => less_is_o ka na la kb nb lb _ w rfl)
  have HQ1 := Lib.hid (fun w => less_is_o kb nb lb ka na la _ w rfl)
  have HR1 := Lib.hid (fun w => same_is_o ka na la kb nb lb _ w rfl)
  rw [← hp] at HP1
  rw [← hq] at HQ1
  rw [← hr] at HR1
  clear hp hq hr
  rw [← hm'] at hm4'
  have g1 : (ka == kb) = true := by rw [beq_iff_eq]; exact hk
  have g2 : (ka != kb) = false := by rw [bne, g1]; rfl
  clear hk
  have z1 := str_size la
  have z2 := str_size lb
  have hA0 := (Blk.new w #[.int .i64 (ka), .int .i64 (na), .string (str (la))] 35).alloc (.cells #[.int .i64 (kb), .int .i64 (nb), .string (str (lb))] 35)
  have hB0 := Blk.new2 w (.cells #[.int .i64 (ka), .int .i64 (na), .string (str (la))] 35) #[.int .i64 (kb), .int .i64 (nb), .string (str (lb))] 35
  have b0 : Below w.heap.size w ((w.alloc (.cells #[.int .i64 (ka), .int .i64 (na), .string (str (la))] 35)).alloc (.cells #[.int .i64 (kb), .int .i64 (nb), .string (str (lb))] 35)) := (by repeat (first | exact Below.refl _ _ | assumption | apply below_drewN' | apply Below.drew | refine Below.alloc ?_ (by first | omega | (simp; done) | (simp; omega)) _ | refine Below.setCell ?_ (by first | omega | (simp; done) | (simp; omega)) _))
  have hKT : keyT m ka na la = keyB m ka na la := by unfold keyT; rw [tab_ok m hm4, hM]; rfl
  have hKE : keyE m ka na la = 0 := by unfold keyE; rw [tab_ok m hm4, hM]; rfl
  have hET : encT ka na la = encB ka na la := by unfold encT; rw [hM]; rfl
  have hEE : encE ka na la = 0 := by unfold encE; rw [hM]; rfl
  have HK := Lib.hid (fun w => key_any m ka na la w)
  have HE := Lib.hid (fun w => enc_any ka na la w)
  have HP := Lib.hid (fun w h => parse_any (keyB m ka na la) w h)
  have HD := Lib.hid (fun A c w h => dec_any A 9 c (encB ka na la) w h (by omega))
  have hmt : (((UInt8.ofNat m).toNat : Nat) : Int) = m := by rw [ofNat_toNat m (by omega)]
  rw [hKT, hKE] at HK
  rw [hEE, hET] at HE
  rw [pkL_back m ka na la hm4 hM n0 n1, pkRet, if_pos rfl, hmt] at HP
  rw [dkL_back ka na la hM n0 n1, dkRet, if_pos rfl] at HD
  have hkl : (keyB m ka na la).length = 10 := by rw [keyB_is]; simp [keyM_length]
  have HP2 := Lib.hid (fun w => HP.out w (by rw [hkl]; omega))
  have hzk : (str (keyB m ka na la)).size = 10 := by rw [str_size, hkl]
  have hel := Lib.hid (encB_length ka na la)
  clear HP hKT hKE hET hEE hmt hkl
  generalize encB ka na la = EB at *
  have hKT : keyT m' kb nb lb = keyB m' kb nb lb := by unfold keyT; rw [tab_ok m' hm4', hM']; rfl
  have hKE : keyE m' kb nb lb = 0 := by unfold keyE; rw [tab_ok m' hm4', hM']; rfl
  have HK2 := Lib.hid (fun w => key_any m' kb nb lb w)
  rw [hKT, hKE] at HK2
  clear hKT hKE
  have T1 := str_list (keyB m ka na la)
  have T2 := str_list (keyB m' kb nb lb)
  clear hM hM' hm4 hm4' n2 n3
  generalize keyB m ka na la = KA at *
  generalize keyB m' kb nb lb = KB at *
  obtain ⟨p, hp⟩ : ∃ p, Op.bytesLess KA KB = p := ⟨_, rfl⟩
  obtain ⟨q, hq⟩ : ∃ q, Op.bytesLess KB KA = q := ⟨_, rfl⟩
  obtain ⟨r, hr⟩ : ∃ r, (KA == KB) = r := ⟨_, rfl⟩
  rw [hp] at HP1
  rw [hq] at HQ1
  rw [hr] at HR1
  subst hm'
  go_enter Try.func8, Try.ntmps8
  go_wp2_with fail
  refine (first15_calls _).mono ?_
  rintro e W1 ⟨rfl, b1⟩
  have hA := hA0.below b1 hA0.lt
  have hB := hB0.below b1 hB0.lt
  have bb1 := b0.next b1 (Nat.le_refl _)
  have hAlt := hA.lt
  have hBlt := hB.lt
  clear hA0 hB0 b0 b1
  have b1 := Below.refl W1.heap.size W1
  have a0 := (hA.below b1 hAlt).cell 0 (v := .int .i64 ka) rfl; have a1 := (hA.below b1 hAlt).cell 1 (v := .int .i64 na) rfl; have a2 := (hA.below b1 hAlt).cell 2 (v := .string (str la)) rfl; have a3 := (hB.below b1 hBlt).cell 0 (v := .int .i64 kb) rfl; have a4 := (hB.below b1 hBlt).cell 1 (v := .int .i64 nb) rfl; have a5 := (hB.below b1 hBlt).cell 2 (v := .string (str lb)) rfl
  go_wp2_with fail
  refine (HK.out _).mono ?_
  rintro e w2 ⟨rfl, hb⟩
  have b2 := b1.next hb (Nat.le_refl _); clear a0 a1 a2 a3 a4 a5; have a0 := (hA.below b2 hAlt).cell 0 (v := .int .i64 ka) rfl; have a1 := (hA.below b2 hAlt).cell 1 (v := .int .i64 na) rfl; have a2 := (hA.below b2 hAlt).cell 2 (v := .string (str la)) rfl; have a3 := (hB.below b2 hBlt).cell 0 (v := .int .i64 kb) rfl; have a4 := (hB.below b2 hBlt).cell 1 (v := .int .i64 nb) rfl; have a5 := (hB.below b2 hBlt).cell 2 (v := .string (str lb)) rfl
  clear hb b1
  go_wp2_with fail
  refine (HK2.out _).mono ?_
  rintro e w3 ⟨rfl, hb⟩
  have b3 := b2.next hb (Nat.le_refl _); clear a0 a1 a2 a3 a4 a5; have a0 := (hA.below b3 hAlt).cell 0 (v := .int .i64 ka) rfl; have a1 := (hA.below b3 hAlt).cell 1 (v := .int .i64 na) rfl; have a2 := (hA.below b3 hAlt).cell 2 (v := .string (str la)) rfl; have a3 := (hB.below b3 hBlt).cell 0 (v := .int .i64 kb) rfl; have a4 := (hB.below b3 hBlt).cell 1 (v := .int .i64 nb) rfl; have a5 := (hB.below b3 hBlt).cell 2 (v := .string (str lb)) rfl
  clear hb b2 HK HK2
  go_wp2_with fail
  refine (HP2.out _).mono ?_
  rintro e w4 ⟨rfl, hb⟩
  have b4 := b3.next hb (Nat.le_refl _)
  have hX4 := Blk.new w4 #[.int .i64 (ka), .int .i64 (na), .string (str (la))] 35
  have b4' := b4.alloc b4.size (.cells #[.int .i64 (ka), .int .i64 (na), .string (str (la))] 35)
  have x0 := hX4.cell 0 (v := .int .i64 ka) rfl
  have x1 := hX4.cell 1 (v := .int .i64 na) rfl
  have x2 := hX4.cell 2 (v := .string (str la)) rfl
  clear a0 a1 a2 a3 a4 a5 hb b3 HP2
  have a0 := (hA.below b4' hAlt).cell 0 (v := .int .i64 ka) rfl; have a1 := (hA.below b4' hAlt).cell 1 (v := .int .i64 na) rfl; have a2 := (hA.below b4' hAlt).cell 2 (v := .string (str la)) rfl; have a3 := (hB.below b4' hBlt).cell 0 (v := .int .i64 kb) rfl; have a4 := (hB.below b4' hBlt).cell 1 (v := .int .i64 nb) rfl; have a5 := (hB.below b4' hBlt).cell 2 (v := .string (str lb)) rfl
  go_wp2_with fail
  refine (same_self_o ka na la _).mono ?_
  rintro e w5 ⟨rfl, hb⟩
  clear x0 x1 x2
  have b5 := b4'.next hb (Nat.le_refl _); clear a0 a1 a2 a3 a4 a5; have a0 := (hA.below b5 hAlt).cell 0 (v := .int .i64 ka) rfl; have a1 := (hA.below b5 hAlt).cell 1 (v := .int .i64 na) rfl; have a2 := (hA.below b5 hAlt).cell 2 (v := .string (str la)) rfl; have a3 := (hB.below b5 hBlt).cell 0 (v := .int .i64 kb) rfl; have a4 := (hB.below b5 hBlt).cell 1 (v := .int .i64 nb) rfl; have a5 := (hB.below b5 hBlt).cell 2 (v := .string (str lb)) rfl
  clear hb b4 b4' hX4
  go_wp2_with fail
  refine (HE.out _).mono ?_
  rintro e w6 ⟨v6, rfl, ho, hb⟩
  obtain ⟨A6, c6, rfl, hr6⟩ := ho.sl 9 hel.out
  have b6 := b5.next hb (Nat.le_refl _); clear a0 a1 a2 a3 a4 a5; have a0 := (hA.below b6 hAlt).cell 0 (v := .int .i64 ka) rfl; have a1 := (hA.below b6 hAlt).cell 1 (v := .int .i64 na) rfl; have a2 := (hA.below b6 hAlt).cell 2 (v := .string (str la)) rfl; have a3 := (hB.below b6 hBlt).cell 0 (v := .int .i64 kb) rfl; have a4 := (hB.below b6 hBlt).cell 1 (v := .int .i64 nb) rfl; have a5 := (hB.below b6 hBlt).cell 2 (v := .string (str lb)) rfl
  clear hb b5 HE ho
  go_wp2_with fail
  refine (HD.out _ _ _ hr6).mono ?_
  rintro e w7 ⟨rfl, hb⟩
  have b7 := b6.next hb (Nat.le_refl _)
  have hX7 := Blk.new w7 #[.int .i64 (ka), .int .i64 (na), .string (str (la))] 35
  have b7' := b7.alloc b7.size (.cells #[.int .i64 (ka), .int .i64 (na), .string (str (la))] 35)
  have x0 := hX7.cell 0 (v := .int .i64 ka) rfl
  have x1 := hX7.cell 1 (v := .int .i64 na) rfl
  have x2 := hX7.cell 2 (v := .string (str la)) rfl
  clear a0 a1 a2 a3 a4 a5 hb b6 HD hr6
  have a0 := (hA.below b7' hAlt).cell 0 (v := .int .i64 ka) rfl; have a1 := (hA.below b7' hAlt).cell 1 (v := .int .i64 na) rfl; have a2 := (hA.below b7' hAlt).cell 2 (v := .string (str la)) rfl; have a3 := (hB.below b7' hBlt).cell 0 (v := .int .i64 kb) rfl; have a4 := (hB.below b7' hBlt).cell 1 (v := .int .i64 nb) rfl; have a5 := (hB.below b7' hBlt).cell 2 (v := .string (str lb)) rfl
  go_wp2_with fail
  refine (same_self_o ka na la _).mono ?_
  rintro e w8 ⟨rfl, hb⟩
  clear x0 x1 x2
  have b8 := b7'.next hb (Nat.le_refl _); clear a0 a1 a2 a3 a4 a5; have a0 := (hA.below b8 hAlt).cell 0 (v := .int .i64 ka) rfl; have a1 := (hA.below b8 hAlt).cell 1 (v := .int .i64 na) rfl; have a2 := (hA.below b8 hAlt).cell 2 (v := .string (str la)) rfl; have a3 := (hB.below b8 hBlt).cell 0 (v := .int .i64 kb) rfl; have a4 := (hB.below b8 hBlt).cell 1 (v := .int .i64 nb) rfl; have a5 := (hB.below b8 hBlt).cell 2 (v := .string (str lb)) rfl
  clear hb b7 b7' hX7
  go_wp2_with fail
  refine (first15_calls _).mono ?_
  rintro e w9 ⟨rfl, hb⟩
  have b9 := b8.next hb (Nat.le_refl _); clear a0 a1 a2 a3 a4 a5; have a0 := (hA.below b9 hAlt).cell 0 (v := .int .i64 ka) rfl; have a1 := (hA.below b9 hAlt).cell 1 (v := .int .i64 na) rfl; have a2 := (hA.below b9 hAlt).cell 2 (v := .string (str la)) rfl; have a3 := (hB.below b9 hBlt).cell 0 (v := .int .i64 kb) rfl; have a4 := (hB.below b9 hBlt).cell 1 (v := .int .i64 nb) rfl; have a5 := (hB.below b9 hBlt).cell 2 (v := .string (str lb)) rfl
  clear hb b8
  go_wp2_with fail
  refine (HP1.out _).mono ?_
  rintro e w10 ⟨rfl, hb⟩
  have b10 := b9.next hb (Nat.le_refl _); clear a0 a1 a2 a3 a4 a5; have a0 := (hA.below b10 hAlt).cell 0 (v := .int .i64 ka) rfl; have a1 := (hA.below b10 hAlt).cell 1 (v := .int .i64 na) rfl; have a2 := (hA.below b10 hAlt).cell 2 (v := .string (str la)) rfl; have a3 := (hB.below b10 hBlt).cell 0 (v := .int .i64 kb) rfl; have a4 := (hB.below b10 hBlt).cell 1 (v := .int .i64 nb) rfl; have a5 := (hB.below b10 hBlt).cell 2 (v := .string (str lb)) rfl
  clear hb b9
  go_wp2_with fail
  refine (HQ1.out _).mono ?_
  rintro e w11 ⟨rfl, hb⟩
  have b11 := b10.next hb (Nat.le_refl _); clear a0 a1 a2 a3 a4 a5; have a0 := (hA.below b11 hAlt).cell 0 (v := .int .i64 ka) rfl; have a1 := (hA.below b11 hAlt).cell 1 (v := .int .i64 na) rfl; have a2 := (hA.below b11 hAlt).cell 2 (v := .string (str la)) rfl; have a3 := (hB.below b11 hBlt).cell 0 (v := .int .i64 kb) rfl; have a4 := (hB.below b11 hBlt).cell 1 (v := .int .i64 nb) rfl; have a5 := (hB.below b11 hBlt).cell 2 (v := .string (str lb)) rfl
  clear hb b10
  go_wp2_with fail
  refine (HR1.out _).mono ?_
  rintro e w12 ⟨rfl, hb⟩
  have b12 := b11.next hb (Nat.le_refl _)
  clear hb b11 a0 a1 a2 a3 a4 a5
  go_wp2
  go_ret
  exact ⟨rfl, bb1.next b12 (Nat.le_refl _)⟩

theorem valOrder_all (ka na : Int) (la : List UInt8) (kb nb : Int) (lb : List UInt8) (s t : Int) (w : World) (n0 : -9223372036854775808 ≤ na) (n1 : na ≤ 9223372036854775807) (ml : la.length ≤ maxLen) (n2 : -9223372036854775808 ≤ nb) (n3 : nb ≤ 9223372036854775807) (ml' : lb.length ≤ maxLen) :
    Calls Try.prog 8 #[.agg #[.int .i64 (ka), .int .i64 (na), .string (str (la))], .agg #[.int .i64 (kb), .int .i64 (nb), .string (str (lb))], .int .i64 s, .int .i64 t] w fun e w' => e = .returned (.bool true) ∧ Below w.heap.size w w' := by
  by_cases hs : 2000 < la.length ∨ 2000 < lb.length
  · exact valOrder_skip ka na la kb nb lb s t w hs ml ml'
  · have h1 : la.length ≤ 2000 := by omega
    have h2 : lb.length ≤ 2000 := by omega
    by_cases e1 : keyE s ka na la = 0
    · obtain ⟨m, rfl, hm, hM⟩ := keyE_ok e1
      by_cases e2 : keyE t kb nb lb = 0
      · obtain ⟨m', rfl, hm', hM'⟩ := keyE_ok e2
        by_cases hmm : m = m'
        · subst hmm
          by_cases hk : ka = kb
          · exact valOrder_kind m ka na la kb nb lb w hm hk h1 h2 hM hM' n0 n1 n2 n3
          · exact valOrder_kinds m _ na la kb nb lb w hm hk h1 h2 hM hM' n0 n1 n2 n3
        · exact valOrder_tables m m' _ na la kb nb lb w hm hm' hmm h1 h2 hM hM' n0 n1
      · exact valOrder_one m ka na la kb nb lb t w hm h1 h2 hM n0 n1 _ rfl e2
    · exact valOrder_no ka na la kb nb lb s t w h1 h2 _ rfl e1
set_option linter.unusedVariables false
namespace valOrder
theorem own : ownKnob Try.prog.godebug = none := by kernel_rfl
theorem laidOut : laidOutB Try.prog = true := by kernel_rfl
set_option maxRecDepth 100000 in
theorem lifted (os : Os) (started : os.Started) (H : Type) (enc : TypeId × Value → H) :
    ReturnsInHanded {} Try.checked os 8 .any (Rows.valOrderSpec.pre6 enc Try.prog Try.f8 Rows.valOrderRow.domain false) (Rows.valOrderSpec.post enc Try.prog Try.f8 false true false false) := by
  refine returnsInHanded_of_change_sized (C := Try.checked) own started (by kernel_rfl) Try.func8
    (ChangeSpec.witness6 (enc := enc) (C := Try.checked) false ⟨#[], #[.agg #[.int .i64 0, .int .i64 0, .string ByteArray.empty], .agg #[.int .i64 0, .int .i64 0, .string ByteArray.empty], .int .i64 0, .int .i64 0], []⟩ 8 (by kernel_rfl) (by kernel_rfl) (by kernel_rfl) (by kernel_rfl)) ?_
  intro W base args ds gs before hval0 hW hcnd hsz0 _
  have hsz : (DataW.weightsEach Try.prog (Try.f8.params.toList ++ Rows.valOrderSpec.plain.varTypes Try.prog) (ds ++ gs)).all (· ≤ reachBytes) = true := hsz0
  have hval : ∀ (j : Nat) t v, Try.f8.params[j]? = some t → args[j]? = some v → Value.okWide Try.prog W .any base t v := hval0
  have hW' := hW
  obtain ⟨p, q, hA0, hV, rfl, hfz, hnd⟩ := hW
  have hA : DataW.TrodAll enc Try.prog W 0 (fun _ => true) true Try.f8.params.toList args.toList ds p := hA0
  rw [Try.params8] at hA hval hsz
  obtain ⟨v0, vs0, d0, ds0, p0, q0, hargs, rfl, rfl, h0, r0⟩ := trodAll_cons hA
  obtain ⟨v1, vs1, d1, ds1, p1, q1, rfl, rfl, rfl, h1, r1⟩ := trodAll_cons r0
  obtain ⟨v2, vs2, d2, ds2, p2, q2, rfl, rfl, rfl, h2, r2⟩ := trodAll_cons r1
  obtain ⟨v3, vs3, d3, ds3, p3, q3, rfl, rfl, rfl, h3, r3⟩ := trodAll_cons r2
  obtain ⟨rfl, rfl, rfl⟩ := trodAll_nil r3
  obtain rfl : args = #[v0, v1, v2, v3] := by cases args; simp_all
  obtain ⟨rfl, rfl⟩ := trodVars_none hV
  have k0 := h0
  have o0 := (hval 0 35 v0 rfl rfl)
  have lt0 : ∀ x ∈ p0, x.block < W.heap.size := by obtain ⟨m, hm⟩ := k0; exact DataW.trod_lt m _ _ _ hm
  obtain ⟨ka, na, la, rfl, na0, na1, ma⟩ := open_val o0 k0
  have k1 := h1
  have o1 := (hval 1 35 v1 rfl rfl)
  have lt1 : ∀ x ∈ p1, x.block < W.heap.size := by obtain ⟨m, hm⟩ := k1; exact DataW.trod_lt m _ _ _ hm
  obtain ⟨kb, nb, lb, rfl, nb0, nb1, mb⟩ := open_val o1 k1
  obtain ⟨a2, rfl, rfl, rfl, w2⟩ := open_int Try.underlying3 (hval 2 3 v2 rfl rfl) h2
  obtain ⟨a3, rfl, rfl, rfl, w3⟩ := open_int Try.underlying3 (hval 3 3 v3 rfl rfl) h3
  refine (valOrder_all _ _ _ _ _ _ _ _ W na0 na1 ma nb0 nb1 mb).mono fun e W' ⟨he, bel⟩ => ?_
  subst he
  exact ⟨_, rfl, _, _, _, [], _, [], hW', trodAll_mk1 (shut_bool Try.underlying4 _), (trodAll_cons_mk (Below.trod laidOut (by kernel_rfl) (of_decide_eq_true (by kernel_rfl)) k0 bel lt0) (trodAll_cons_mk (Below.trod laidOut (by kernel_rfl) (of_decide_eq_true (by kernel_rfl)) k1 bel lt1) (trodAll_cons_mk (shut_int Try.underlying3 w2) (trodAll_cons_mk (shut_int Try.underlying3 w3) trodAll_mk0)))), rfl, bel.frame _, fun h => by cases h⟩
theorem over : Rows.valOrderRow.holds Try.pinned (OpenSpec.ofChange Rows.valOrderSpec) :=
  OpenClaim.holds_of_wide 8 Try.f8 rfl rfl rfl rfl rfl rfl rfl ⟨rfl, rfl, rfl, rfl, rfl⟩ rfl rfl rfl rfl rfl (by kernel_rfl) Try.func8 (by kernel_rfl)
    (of_decide_eq_true (by kernel_rfl)) (by unfold Func.isWrapper; first | (rw [if_pos (by decide +kernel)]; kernel_rfl) | (rw [if_neg (by decide +kernel)]; exact ⟨rfl, rfl⟩))
    (fun os started H enc _ => lifted os started H enc)
end valOrder
/-- The statement. -/
theorem valOrder_holds : Rows.ValOrderSaid := valOrder.over
#print axioms valOrder_holds
end Go.Proofs.Ytplpidpbfljpnaa
