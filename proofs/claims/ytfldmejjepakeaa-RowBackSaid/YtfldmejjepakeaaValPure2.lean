/- Keys and texts of values: there and back. -/
import Derived.Test.YtfldmejjepakeaaVal13
import Derived.Test.YtfldmejjepakeaaValPure
import Derived.Test.YtfldmejjepakeaaLex
import Derived.Laws.Bits64
namespace Go.Proofs.Ytfldmejjepakeaa
open Go.ChangeShapes Go.WideShapes Go.ChangeAt Go.RowKit
open Go.ChangeMaps (open_string shut_string)
set_option linter.unusedVariables false
set_option linter.unusedSimpArgs false
set_option maxRecDepth 100000

theorem numB_be8 (x : Int) (h0 : 0 ≤ x) (h1 : x < 18446744073709551616) : numB (be 8 x) = x := by
  obtain ⟨m, rfl⟩ := Int.eq_ofNat_of_zero_le h0
  rw [numB_be, Nat.mod_eq_of_lt (by have : (256 : Nat) ^ 8 = 18446744073709551616 := by decide
                                    omega)]
theorem wrap_u64 (n : Int) (h0 : -9223372036854775808 ≤ n) (h1 : n ≤ 9223372036854775807) : wrap64 (u64 n) = n := by
  unfold wrap64 u64
  rw [IntKind.wrap_u64]
  omega
theorem xor_low (a : Nat) (h : a < 2 ^ 63) : a ^^^ 2 ^ 63 = 2 ^ 63 + a := by
  apply Nat.eq_of_testBit_eq
  intro i
  rw [Nat.testBit_xor, Nat.testBit_two_pow]
  rcases Nat.lt_trichotomy i 63 with hi | hi | hi
  · rw [Nat.testBit_two_pow_add_gt hi, decide_eq_false (by omega), Bool.xor_false]
  · subst hi
    rw [Nat.testBit_two_pow_add_eq, Nat.testBit_lt_two_pow h]
    rfl
  · rw [Nat.testBit_lt_two_pow (Nat.lt_of_lt_of_le h (Nat.pow_le_pow_right (by omega) (by omega))), decide_eq_false (by omega), Nat.testBit_lt_two_pow]
    · rfl
    · have : 2 ^ 64 ≤ 2 ^ i := Nat.pow_le_pow_right (by omega) (by omega)
      omega
theorem xor63 (a : Nat) (h : a < 18446744073709551616) : a ^^^ 9223372036854775808 = if a < 9223372036854775808 then a + 9223372036854775808 else a - 9223372036854775808 := by
  have e : (9223372036854775808 : Nat) = 2 ^ 63 := by decide
  split
  · rename_i hlt
    rw [e] at hlt ⊢
    rw [xor_low a hlt, Nat.add_comm]
  · rename_i hge
    obtain ⟨r, rfl⟩ : ∃ r, a = 2 ^ 63 + r := ⟨a - 2 ^ 63, by omega⟩
    have hr : r < 2 ^ 63 := by omega
    rw [← xor_low r hr, e, Nat.xor_assoc, Nat.xor_self, Nat.xor_zero, xor_low r hr]
    omega
theorem sgn_is (n : Int) (h0 : -9223372036854775808 ≤ n) (h1 : n ≤ 9223372036854775807) : sgn n = n + 9223372036854775808 := by
  have hu := u64_range n
  obtain ⟨m, hm⟩ := Int.eq_ofNat_of_zero_le hu.1
  have hm2 : u64 n = if 0 ≤ n then n else n + 18446744073709551616 := by
    unfold u64
    rw [IntKind.wrap_u64]
    split <;> omega
  unfold sgn
  rw [hm]
  have := bits_xor_u64_nat m 9223372036854775808 (by omega) (by decide)
  rw [show ((9223372036854775808 : Nat) : Int) = 9223372036854775808 from rfl] at this
  rw [this, xor63 m (by omega)]
  split at hm2 <;> split <;> omega
theorem sgnV_is (x : Int) (h0 : 0 ≤ x) (h1 : x < 18446744073709551616) : sgnV x = x - 9223372036854775808 := by
  obtain ⟨m, rfl⟩ := Int.eq_ofNat_of_zero_le h0
  unfold sgnV
  have := bits_xor_u64_nat m 9223372036854775808 (by omega) (by decide)
  rw [show ((9223372036854775808 : Nat) : Int) = 9223372036854775808 from rfl] at this
  rw [this, xor63 m (by omega)]
  unfold wrap64
  split <;> omega

theorem ofNat_toNat (m : Nat) (h : m < 256) : (UInt8.ofNat m).toNat = m := by
  rw [UInt8.toNat_ofNat', Nat.mod_eq_of_lt (by exact h)]
theorem ofNat_ne (m : Nat) (h : m < 256) (z : UInt8) (hz : z.toNat ≠ m) : UInt8.ofNat m ≠ z := fun e => hz (by rw [← e, ofNat_toNat m h])
theorem fill_back (l : List UInt8) (hl : l.length ≤ 8) : (fill l 8).take l.length = l := by
  unfold fill
  rw [List.take_of_length_le hl, List.take_append_of_le_length (Nat.le_refl _), List.take_of_length_le (Nat.le_refl _)]

theorem dk_int (n : Int) (h0 : -9223372036854775808 ≤ n) (h1 : n ≤ 9223372036854775807) : dkK 1 = 1 ∧ dkN 1 (be 8 (u64 n)) = n ∧ dkS 1 (be 8 (u64 n)) = [] := by
  have hu := u64_range n
  refine ⟨if_pos rfl, ?_, if_pos rfl⟩
  unfold dkN
  rw [if_pos rfl, numB_be8 _ hu.1 hu.2, wrap_u64 n h0 h1]
theorem dk_text (l : List UInt8) (hl : l.length ≤ 8) : dkK (UInt8.ofNat (2 + l.length)) = 2 ∧ dkN (UInt8.ofNat (2 + l.length)) (fill l 8) = 0 ∧ dkS (UInt8.ofNat (2 + l.length)) (fill l 8) = l := by
  have hne := ofNat_ne (2 + l.length) (by omega) 1 (by show 1 ≠ _; omega)
  refine ⟨if_neg hne, if_neg hne, ?_⟩
  unfold dkS
  rw [if_neg hne, ofNat_toNat _ (by omega), show min (2 + l.length - 1) 9 - 1 = l.length by omega, fill_back l hl]
theorem encB_int (n : Int) : encB 1 n [] = 1 :: be 8 (u64 n) := if_pos rfl
theorem encB_text (l : List UInt8) : encB 2 0 l = UInt8.ofNat (2 + l.length) :: fill l 8 := if_neg (by decide)
/-- A text is read back. -/
theorem dkL_back (k n : Int) (l : List UInt8) (h : mayV k n l = true) (h0 : -9223372036854775808 ≤ n) (h1 : n ≤ 9223372036854775807) : dkL (encB k n l) = dkRet true k n l := by
  rcases mayV_cases h with ⟨rfl, rfl⟩ | ⟨rfl, rfl, hl⟩
  · obtain ⟨e1, e2, e3⟩ := dk_int n h0 h1
    rw [encB_int, dkL_shape 1 _ (be_length 8 _)]
    have ok : dkOk 1 (be 8 (u64 n)) = true := by
      unfold dkOk
      rw [e1, e2, e3, h, encB_int, beq_self_eq_true]
      rfl
    rw [ok, e1, e2, e3]
  · obtain ⟨e1, e2, e3⟩ := dk_text l hl
    have hne0 : (UInt8.ofNat (2 + l.length) != 0) = true := by rw [bne_iff_ne]; exact ofNat_ne (2 + l.length) (by omega) 0 (by show 0 ≠ _; omega)
    rw [encB_text, dkL_shape _ _ (fill_length l 8)]
    have ok : dkOk (UInt8.ofNat (2 + l.length)) (fill l 8) = true := by
      unfold dkOk
      rw [e1, e2, e3, h, encB_text, hne0, beq_self_eq_true]
      rfl
    rw [ok, e1, e2, e3]
theorem pk_int (n : Int) (h0 : -9223372036854775808 ≤ n) (h1 : n ≤ 9223372036854775807) : pkK 0 = 1 ∧ pkN (be 8 (sgn n)) 0 = n ∧ pkS (be 8 (sgn n)) 0 = [] := by
  have hs := sgn_range n
  refine ⟨if_pos rfl, ?_, if_pos rfl⟩
  unfold pkN
  rw [if_pos rfl, numB_be8 _ hs.1 hs.2, sgnV_is _ hs.1 hs.2, sgn_is n h0 h1, Int.add_sub_cancel]
theorem pk_text (l : List UInt8) (hl : l.length ≤ 8) : pkK (UInt8.ofNat (l.length + 1)) = 2 ∧ pkN (fill l 8) (UInt8.ofNat (l.length + 1)) = 0 ∧ pkS (fill l 8) (UInt8.ofNat (l.length + 1)) = l := by
  have hne := ofNat_ne (l.length + 1) (by omega) 0 (by show 0 ≠ _; omega)
  refine ⟨if_neg hne, if_neg hne, ?_⟩
  unfold pkS
  rw [if_neg hne, ofNat_toNat _ (by omega), show min (l.length + 1) 9 - 1 = l.length by omega, fill_back l hl]
theorem pk_all (k n : Int) (l : List UInt8) (h : mayV k n l = true) (h0 : -9223372036854775808 ≤ n) (h1 : n ≤ 9223372036854775807) : pkK (keyL k l) = k ∧ pkN (keyM k n l) (keyL k l) = n ∧ pkS (keyM k n l) (keyL k l) = l := by
  rcases mayV_cases h with ⟨rfl, rfl⟩ | ⟨rfl, rfl, hl⟩
  · have e : keyL 1 [] = 0 := if_pos rfl
    have e2 : keyM 1 n [] = be 8 (sgn n) := if_pos rfl
    rw [e, e2]; exact pk_int n h0 h1
  · have e : keyL 2 l = UInt8.ofNat (l.length + 1) := if_neg (by decide)
    have e2 : keyM 2 0 l = fill l 8 := if_neg (by decide)
    rw [e, e2]; exact pk_text l hl
theorem tab_ok (m : Nat) (hm : m < 4) : tabB m = true := by simp [tabB]; omega
theorem keyB_is (m : Nat) (k n : Int) (l : List UInt8) : keyB m k n l = UInt8.ofNat m :: (keyM k n l ++ [keyL k l]) := by unfold keyB; rw [Int.toNat_natCast]
/-- A key is read back. -/
theorem pkL_back (m : Nat) (k n : Int) (l : List UInt8) (hm : m < 4) (h : mayV k n l = true) (h0 : -9223372036854775808 ≤ n) (h1 : n ≤ 9223372036854775807) : pkL (keyB m k n l) = pkRet true (UInt8.ofNat m) k n l := by
  have ht : (((UInt8.ofNat m).toNat : Nat) : Int) = m := by rw [ofNat_toNat m (by omega)]
  obtain ⟨e1, e2, e3⟩ := pk_all k n l h h0 h1
  rw [keyB_is, pkL_shape _ _ _ (keyM_length k n l)]
  have ok : pkOk (UInt8.ofNat m) (keyM k n l) (keyL k l) = true := by
    unfold pkOk
    rw [e1, e2, e3, h, ht, tab_ok m hm, keyB_is, beq_self_eq_true]
    rfl
  rw [ok, e1, e2, e3]
end Go.Proofs.Ytfldmejjepakeaa
