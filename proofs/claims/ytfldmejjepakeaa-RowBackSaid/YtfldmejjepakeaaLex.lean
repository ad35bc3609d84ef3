/- The order of bytes: numbers written with the greatest byte first order as they do. -/
import Derived.Test.YtfldmejjepakeaaReader2
import Derived.Test.YtfldmejjepakeaaSlab
import Derived.WalkLawsBesides
namespace Go.Proofs.Ytfldmejjepakeaa
open Go.ChangeShapes Go.WideShapes Go.ChangeAt Go.RowKit
open Go.ChangeMaps (open_string shut_string)
set_option linter.unusedVariables false
set_option linter.unusedSimpArgs false
set_option maxRecDepth 100000

theorem numF_lin (l : List UInt8) : ∀ a : Int, l.foldl (fun (n : Int) (b : UInt8) => n * 256 + (b.toNat : Int)) a = a * 256 ^ l.length + numB l := by
  induction l with
  | nil => intro a; simp [numB]
  | cons b l ih =>
    intro a
    have e0 : numB (b :: l) = (b.toNat : Int) * 256 ^ l.length + numB l := by
      unfold numB
      rw [List.foldl_cons, ih]
      simp only [Int.zero_mul, Int.zero_add]
      rfl
    rw [List.foldl_cons, ih, e0, List.length_cons, Int.pow_succ, Int.add_mul, Int.mul_comm (256 ^ l.length) 256, Int.mul_assoc, Int.add_assoc]

theorem numB_cons (b : UInt8) (l : List UInt8) : numB (b :: l) = (b.toNat : Int) * 256 ^ l.length + numB l := by
  unfold numB
  rw [List.foldl_cons, numF_lin]
  simp only [Int.zero_mul, Int.zero_add]
  rfl
theorem numB_append (l l' : List UInt8) : numB (l ++ l') = numB l * 256 ^ l'.length + numB l' := by
  show List.foldl _ _ _ = _
  rw [List.foldl_append, numF_lin]
  rfl

theorem numB_be (k m : Nat) : numB (be k (m : Int)) = ((m % 256 ^ k : Nat) : Int) := by
  induction k with
  | zero => simp [be, numB, Nat.mod_one]
  | succ k ih =>
    have hb : ((byteAt (m : Int) k).toNat : Int) = ((m / 256 ^ k % 256 : Nat) : Int) := by
      have h := byte_of (m : Int) k
      rw [IntKind.wrap_u8, show (8 * (k : Int)).toNat = 8 * k from by omega] at h
      rw [← h]
      have e : (2 : Int) ^ (8 * k) = ((256 ^ k : Nat) : Int) := by
        rw [Int.pow_mul, Int.natCast_pow]
        rfl
      rw [e]
      generalize 256 ^ k = P
      rw [Int.natCast_emod, Int.natCast_ediv]
      rfl
    rw [be, numB_cons, be_length, ih, hb, Nat.pow_succ, Nat.mod_mul]
    have e2 : (256 : Int) ^ k = ((256 ^ k : Nat) : Int) := by rw [Int.natCast_pow]; rfl
    rw [e2]
    generalize 256 ^ k = P
    rw [Int.natCast_add, Int.natCast_mul, Int.mul_comm]
    omega

theorem bytesLess_num : ∀ l l' : List UInt8, l.length = l'.length → Op.bytesLess l l' = decide (numB l < numB l')
  | [], [], _ => by simp [Op.bytesLess, numB]
  | [], _ :: _, h => by simp at h
  | _ :: _, [], h => by simp at h
  | a :: x, b :: y, h => by
    have hl : x.length = y.length := by simpa using h
    have ih := bytesLess_num x y hl
    have x0 := numB_nonneg x
    have y0 := numB_nonneg y
    have x1 := numB_lt x
    have y1 := numB_lt y
    rw [numB_cons, numB_cons, hl]
    rw [hl] at x1
    generalize (256 : Int) ^ y.length = P at *
    simp only [Op.bytesLess, ih]
    by_cases h1 : a < b
    · have : a.toNat < b.toNat := UInt8.lt_iff_toNat_lt.1 h1
      have h2 : ((a.toNat : Int) + 1) * P ≤ (b.toNat : Int) * P := Int.mul_le_mul_of_nonneg_right (by omega) (by omega)
      rw [Int.add_mul, Int.one_mul] at h2
      simp only [h1, decide_true, Bool.true_or]
      exact (decide_eq_true (by omega)).symm
    · by_cases h3 : a = b
      · subst h3
        simp
      · have : b.toNat < a.toNat := by
          have h4 : ¬ a.toNat < b.toNat := fun h => h1 (UInt8.lt_iff_toNat_lt.2 h)
          have h5 : a.toNat ≠ b.toNat := fun h => h3 (UInt8.toNat_inj.1 h)
          omega
        have h2 : ((b.toNat : Int) + 1) * P ≤ (a.toNat : Int) * P := Int.mul_le_mul_of_nonneg_right (by omega) (by omega)
        rw [Int.add_mul, Int.one_mul] at h2
        have h6 : (a == b) = false := by simpa using h3
        simp only [h1, h6, decide_false, Bool.false_and, Bool.or_self]
        exact (decide_eq_false (by omega)).symm

theorem numB_inj : ∀ l l' : List UInt8, l.length = l'.length → numB l = numB l' → l = l'
  | [], [], _, _ => rfl
  | [], _ :: _, h, _ => by simp at h
  | _ :: _, [], h, _ => by simp at h
  | a :: x, b :: y, h, e => by
    have hl : x.length = y.length := by simpa using h
    have x0 := numB_nonneg x
    have y0 := numB_nonneg y
    have x1 := numB_lt x
    have y1 := numB_lt y
    rw [numB_cons, numB_cons, hl] at e
    rw [hl] at x1
    have ih := numB_inj x y hl
    generalize (256 : Int) ^ y.length = P at *
    have hab : a.toNat = b.toNat := by
      rcases Nat.lt_trichotomy a.toNat b.toNat with h | h | h
      · have h2 : ((a.toNat : Int) + 1) * P ≤ (b.toNat : Int) * P := Int.mul_le_mul_of_nonneg_right (by omega) (by omega)
        rw [Int.add_mul, Int.one_mul] at h2
        omega
      · exact h
      · have h2 : ((b.toNat : Int) + 1) * P ≤ (a.toNat : Int) * P := Int.mul_le_mul_of_nonneg_right (by omega) (by omega)
        rw [Int.add_mul, Int.one_mul] at h2
        omega
    have : a = b := UInt8.toNat_inj.1 hab
    subst this
    rw [ih (by omega)]
end Go.Proofs.Ytfldmejjepakeaa
