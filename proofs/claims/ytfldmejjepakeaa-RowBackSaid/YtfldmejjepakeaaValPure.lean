/- The order of values: of two that may be one is less, or they are the same; of three it goes through. -/
import Derived.Test.YtfldmejjepakeaaVal1
namespace Go.Proofs.Ytfldmejjepakeaa
open Go.ChangeShapes Go.WideShapes Go.ChangeAt Go.RowKit
open Go.ChangeMaps (open_string shut_string)
set_option linter.unusedVariables false
set_option linter.unusedSimpArgs false
set_option maxRecDepth 100000

theorem bl_irrefl : ∀ l : List UInt8, Op.bytesLess l l = false
  | [] => by simp [Op.bytesLess]
  | a :: x => by simp [Op.bytesLess, bl_irrefl x]
theorem bl_total : ∀ l m : List UInt8, Op.bytesLess l m = false → Op.bytesLess m l = false → l = m
  | [], [], _, _ => rfl
  | [], _ :: _, h, _ => by simp [Op.bytesLess] at h
  | _ :: _, [], _, h => by simp [Op.bytesLess] at h
  | a :: x, b :: y, h, h2 => by
    simp only [Op.bytesLess, Bool.or_eq_false_iff, decide_eq_false_iff_not, Bool.and_eq_false_iff, beq_eq_false_iff_ne] at h h2
    have hab : a = b := by
      have h3 := h.1; have h4 := h2.1
      rw [UInt8.lt_iff_toNat_lt] at h3 h4
      exact UInt8.toNat_inj.1 (by omega)
    subst hab
    rw [bl_total x y (h.2.resolve_left (by simp)) (h2.2.resolve_left (by simp))]
theorem bl_asymm : ∀ l m : List UInt8, Op.bytesLess l m = true → Op.bytesLess m l = false
  | [], [], h => by simp [Op.bytesLess] at h
  | [], _ :: _, _ => by simp [Op.bytesLess]
  | _ :: _, [], h => by simp [Op.bytesLess] at h
  | a :: x, b :: y, h => by
    simp only [Op.bytesLess, Bool.or_eq_true, decide_eq_true_eq, Bool.and_eq_true, beq_iff_eq] at h
    simp only [Op.bytesLess, Bool.or_eq_false_iff, decide_eq_false_iff_not, Bool.and_eq_false_iff, beq_eq_false_iff_ne]
    rcases h with h | ⟨rfl, h⟩
    · have h3 := UInt8.lt_iff_toNat_lt.1 h
      refine ⟨fun h4 => ?_, .inl fun e => ?_⟩
      · have := UInt8.lt_iff_toNat_lt.1 h4; omega
      · subst e; omega
    · exact ⟨fun h4 => by have := UInt8.lt_iff_toNat_lt.1 h4; omega, .inr (bl_asymm x y h)⟩
theorem bl_trans : ∀ l m n : List UInt8, Op.bytesLess l m = true → Op.bytesLess m n = true → Op.bytesLess l n = true
  | [], [], _, h, _ => by simp [Op.bytesLess] at h
  | _ :: _, [], _, h, _ => by simp [Op.bytesLess] at h
  | [], _ :: _, [], _, h => by simp [Op.bytesLess] at h
  | [], _ :: _, _ :: _, _, _ => by simp [Op.bytesLess]
  | _ :: _, _ :: _, [], _, h => by simp [Op.bytesLess] at h
  | a :: x, b :: y, c :: z, h, h2 => by
    simp only [Op.bytesLess, Bool.or_eq_true, decide_eq_true_eq, Bool.and_eq_true, beq_iff_eq] at h h2 ⊢
    simp only [UInt8.lt_iff_toNat_lt] at h h2 ⊢
    rcases h with h | ⟨rfl, h⟩
    · rcases h2 with h2 | ⟨rfl, h2⟩
      · exact .inl (by omega)
      · exact .inl h
    · rcases h2 with h2 | ⟨rfl, h2⟩
      · exact .inl h2
      · exact .inr ⟨rfl, bl_trans x y z h h2⟩

theorem mayV_cases {k n : Int} {l : List UInt8} (h : mayV k n l = true) : (k = 1 ∧ l = []) ∨ (k = 2 ∧ n = 0 ∧ l.length ≤ 8) := by
  simpa [mayV] using h
theorem sameV_symm (k n : Int) (l : List UInt8) (k' n' : Int) (l' : List UInt8) : sameV k n l k' n' l' = sameV k' n' l' k n l := by
  rw [Bool.eq_iff_iff]
  simp only [sameV, Bool.and_eq_true, beq_iff_eq]
  exact ⟨fun ⟨a, b, c⟩ => ⟨a.symm, b.symm, c.symm⟩, fun ⟨a, b, c⟩ => ⟨a.symm, b.symm, c.symm⟩⟩
theorem sameV_iff (k n : Int) (l : List UInt8) (k' n' : Int) (l' : List UInt8) : sameV k n l k' n' l' = true ↔ k = k' ∧ n = n' ∧ l = l' := by
  simp [sameV]
/-- Of two that may be just one holds. -/
theorem three (k n : Int) (l : List UInt8) (k' n' : Int) (l' : List UInt8) (h : mayV k n l = true) (h' : mayV k' n' l' = true) :
    (lessV k n l k' n' l' = true ∧ lessV k' n' l' k n l = false ∧ sameV k n l k' n' l' = false) ∨
    (lessV k n l k' n' l' = false ∧ lessV k' n' l' k n l = true ∧ sameV k n l k' n' l' = false) ∨
    (lessV k n l k' n' l' = false ∧ lessV k' n' l' k n l = false ∧ sameV k n l k' n' l' = true) := by
  have hs : ∀ b, sameV k n l k' n' l' = b ↔ (decide (k = k' ∧ n = n' ∧ l = l')) = b := fun b => by
    have := sameV_iff k n l k' n' l'
    have e : sameV k n l k' n' l' = decide (k = k' ∧ n = n' ∧ l = l') := by rw [Bool.eq_iff_iff, this, decide_eq_true_eq]
    rw [e]
  rcases mayV_cases h with ⟨rfl, rfl⟩ | ⟨rfl, rfl, hl⟩ <;> rcases mayV_cases h' with ⟨rfl, rfl⟩ | ⟨rfl, rfl, hl'⟩
  · rw [hs, hs]
    simp only [lessV, if_true, decide_eq_true_eq, decide_eq_false_iff_not]
    rcases Int.lt_trichotomy n n' with h1 | h1 | h1
    · left; exact ⟨h1, by omega, fun e => by omega⟩
    · right; right; exact ⟨by omega, by omega, trivial, h1, trivial⟩
    · right; left; exact ⟨by omega, h1, fun e => by omega⟩
  · left; rw [hs]; simp [lessV]
  · right; left; rw [hs]; simp [lessV]
  · rw [hs, hs]
    simp only [lessV, if_true, decide_eq_true_eq, decide_eq_false_iff_not]
    have e : (if (2 : Int) = 1 then decide ((0 : Int) < 0) else ((2 : Int) == 2 && Op.bytesLess l l')) = Op.bytesLess l l' := by simp
    have e' : (if (2 : Int) = 1 then decide ((0 : Int) < 0) else ((2 : Int) == 2 && Op.bytesLess l' l)) = Op.bytesLess l' l := by simp
    rw [e, e']
    cases h1 : Op.bytesLess l l' with
    | true => left; exact ⟨rfl, bl_asymm l l' h1, fun e => by rw [e.2.2, bl_irrefl] at h1; cases h1⟩
    | false =>
      cases h2 : Op.bytesLess l' l with
      | true => right; left; exact ⟨rfl, rfl, fun e => by rw [e.2.2, bl_irrefl] at h2; cases h2⟩
      | false => right; right; exact ⟨rfl, rfl, trivial, trivial, bl_total l l' h1 h2⟩
theorem lessV_trans {k n : Int} {l : List UInt8} {k' n' : Int} {l' : List UInt8} {k2 n2 : Int} {l2 : List UInt8} (h : mayV k n l = true) (h' : mayV k' n' l' = true) (h2 : mayV k2 n2 l2 = true)
    (p : lessV k n l k' n' l' = true) (q : lessV k' n' l' k2 n2 l2 = true) : lessV k n l k2 n2 l2 = true := by
  rcases mayV_cases h with ⟨rfl, rfl⟩ | ⟨rfl, rfl, hl⟩ <;> rcases mayV_cases h' with ⟨rfl, rfl⟩ | ⟨rfl, rfl, hl'⟩ <;> rcases mayV_cases h2 with ⟨rfl, rfl⟩ | ⟨rfl, rfl, hl2⟩ <;> simp [lessV] at p q ⊢
  · omega
  · exact bl_trans l l' l2 p q
end Go.Proofs.Ytfldmejjepakeaa
