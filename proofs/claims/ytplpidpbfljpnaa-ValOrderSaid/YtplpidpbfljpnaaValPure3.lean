/- The order of keys: as their tables, then as their values. -/
import Derived.Test.YtplpidpbfljpnaaValPure2
namespace Go.Proofs.Ytplpidpbfljpnaa
open Go.ChangeShapes Go.WideShapes Go.ChangeAt Go.RowKit
open Go.ChangeMaps (open_string shut_string)
set_option linter.unusedVariables false
set_option linter.unusedSimpArgs false

theorem bl_cons_same (a : UInt8) (x y : List UInt8) : Op.bytesLess (a :: x) (a :: y) = Op.bytesLess x y := by simp [Op.bytesLess]
theorem bl_prefix (u : List UInt8) (x y : List UInt8) : Op.bytesLess (u ++ x) (u ++ y) = Op.bytesLess x y := by
  induction u with
  | nil => rfl
  | cons a u ih => rw [List.cons_append, List.cons_append, bl_cons_same, ih]
theorem bl_cons_lt {a b : UInt8} (h : a.toNat < b.toNat) (x y : List UInt8) : Op.bytesLess (a :: x) (b :: y) = true := by
  simp only [Op.bytesLess, decide_eq_true (UInt8.lt_iff_toNat_lt.2 h), Bool.true_or]

/-- A text of n bytes, filled up, with its length behind. -/
def fl (l : List UInt8) (n p : Nat) : List UInt8 := l ++ (List.replicate (n - l.length) 0 ++ [UInt8.ofNat p])
theorem fl_cons (a : UInt8) (l : List UInt8) (n p : Nat) : fl (a :: l) (n + 1) p = a :: fl l n p := by
  unfold fl
  rw [List.length_cons, Nat.add_sub_add_right, List.cons_append]
theorem fl_nil (n p : Nat) : fl [] (n + 1) p = 0 :: fl [] n p := by unfold fl; rfl
theorem fl_pre : ∀ (m : List UInt8) (n p q : Nat), m.length ≤ n → p < q → q < 256 → Op.bytesLess (fl [] n p) (fl m n q) = true
  | [], 0, p, q, _, h, hq => by
    show Op.bytesLess [UInt8.ofNat p] [UInt8.ofNat q] = true
    exact bl_cons_lt (by rw [ofNat_toNat p (by omega), ofNat_toNat q hq]; exact h) _ _
  | [], n + 1, p, q, _, h, hq => by rw [fl_nil, fl_nil, bl_cons_same]; exact fl_pre [] n p q (Nat.zero_le _) h hq
  | b :: y, 0, p, q, hl, _, _ => by simp at hl
  | b :: y, n + 1, p, q, hl, h, hq => by
    rw [fl_nil, fl_cons]
    by_cases hb : b = 0
    · subst hb; rw [bl_cons_same]; exact fl_pre y n p q (by simpa using hl) h hq
    · refine bl_cons_lt ?_ _ _
      have : b.toNat ≠ 0 := fun e => hb (UInt8.toNat_inj.1 (by rw [e]; rfl))
      show 0 < _
      omega
theorem fl_less : ∀ (l m : List UInt8) (n p q : Nat), l.length ≤ n → m.length ≤ n → p + m.length = q + l.length → p < 256 → q < 256 → Op.bytesLess (fl l n p) (fl m n q) = Op.bytesLess l m
  | [], [], n, p, q, _, _, h, _, _ => by
    have : p = q := by simpa using h
    rw [this, bl_irrefl]; simp [Op.bytesLess]
  | [], b :: y, n, p, q, _, hm, h, _, hq => by
    rw [fl_pre (b :: y) n p q hm (by simp at h; omega) hq]; simp [Op.bytesLess]
  | a :: x, [], n, p, q, hl, _, h, hp, _ => by
    rw [bl_asymm _ _ (fl_pre (a :: x) n q p hl (by simp at h; omega) hp)]; simp [Op.bytesLess]
  | a :: x, b :: y, 0, p, q, hl, _, _, _, _ => by simp at hl
  | a :: x, b :: y, n + 1, p, q, hl, hm, h, hp, hq => by
    rw [fl_cons, fl_cons]
    have ih := fl_less x y n p q (by simpa using hl) (by simpa using hm) (by simp at h; omega) hp hq
    simp only [Op.bytesLess, ih]

theorem keyB_text (m : Nat) (l : List UInt8) (hl : l.length ≤ 8) : keyB m 2 0 l = UInt8.ofNat m :: fl l 8 (l.length + 1) := by
  have e : keyL 2 l = UInt8.ofNat (l.length + 1) := if_neg (by decide)
  have e2 : keyM 2 0 l = fill l 8 := if_neg (by decide)
  rw [keyB_is, e, e2]
  unfold fill fl
  rw [List.take_of_length_le hl, List.append_assoc]
theorem keyB_int (m : Nat) (n : Int) : keyB m 1 n [] = UInt8.ofNat m :: (be 8 (sgn n) ++ [0]) := by
  have e : keyL 1 [] = 0 := if_pos rfl
  have e2 : keyM 1 n [] = be 8 (sgn n) := if_pos rfl
  rw [keyB_is, e, e2]

/-- Keys of two tables. -/
theorem keyB_tables (m m' : Nat) (k n : Int) (l : List UInt8) (k' n' : Int) (l' : List UInt8) (h : m < 4) (h' : m' < 4) (hne : m ≠ m') : Op.bytesLess (keyB m k n l) (keyB m' k' n' l') = decide ((m : Int) < (m' : Int)) := by
  rw [keyB_is, keyB_is]
  have e1 := ofNat_toNat m (by omega)
  have e2 := ofNat_toNat m' (by omega)
  by_cases hlt : m < m'
  · rw [bl_cons_lt (by rw [e1, e2]; exact hlt), decide_eq_true (by omega)]
  · rw [bl_asymm _ _ (bl_cons_lt (a := UInt8.ofNat m') (b := UInt8.ofNat m) (by rw [e1, e2]; omega) _ _), decide_eq_false (by omega)]
/-- Keys of one table, of values of one kind. -/
theorem keyB_less (m : Nat) (k n : Int) (l : List UInt8) (n' : Int) (l' : List UInt8) (h : mayV k n l = true) (h' : mayV k n' l' = true)
    (a0 : -9223372036854775808 ≤ n) (a1 : n ≤ 9223372036854775807) (b0 : -9223372036854775808 ≤ n') (b1 : n' ≤ 9223372036854775807) : Op.bytesLess (keyB m k n l) (keyB m k n' l') = lessV k n l k n' l' := by
  rcases mayV_cases h with ⟨rfl, rfl⟩ | ⟨rfl, rfl, hl⟩
  · rcases mayV_cases h' with ⟨_, rfl⟩ | ⟨h2, _⟩
    · have s1 := sgn_range n
      have s2 := sgn_range n'
      rw [keyB_int, keyB_int, bl_cons_same, bytesLess_num _ _ (by simp [be_length]), numB_append, numB_append, numB_be8 _ s1.1 s1.2, numB_be8 _ s2.1 s2.2, sgn_is n a0 a1, sgn_is n' b0 b1]
      unfold lessV
      rw [if_pos rfl, if_pos rfl, decide_eq_decide]
      have e : numB [0] = 0 := by simp [numB]
      rw [e]
      simp only [List.length_singleton, Int.pow_one] 
      omega
    · omega
  · rcases mayV_cases h' with ⟨h2, _⟩ | ⟨_, rfl, hl'⟩
    · omega
    · rw [keyB_text m l hl, keyB_text m l' hl', bl_cons_same, fl_less l l' 8 _ _ hl hl' (by omega) (by omega) (by omega)]
      unfold lessV
      rw [if_pos rfl, if_neg (by decide)]
      rfl
/-- A key tells its value. -/
theorem keyB_inj (m : Nat) (k n : Int) (l : List UInt8) (k' n' : Int) (l' : List UInt8) (hm : m < 4) (h : mayV k n l = true) (h' : mayV k' n' l' = true)
    (a0 : -9223372036854775808 ≤ n) (a1 : n ≤ 9223372036854775807) (b0 : -9223372036854775808 ≤ n') (b1 : n' ≤ 9223372036854775807) : (keyB m k n l == keyB m k' n' l') = sameV k n l k' n' l' := by
  rw [Bool.eq_iff_iff, beq_iff_eq, sameV_iff]
  constructor
  · intro e
    have p1 := pkL_back m k n l hm h a0 a1
    have p2 := pkL_back m k' n' l' hm h' b0 b1
    rw [e, p2] at p1
    unfold pkRet at p1
    simp only [if_true, Ending.returned.injEq, Value.tuple.injEq] at p1
    simp at p1
    obtain ⟨q1, q2, q3⟩ := p1
    refine ⟨q1.symm, q2.symm, ?_⟩
    have := congrArg ByteArray.toList q3
    rw [str_list, str_list] at this
    exact this.symm
  · rintro ⟨rfl, rfl, rfl⟩; rfl
end Go.Proofs.Ytplpidpbfljpnaa
