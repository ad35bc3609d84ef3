/- What is read of a bucket's bytes, in plain words. -/
import Derived.Test.YtfldmejjepakeaaBkI
import Derived.Test.YtfldmejjepakeaaReader2
namespace Go.Proofs.Ytfldmejjepakeaa
open Go.ChangeShapes Go.WideShapes Go.ChangeAt Go.RowKit
open Go.ChangeMaps (open_string shut_string)
set_option linter.unusedVariables false
set_option linter.unusedSimpArgs false
set_option maxRecDepth 100000

/-- Raw at any state: what it tells, what is left, the error. -/
def rawR (l : List UInt8) (e n : Int) : List UInt8 × List UInt8 × Int := if rawE l e n = 0 then (l.take n.toNat, l.drop n.toNat, 0) else ([], l, rawE l e n)
/-- The blocks that z rounds read. -/
def parseK : Nat → List UInt8 → Int → List BlkR
  | 0, _, _ => []
  | k + 1, l, e => (if (rnumR l e 1).1 = 0 then [] else [⟨(rnumR l e 1).1 - 1, (rawR (rnumR l e 1).2.1 (rnumR l e 1).2.2 37).1⟩]) ++ parseK k (rawR (rnumR l e 1).2.1 (rnumR l e 1).2.2 37).2.1 (rawR (rnumR l e 1).2.1 (rnumR l e 1).2.2 37).2.2
theorem rnum_cons (x : UInt8) (l : List UInt8) (h : x.toNat < 255) : rnumR (x :: l) 0 1 = ((x.toNat : Int), l, 0) := by
  have e : rnumE (x :: l) 0 1 = 0 := by
    unfold rnumE
    rw [show mayW 1 = true from by decide, if_pos rfl]
    unfold rawE
    rw [if_neg (by decide), if_neg (by simp; omega)]
  unfold rnumR
  rw [if_pos e]
  have h1 : numB [x] = (x.toNat : Int) := by simp [numB]
  have h2 : topW 1 = 255 := by decide
  simp only [show (1 : Int).toNat = 1 from rfl, List.take_succ_cons, List.take_zero, List.drop_succ_cons, List.drop_zero]
  unfold rnumV
  rw [h1, List.length_singleton, h2, if_neg (by omega)]
theorem raw_app (d l : List UInt8) (h : d.length = 37) : rawR (d ++ l) 0 37 = (d, l, 0) := by
  have e : rawE (d ++ l) 0 37 = 0 := by
    unfold rawE
    rw [if_neg (by decide), if_neg (by rw [List.length_append, h]; omega)]
  unfold rawR
  rw [if_pos e]
  simp only [show (37 : Int).toNat = 37 from rfl]
  rw [← h, List.take_left, List.drop_left]
theorem zs_add (a b : Nat) : zs (a + b) = zs a ++ zs b := by simp [zs]
theorem parse_zs : ∀ k : Nat, parseK k (zs (38 * k)) 0 = []
  | 0 => rfl
  | k + 1 => by
    have e : zs (38 * (k + 1)) = 0 :: (zs 37 ++ zs (38 * k)) := by
      rw [← zs_add, show 38 * (k + 1) = 37 + 38 * k + 1 by omega]
      rfl
    unfold parseK
    rw [e, rnum_cons 0 _ (by decide)]
    simp only
    rw [raw_app _ _ (zs_length 37)]
    simp only
    rw [parse_zs k]
    rfl
theorem parse_back : ∀ (L : List BlkR) (k : Nat), (∀ x ∈ L, Okay x) → parseK (L.length + k) (bytesK L ++ zs (38 * k)) 0 = L
  | [], k, _ => by
    rw [List.length_nil, Nat.zero_add]
    exact parse_zs k
  | x :: L, k, h => by
    obtain ⟨h1, h2, h3⟩ := h x (by simp)
    have hx : (UInt8.ofNat (x.id + 1).toNat).toNat = (x.id + 1).toNat := u8_small _ (by omega)
    rw [List.length_cons, show L.length + 1 + k = (L.length + k) + 1 by omega, bytesK_cons]
    unfold parseK
    rw [List.cons_append, rnum_cons _ _ (by rw [hx]; omega), List.append_assoc]
    simp only
    rw [raw_app _ _ h1]
    simp only
    rw [parse_back L k (fun y hy => h y (by simp [hy])), hx, if_neg (by omega)]
    have : ((x.id + 1).toNat : Int) - 1 = x.id := by omega
    rw [this]
    rfl
theorem parse_enc {z : Nat} {L : List BlkR} (h : encKE z L = 0) : parseK z (encKT z L) 0 = L := by
  obtain ⟨h1, h2, h3⟩ := encKE_zero h
  have hL := mayB_len h2
  have l1 := bytesK_length L (fun b hb => (hL b hb).1)
  unfold encKT
  rw [if_pos h, fill_long _ _ (by rw [l1]; omega), l1]
  have := parse_back L (z - L.length) hL
  rw [show L.length + (z - L.length) = z by omega] at this
  rw [show (z : Int).toNat * 38 - 38 * L.length = 38 * (z - L.length) by omega]
  exact this
theorem parse_len : ∀ (k : Nat) (l : List UInt8) (e : Int), (parseK k l e).length ≤ k
  | 0, _, _ => by simp [parseK]
  | k + 1, l, e => by
    unfold parseK
    rw [List.length_append]
    have := parse_len k (rawR (rnumR l e 1).2.1 (rnumR l e 1).2.2 37).2.1 (rawR (rnumR l e 1).2.1 (rnumR l e 1).2.2 37).2.2
    split
    · simp; omega
    · simp; omega
theorem rnum_range (l : List UInt8) (e : Int) : -1 ≤ (rnumR l e 1).1 ∧ (rnumR l e 1).1 ≤ 255 := by
  unfold rnumR
  split
  · show -1 ≤ rnumV _ ∧ rnumV _ ≤ 255
    unfold rnumV
    split
    · omega
    · have h1 := numB_nonneg (l.take (1 : Int).toNat)
      have h2 := numB_lt (l.take (1 : Int).toNat)
      have h3 : (l.take (1 : Int).toNat).length ≤ 1 := by rw [List.length_take]; exact Nat.min_le_left _ _
      have h4 : (256 : Int) ^ (l.take (1 : Int).toNat).length ≤ 256 := by
        have : (l.take (1 : Int).toNat).length = 0 ∨ (l.take (1 : Int).toNat).length = 1 := by omega
        rcases this with h | h <;> rw [h] <;> decide
      omega
  · show -1 ≤ (0 : Int) ∧ (0 : Int) ≤ 255
    omega
theorem rnum_left (l : List UInt8) (e : Int) : (rnumR l e 1).2.1.length ≤ l.length := by
  unfold rnumR
  split
  · show (l.drop _).length ≤ _
    rw [List.length_drop]; omega
  · exact Nat.le_refl _
theorem raw_left (l : List UInt8) (e n : Int) : (rawR l e n).2.1.length ≤ l.length := by
  unfold rawR
  split
  · show (l.drop _).length ≤ _
    rw [List.length_drop]; omega
  · exact Nat.le_refl _
/-- Is b the text of blocks? -/
def IsK (z : Int) (b : List UInt8) (L : List BlkR) : Prop := encKE z L = 0 ∧ encKT z L = b
theorem IsK.uniq {z : Int} {b : List UInt8} {L M : List BlkR} (h : IsK z b L) (h' : IsK z b M) : L = M := by
  have := encK_inj h.1 h'.1
  rw [h.2, h'.2, beq_self_eq_true] at this
  exact sameK_iff.1 this.symm
open Classical in
/-- What a bucket's bytes read as. -/
noncomputable def decK (z : Int) (b : List UInt8) : List BlkR × Int := if h : ∃ L, IsK z b L then (h.choose, 0) else ([], if mayZ z = true then 2 else 1)
theorem decK_yes {z : Int} {b : List UInt8} {L : List BlkR} (h : IsK z b L) : decK z b = (L, 0) := by
  have hx : ∃ L, IsK z b L := ⟨L, h⟩
  unfold decK
  rw [dif_pos hx]
  rw [hx.choose_spec.uniq h]
theorem decK_no {z : Int} {b : List UInt8} (h : ∀ L, ¬ IsK z b L) : decK z b = ([], if mayZ z = true then 2 else 1) := by
  unfold decK
  rw [dif_neg (fun ⟨L, hL⟩ => h L hL)]
theorem decK_cases (z : Int) (b : List UInt8) : (∃ L, IsK z b L ∧ decK z b = (L, 0)) ∨ ((∀ L, ¬ IsK z b L) ∧ decK z b = ([], if mayZ z = true then 2 else 1)) := by
  by_cases h : ∃ L, IsK z b L
  · obtain ⟨L, hL⟩ := h
    exact .inl ⟨L, hL, decK_yes hL⟩
  · have h' : ∀ L, ¬ IsK z b L := fun L hL => h ⟨L, hL⟩
    exact .inr ⟨h', decK_no h'⟩
/-- By the rounds of bucket.Decode. -/
theorem decK_parse {z : Nat} {b : List UInt8} : (IsK z b (parseK z b 0) ∧ decK z b = (parseK z b 0, 0)) ∨ (¬ IsK z b (parseK z b 0) ∧ ∀ L, ¬ IsK z b L) := by
  by_cases h : IsK z b (parseK z b 0)
  · exact .inl ⟨h, decK_yes h⟩
  · refine .inr ⟨h, fun L hL => h ?_⟩
    have := parse_enc hL.1
    rw [hL.2] at this
    rw [this]
    exact hL

/-- The document's rounds. -/
def parseD : Nat → List UInt8 → List BlkR
  | 0, _ => []
  | k + 1, b => match b with
    | [] => []
    | h :: t => if h = 0 ∨ t.length < 37 then [] else ⟨(h.toNat : Int) - 1, t.take 37⟩ :: parseD k (t.drop 37)
theorem parseD_zs : ∀ (k a : Nat), parseD k (zs a) = []
  | 0, _ => rfl
  | k + 1, 0 => rfl
  | k + 1, a + 1 => by
    show parseD (k + 1) (0 :: zs a) = []
    unfold parseD
    exact if_pos (.inl rfl)
theorem parseD_back : ∀ (L : List BlkR) (k a : Nat), L.length ≤ k → (∀ x ∈ L, Okay x) → parseD k (bytesK L ++ zs a) = L
  | [], k, a, _, _ => parseD_zs k a
  | x :: L, 0, a, h, _ => by simp at h
  | x :: L, k + 1, a, hk, h => by
    obtain ⟨h1, h2, h3⟩ := h x (by simp)
    have hx : (UInt8.ofNat (x.id + 1).toNat).toNat = (x.id + 1).toNat := u8_small _ (by omega)
    have hne := id_ne h2 h3
    rw [bytesK_cons, List.cons_append, List.append_assoc]
    unfold parseD
    simp only
    rw [if_neg (by rw [List.length_append, h1]; intro hh; rcases hh with hh | hh; exact hne hh; omega)]
    rw [hx, ← h1, List.take_left, List.drop_left, parseD_back L k a (by simp at hk; omega) (fun y hy => h y (by simp [hy]))]
    have : ((x.id + 1).toNat : Int) - 1 = x.id := by omega
    rw [this]
theorem decK_parseD {z : Int} {b : List UInt8} {k : Nat} (hk : 4 ≤ k) : (IsK z b (parseD k b) ∧ decK z b = (parseD k b, 0)) ∨ (¬ IsK z b (parseD k b) ∧ ∀ L, ¬ IsK z b L) := by
  by_cases h : IsK z b (parseD k b)
  · exact .inl ⟨h, decK_yes h⟩
  · refine .inr ⟨h, fun L hL => h ?_⟩
    obtain ⟨h1, h2, h3⟩ := encKE_zero hL.1
    have hz := mayZ_true h1
    have hLl := mayB_len h2
    have l1 := bytesK_length L (fun b hb => (hLl b hb).1)
    have e : b = bytesK L ++ zs (z.toNat * 38 - (bytesK L).length) := by
      rw [← hL.2]
      unfold encKT
      rw [if_pos hL.1, fill_long _ _ (by rw [l1]; omega)]
    have := parseD_back L k (z.toNat * 38 - (bytesK L).length) (by omega) hLl
    rw [← e] at this
    rw [this]
    exact hL
end Go.Proofs.Ytfldmejjepakeaa
