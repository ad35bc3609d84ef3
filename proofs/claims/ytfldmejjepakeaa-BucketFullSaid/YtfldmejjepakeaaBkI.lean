/- Buckets' texts tell their blocks. -/
import Derived.Test.YtfldmejjepakeaaBkH
namespace Go.Proofs.Ytfldmejjepakeaa
open Go.ChangeShapes Go.WideShapes Go.ChangeAt Go.RowKit
open Go.ChangeMaps (open_string shut_string)
set_option linter.unusedVariables false
set_option linter.unusedSimpArgs false
set_option maxRecDepth 100000

theorem u8_small (m : Nat) (h : m < 256) : (UInt8.ofNat m).toNat = m := by
  rw [UInt8.toNat_ofNat']; omega
theorem id_inj {a b : Int} (h0 : 0 ≤ a) (h1 : a < 64) (h2 : 0 ≤ b) (h3 : b < 64) (h : UInt8.ofNat (a + 1).toNat = UInt8.ofNat (b + 1).toNat) : a = b := by
  have := congrArg UInt8.toNat h
  rw [u8_small _ (by omega), u8_small _ (by omega)] at this
  omega
theorem id_ne {a : Int} (h0 : 0 ≤ a) (h1 : a < 64) : UInt8.ofNat (a + 1).toNat ≠ 0 := fun h => by
  have := congrArg UInt8.toNat h
  rw [u8_small _ (by omega)] at this
  simp at this
  omega
def Okay (x : BlkR) : Prop := x.d.length = 37 ∧ 0 ≤ x.id ∧ x.id < 64
theorem bytesK_cons (x : BlkR) (L : List BlkR) : bytesK (x :: L) = UInt8.ofNat (x.id + 1).toNat :: (x.d ++ bytesK L) := by simp [bytesK, encK1]
theorem bytesK_inj : ∀ (L M : List BlkR) (a b : Nat), (∀ x ∈ L, Okay x) → (∀ x ∈ M, Okay x) → bytesK L ++ zs a = bytesK M ++ zs b → L = M
  | [], [], _, _, _, _, _ => rfl
  | [], y :: M, a, b, _, hM, h => by
    exfalso
    have hy := hM y (by simp)
    rw [bytesK_cons] at h
    cases a with
    | zero => simp [bytesK, zs] at h
    | succ a =>
      simp only [bytesK, zs, List.flatMap_nil, List.nil_append, List.replicate_succ, List.cons_append, List.cons.injEq] at h
      exact id_ne hy.2.1 hy.2.2 h.1.symm
  | x :: L, [], a, b, hL, _, h => by
    exfalso
    have hy := hL x (by simp)
    rw [bytesK_cons] at h
    cases b with
    | zero => simp [bytesK, zs] at h
    | succ b =>
      simp only [bytesK, zs, List.flatMap_nil, List.nil_append, List.replicate_succ, List.cons_append, List.cons.injEq] at h
      exact id_ne hy.2.1 hy.2.2 h.1
  | x :: L, y :: M, a, b, hL, hM, h => by
    have hx := hL x (by simp)
    have hy := hM y (by simp)
    rw [bytesK_cons, bytesK_cons] at h
    simp only [List.cons_append, List.cons.injEq, List.append_assoc] at h
    obtain ⟨h1, h2⟩ := List.append_inj h.2 (by rw [hx.1, hy.1])
    have h3 := id_inj hx.2.1 hx.2.2 hy.2.1 hy.2.2 h.1
    have h4 := bytesK_inj L M a b (fun z hz => hL z (by simp [hz])) (fun z hz => hM z (by simp [hz])) h2
    obtain ⟨i, d⟩ := x
    obtain ⟨j, e⟩ := y
    simp only at h1 h3
    rw [h1, h3, h4]
theorem fill_long (l : List UInt8) (n : Nat) (h : l.length ≤ n) : fill l n = l ++ zs (n - l.length) := by
  unfold fill zs
  rw [List.take_of_length_le h]
theorem encK_len {z : Int} {L : List BlkR} (h : encKE z L = 0) : (encKT z L).length = z.toNat * 38 ∧ lenZ z = (z.toNat * 38 : Nat) := by
  obtain ⟨h1, h2, h3⟩ := encKE_zero h
  have hz := mayZ_true h1
  unfold encKT lenZ
  rw [if_pos h, if_pos h1, fill_length]
  exact ⟨rfl, by omega⟩
theorem encK_inj {z : Int} {L M : List BlkR} (h : encKE z L = 0) (h' : encKE z M = 0) : (encKT z L == encKT z M) = sameK L M := by
  obtain ⟨h1, h2, h3⟩ := encKE_zero h
  obtain ⟨_, h5, h6⟩ := encKE_zero h'
  have hz := mayZ_true h1
  have hL := mayB_len h2
  have hM := mayB_len h5
  have l1 := bytesK_length L (fun b hb => (hL b hb).1)
  have l2 := bytesK_length M (fun b hb => (hM b hb).1)
  have e : encKT z L = encKT z M ↔ L = M := by
    unfold encKT
    rw [if_pos h, if_pos h', fill_long _ _ (by rw [l1]; omega), fill_long _ _ (by rw [l2]; omega)]
    constructor
    · exact bytesK_inj L M _ _ hL hM
    · intro e; rw [e]
  by_cases hh : L = M
  · rw [beq_iff_eq.2 (e.2 hh), sameK_iff.2 hh]
  · rw [beq_eq_false_iff_ne.2 (fun x => hh (e.1 x))]
    cases hs : sameK L M with
    | false => rfl
    | true => exact absurd (sameK_iff.1 hs) hh
end Go.Proofs.Ytfldmejjepakeaa
