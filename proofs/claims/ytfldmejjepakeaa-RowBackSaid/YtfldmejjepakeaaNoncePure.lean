/- What a nonce's bytes tell: its numbers, its order. -/
import Derived.Test.YtfldmejjepakeaaLex
import Derived.Test.YtfldmejjepakeaaNonce4
namespace Go.Proofs.Ytfldmejjepakeaa
open Go.ChangeShapes Go.WideShapes Go.ChangeAt Go.RowKit
open Go.ChangeMaps (open_string shut_string)
set_option linter.unusedVariables false
set_option linter.unusedSimpArgs false
set_option maxRecDepth 100000

theorem among_nat {n : Int} (h : amongB n = true) : ∃ m : Nat, n = m ∧ m ≤ 1099511627776 := by
  simp [amongB] at h
  exact ⟨n.toNat, by omega, by omega⟩

theorem numB_six {n : Int} (h : amongB n = true) : numB (be 6 n) = n := by
  obtain ⟨m, rfl, hm⟩ := among_nat h
  rw [numB_be, Nat.mod_eq_of_lt (Nat.lt_of_le_of_lt hm (by decide))]

theorem rnumV_six {n : Int} (h : amongB n = true) : rnumV (be 6 n) = n := by
  unfold rnumV
  rw [be_length, numB_six h]
  have e : topW 6 = 281474976710655 := by simp [topW]
  simp [amongB] at h
  rw [e, if_neg (by omega)]

theorem nonceB_yes {g c : Int} (h1 : amongB g = true) (h2 : amongB c = true) : nonceB g c = be 6 g ++ be 6 c := by simp [nonceB, h1, h2]

theorem parse_back {g c : Int} (h1 : amongB g = true) (h2 : amongB c = true) : parseOk (nonceB g c) = true ∧ parseV (nonceB g c) = .agg #[.int .i64 g, .int .i64 c] ∧ parseE (nonceB g c) = 0 := by
  have t : (be 6 g ++ be 6 c).take 6 = be 6 g := by rw [List.take_append_of_le_length (by rw [be_length]; omega), List.take_of_length_le (by rw [be_length]; omega)]
  have d : (be 6 g ++ be 6 c).drop 6 = be 6 c := by
    rw [List.drop_append, be_length, List.drop_eq_nil_of_le (by rw [be_length]; omega)]; rfl
  have ok : parseOk (nonceB g c) = true := by
    rw [nonceB_yes h1 h2]
    unfold parseOk
    rw [t, d, rnumV_six h1, rnumV_six h2, h1, h2]
    simp [be_length]
  refine ⟨ok, ?_, parseE_yes ok⟩
  rw [parseV_yes ok, nonceB_yes h1 h2, t, d, rnumV_six h1, rnumV_six h2]

theorem numB_nonce {g c : Int} (h1 : amongB g = true) (h2 : amongB c = true) : numB (nonceB g c) = g * 281474976710656 + c := by
  rw [nonceB_yes h1 h2, numB_append, numB_six h1, numB_six h2, be_length]
  rfl

theorem lessB_spec (g c g' c' : Int) : lessB g c g' c' = decide (g < g' ∨ g = g' ∧ c < c') := by
  unfold lessB orI cmpI
  by_cases h1 : g < g'
  · simp [h1]
  · by_cases h2 : g' < g
    · have : g ≠ g' := by omega
      simp [h1, h2, this]
    · obtain rfl : g = g' := by omega
      by_cases h3 : c < c'
      · simp [h3]
      · by_cases h4 : c' < c <;> simp [h3, h4]

theorem less_bytes {g c g' c' : Int} (h1 : amongB g = true) (h2 : amongB c = true) (h3 : amongB g' = true) (h4 : amongB c' = true) : Op.bytesLess (nonceB g c) (nonceB g' c') = lessB g c g' c' := by
  rw [bytesLess_num _ _ (by rw [nonceB_length, nonceB_length]), numB_nonce h1 h2, numB_nonce h3 h4, lessB_spec]
  simp [amongB] at h1 h2 h3 h4
  rw [decide_eq_decide]
  omega

theorem eq_bytes {g c g' c' : Int} (h1 : amongB g = true) (h2 : amongB c = true) (h3 : amongB g' = true) (h4 : amongB c' = true) : (nonceB g c == nonceB g' c') = (g == g' && c == c') := by
  rw [Bool.eq_iff_iff]
  simp only [beq_iff_eq, Bool.and_eq_true]
  constructor
  · intro h
    have := congrArg numB h
    rw [numB_nonce h1 h2, numB_nonce h3 h4] at this
    simp [amongB] at h1 h2 h3 h4
    omega
  · rintro ⟨rfl, rfl⟩; rfl
end Go.Proofs.Ytfldmejjepakeaa
