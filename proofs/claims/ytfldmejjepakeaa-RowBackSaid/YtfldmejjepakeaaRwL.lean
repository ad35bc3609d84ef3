/- oublaw16.Few. -/
import Derived.Test.YtfldmejjepakeaaRwK
namespace Go.Proofs.Ytfldmejjepakeaa
open Go.ChangeShapes Go.WideShapes Go.ChangeAt Go.RowKit
open Go.ChangeMaps (open_string shut_string)
set_option linter.unusedVariables false
set_option linter.unusedSimpArgs false
set_option maxRecDepth 100000
open Go.Deep

def FewB (e : Ending) : Prop := ∃ b, e = .returned (.bool b)
theorem FewB.ok (b : Bool) : FewB (.returned (.bool b)) := ⟨_, rfl⟩
set_option maxHeartbeats 4000000 in
theorem few16_any (A : Option Addr) (n c : Nat) (R : List RowR) (w : World) (h : RR w A n c R) : Calls Try.prog 17 #[.slice A n c] w fun e w' => FewB e ∧ Below w.heap.size w w' := by
  have hnm : n ≤ maxLen := Nat.le_trans h.cap h.max
  unfold maxLen at hnm
  have hLn := h.len
  go_enter Try.func17, Try.ntmps17
  go_wp2
  go_loopw [3, 4] (fun s i wr => ∃ (k : Nat) (m : Int), k ≤ n ∧ k ≤ 100 ∧ s = .int .i64 m ∧ i = .int .i64 k ∧ wr = w) (fun s i _ => 101 - (intOf i).toNat)
  case atStart => exact ⟨0, 0, by omega, by omega, rfl, rfl, rfl⟩
  case round =>
    obtain ⟨k, m, hk, hk2, rfl, rfl, rfl⟩ := hrel
    by_cases h1 : k < n
    · by_cases h2 : k < 100
      · obtain ⟨q, hq⟩ : ∃ q, R[k]? = some q := ⟨_, List.getElem?_eq_getElem (by omega)⟩
        obtain ⟨g, o, rfl, hc⟩ := h.at_ (by omega)
        obtain ⟨B, mm, kk, hE, hc0, hc1⟩ := hc k q hq
        have hmm : mm ≤ maxLen := Nat.le_trans hE.cap hE.max
        unfold maxLen at hmm
        have hEl := hE.len
        clear hc hq
        go_wp2
        go_loopw [3, 5] (fun s i wq => ∃ (j : Nat) (m : Int), j ≤ mm ∧ j ≤ 100 ∧ s = .int .i64 m ∧ i = .int .i64 j ∧ wq = wr) (fun s i _ => 101 - (intOf i).toNat)
        case atStart => exact ⟨0, m, by omega, by omega, rfl, rfl, rfl⟩
        case round =>
          obtain ⟨j, m, hj, hj2, rfl, rfl, rfl⟩ := hrel
          by_cases h3 : j < mm
          · by_cases h4 : j < 100
            · obtain ⟨p, hp⟩ : ∃ p, q.V[j]? = some p := ⟨_, List.getElem?_eq_getElem (by omega)⟩
              obtain ⟨g2, o2, rfl, hd⟩ := hE.at_ (by omega)
              obtain ⟨d0, d1, d2⟩ := hd j p hp
              clear hd hp
              go_wp2
              go_roundw
              case rel => exact ⟨j + 1, _, by omega, by omega, rfl, by go_num, trivial⟩
              case measure => simp [intOf]; omega
            · have h5 : 100 < (mm : Int) := by omega
              go_wp2
              go_ret
              exact ⟨FewB.ok _, Below.refl _ _⟩
          · have h5 : ¬ 100 < (mm : Int) := by omega
            go_wp2
            go_roundw
            case rel => exact ⟨k + 1, _, by omega, by omega, rfl, by go_num, trivial⟩
            case measure => simp [intOf]; omega
      · go_wp2
        go_ret
        exact ⟨FewB.ok _, Below.refl _ _⟩
    · go_wp2
      go_ret
      exact ⟨FewB.ok _, Below.refl _ _⟩
end Go.Proofs.Ytfldmejjepakeaa
