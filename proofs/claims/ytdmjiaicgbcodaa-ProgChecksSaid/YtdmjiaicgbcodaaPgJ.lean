/- The document of chapter 19: counts, numbers of arguments. -/
import Derived.Test.YtdmjiaicgbcodaaPgA
namespace Go.Proofs.Ytdmjiaicgbcodaa
open Go.ChangeShapes Go.WideShapes Go.ChangeAt Go.RowKit
open Go.ChangeMaps (open_string shut_string)
set_option linter.unusedVariables false
set_option linter.unusedSimpArgs false

set_option maxHeartbeats 1000000 in
set_option maxRecDepth 100000 in
theorem ref_Reads (A : Option Addr) (n c : Nat) (L : List OpR) (w : World) (h : RO w A n c L) : Calls Try.prog 31 #[.slice A n c] w fun e w' => e = .returned (.int .i64 (countK readK L)) ∧ Below w.heap.size w w' := by
  have hLn := h.len
  have hnm : n ≤ maxLen := Nat.le_trans h.cap h.max
  unfold maxLen at hnm
  go_enter Try.func31, Try.ntmps31
  go_wp2
  go_loopw [3, 4] (fun s i wr => ∃ k : Nat, k ≤ n ∧ i = .int .i64 k ∧ s = .int .i64 (countK readK (L.take k)) ∧ Below w.heap.size w wr) (fun s i _ => n - (intOf i).toNat)
  case atStart => exact ⟨0, by omega, rfl, rfl, (by repeat (first | exact Below.refl _ _ | assumption | apply below_drewN' | apply Below.drew | refine Below.alloc ?_ (by first | omega | (simp; done) | (simp; omega)) _ | refine Below.setCell ?_ (by first | omega | (simp; done) | (simp; omega)) _))⟩
  case round =>
    obtain ⟨k, hk, rfl, rfl, bl⟩ := hrel
    by_cases hlt : k < n
    · obtain ⟨q, hq⟩ : ∃ q, L[k]? = some q := ⟨_, List.getElem?_eq_getElem (by omega)⟩
      obtain ⟨g, o, rfl, hc⟩ := (h.below bl).at_ (by omega)
      obtain ⟨B, m, kk, hE, hcs⟩ := hc k q hq
      have hnx := Lib.hid (countK_next (f := readK) hq)
      have hle := countK_le readK (L.take k)
      rw [List.length_take] at hle
      clear hc hq
      generalize countK readK (L.take k) = s at *
      have o0 : wr.cell? ⟨g, o + k * 6, none⟩ = some (.int .i64 q.k) := hcs 0 (.int .i64 q.k) rfl
      clear hcs hE
      by_cases k1 : q.k = 1
      · have e1 : (q.k == 1) = true := by rw [beq_iff_eq]; exact k1
        have hbh := Lib.hid (show readK q.k = true by unfold readK; rw [e1]; rfl)
        go_wp2
        go_roundw
        case rel => exact ⟨k + 1, by omega, by go_num, (by rw [hnx.out, hbh.out]; rfl), bl⟩
        case measure => simp [intOf]; omega
      · have e1 : (q.k == 1) = false := by rw [beq_eq_false_iff_ne]; exact k1
        by_cases k5 : q.k = 5
        · have e5 : (q.k == 5) = true := by rw [beq_iff_eq]; exact k5
          have hbh := Lib.hid (show readK q.k = true by unfold readK; rw [e5, Bool.or_true])
          go_wp2
          go_roundw
          case rel => exact ⟨k + 1, by omega, by go_num, (by rw [hnx.out, hbh.out]; rfl), bl⟩
          case measure => simp [intOf]; omega
        · have e5 : (q.k == 5) = false := by rw [beq_eq_false_iff_ne]; exact k5
          have hbh := Lib.hid (show readK q.k = false by unfold readK; rw [e1, e5]; rfl)
          go_wp2
          go_roundw
          case rel => exact ⟨k + 1, by omega, by go_num, (by rw [hnx.out, hbh.out]; rfl), bl⟩
          case measure => simp [intOf]; omega
    · have hkn : n = k := by omega
      subst hkn
      rw [List.take_of_length_le (by omega)]
      go_wp2
      go_ret
      exact ⟨rfl, bl⟩
set_option maxHeartbeats 1000000 in
set_option maxRecDepth 100000 in
theorem ref_Writes (A : Option Addr) (n c : Nat) (L : List OpR) (w : World) (h : RO w A n c L) : Calls Try.prog 33 #[.slice A n c] w fun e w' => e = .returned (.int .i64 (countK writeK L)) ∧ Below w.heap.size w w' := by
  have hLn := h.len
  have hnm : n ≤ maxLen := Nat.le_trans h.cap h.max
  unfold maxLen at hnm
  go_enter Try.func33, Try.ntmps33
  go_wp2
  go_loopw [3, 4] (fun s i wr => ∃ k : Nat, k ≤ n ∧ i = .int .i64 k ∧ s = .int .i64 (countK writeK (L.take k)) ∧ Below w.heap.size w wr) (fun s i _ => n - (intOf i).toNat)
  case atStart => exact ⟨0, by omega, rfl, rfl, (by repeat (first | exact Below.refl _ _ | assumption | apply below_drewN' | apply Below.drew | refine Below.alloc ?_ (by first | omega | (simp; done) | (simp; omega)) _ | refine Below.setCell ?_ (by first | omega | (simp; done) | (simp; omega)) _))⟩
  case round =>
    obtain ⟨k, hk, rfl, rfl, bl⟩ := hrel
    by_cases hlt : k < n
    · obtain ⟨q, hq⟩ : ∃ q, L[k]? = some q := ⟨_, List.getElem?_eq_getElem (by omega)⟩
      obtain ⟨g, o, rfl, hc⟩ := (h.below bl).at_ (by omega)
      obtain ⟨B, m, kk, hE, hcs⟩ := hc k q hq
      have hnx := Lib.hid (countK_next (f := writeK) hq)
      have hle := countK_le writeK (L.take k)
      rw [List.length_take] at hle
      clear hc hq
      generalize countK writeK (L.take k) = s at *
      have o0 : wr.cell? ⟨g, o + k * 6, none⟩ = some (.int .i64 q.k) := hcs 0 (.int .i64 q.k) rfl
      clear hcs hE
      by_cases k2 : q.k = 2
      · have e2 : (q.k == 2) = true := by rw [beq_iff_eq]; exact k2
        have hbh := Lib.hid (show writeK q.k = true by simp [writeK, inR]; omega)
        go_wp2
        go_roundw
        case rel => exact ⟨k + 1, by omega, by go_num, (by rw [hnx.out, hbh.out]; rfl), bl⟩
        case measure => simp [intOf]; omega
      have e2 : (q.k == 2) = false := by rw [beq_eq_false_iff_ne]; exact k2
      by_cases k3 : q.k = 3
      · have e3 : (q.k == 3) = true := by rw [beq_iff_eq]; exact k3
        have hbh := Lib.hid (show writeK q.k = true by simp [writeK, inR]; omega)
        go_wp2
        go_roundw
        case rel => exact ⟨k + 1, by omega, by go_num, (by rw [hnx.out, hbh.out]; rfl), bl⟩
        case measure => simp [intOf]; omega
      have e3 : (q.k == 3) = false := by rw [beq_eq_false_iff_ne]; exact k3
      by_cases k4 : q.k = 4
      · have e4 : (q.k == 4) = true := by rw [beq_iff_eq]; exact k4
        have hbh := Lib.hid (show writeK q.k = true by simp [writeK, inR]; omega)
        go_wp2
        go_roundw
        case rel => exact ⟨k + 1, by omega, by go_num, (by rw [hnx.out, hbh.out]; rfl), bl⟩
        case measure => simp [intOf]; omega
      have e4 : (q.k == 4) = false := by rw [beq_eq_false_iff_ne]; exact k4
      have hbh := Lib.hid (show writeK q.k = false by simp [writeK, inR]; omega)
      go_wp2
      go_roundw
      case rel => exact ⟨k + 1, by omega, by go_num, (by rw [hnx.out, hbh.out]; rfl), bl⟩
      case measure => simp [intOf]; omega
    · have hkn : n = k := by omega
      subst hkn
      rw [List.take_of_length_le (by omega)]
      go_wp2
      go_ret
      exact ⟨rfl, bl⟩
end Go.Proofs.Ytdmjiaicgbcodaa
