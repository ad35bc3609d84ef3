/- Parts of a slice of operations; operations appended. -/
import Derived.Test.YtdmjiaicgbcodaaOps
import Derived.Maps.AppendAt
namespace Go.Proofs.Ytdmjiaicgbcodaa
open Go.ChangeShapes Go.WideShapes Go.ChangeAt Go.RowKit
open Go.ChangeMaps (open_string shut_string)
set_option linter.unusedVariables false
set_option linter.unusedSimpArgs false
open Go.Deep

theorem RO.part {w : World} {A : Option Addr} {n c : Nat} {L : List OpR} (h : RO w A n c L) (lo hi : Nat) (h1 : lo ≤ hi) (h2 : hi ≤ n) : RO w (if c = lo then A else A.map (·.add (lo * 6))) (hi - lo) (c - lo) ((L.take hi).drop lo) := by
  have hl := h.len
  have hc := h.cap
  have hm := h.max
  refine ⟨by simp; omega, by omega, by omega, ?_, fun hn => ?_⟩
  · intro hA
    by_cases e : c = lo
    · omega
    · rw [if_neg e] at hA
      cases A with
      | none => have := h.nil rfl; omega
      | some a => cases hA
  · obtain ⟨g, o, e, hx⟩ := h.at_ (by omega)
    subst e
    rw [if_neg (by omega)]
    refine ⟨g, o + lo * 6, by rw [Option.map_some, Addr.add_lit], fun i p hp => ?_⟩
    rw [List.getElem?_drop, List.getElem?_take] at hp
    have hlt : lo + i < hi := by
      by_cases hh : lo + i < hi
      · exact hh
      · rw [if_neg hh] at hp; cases hp
    rw [if_pos hlt] at hp
    obtain ⟨B, m, k, hE, hv⟩ := hx (lo + i) p hp
    refine ⟨B, m, k, hE, fun f v hf => ?_⟩
    have := hv f v hf
    rw [Nat.add_mul, ← Nat.add_assoc] at this
    exact this
theorem elem_ops : Try.prog.elem 42 = 51 := by kernel_rfl
theorem size_ops : ((Try.prog.info? 51).map fun i => i.size) = some 6 := by kernel_rfl
theorem under_ops : Try.prog.underlying 42 = some (.slice (Try.prog.elem 42)) := by rw [elem_ops]; exact Try.underlying42
theorem run_sizeOp (w : World) : (sizeOf 51).run Try.prog w = .ok 6 w := by rfl
theorem run_take (A : Option Addr) (n c cut : Nat) (w : World) (h : cut ≤ c) : (Instr.slice 42 (.slice A n c) none (some (.int .i64 cut)) none).run Try.prog w = .ok (.slice A cut c) w := by
  have := run_slice_h (P := Try.prog) w 42 A n c under_ops .i64 cut (by omega) (by omega)
  rw [this, elem_ops, run_sizeOp]
  simp only [Result.andThen_ok, sliced, Int.toNat_natCast, Nat.sub_zero, Nat.zero_mul]
  congr 2
  split
  · rfl
  · cases A with
    | none => rfl
    | some a => simp [Addr.add]
theorem run_drop (A : Option Addr) (n c cut : Nat) (w : World) (h : cut ≤ n) : (Instr.slice 42 (.slice A n c) (some (.int .i64 cut)) none none).run Try.prog w = .ok (.slice (if c = cut then A else A.map (·.add (cut * 6))) (n - cut) (c - cut)) w := by
  have := run_slice_l (P := Try.prog) w 42 A n c under_ops .i64 cut (by omega) (by omega)
  rw [this, elem_ops, run_sizeOp]
  simp only [Result.andThen_ok, sliced, Int.toNat_natCast]
end Go.Proofs.Ytdmjiaicgbcodaa
