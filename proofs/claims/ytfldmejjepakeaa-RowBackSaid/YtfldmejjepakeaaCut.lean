/- Parts of a slice of bytes; the document's CopyBytes. -/
import Derived.Test.YtfldmejjepakeaaFacts
namespace Go.Proofs.Ytfldmejjepakeaa
open Go.ChangeShapes Go.WideShapes Go.ChangeAt Go.RowKit
open Go.ChangeMaps (open_string shut_string)
set_option linter.unusedVariables false
set_option linter.unusedSimpArgs false
set_option maxRecDepth 100000

theorem under_bytes : Try.prog.underlying 22 = some (.slice (Try.prog.elem 22)) := by rw [show Try.prog.elem 22 = 5 from by kernel_rfl]; exact Try.underlying22
theorem run_sizeU8 (w : World) : (sizeOf (Try.prog.elem 22)).run Try.prog w = .ok 1 w := by rw [show Try.prog.elem 22 = 5 from by kernel_rfl]; rfl
/-- A part of a slice of bytes. -/
theorem RB.cut {w : World} {A : Option Addr} {n c : Nat} {l : List UInt8} (h : RB w A n c l) (lo hi : Nat) (h1 : lo ≤ hi) (h2 : hi ≤ n) : RB w (if c = lo then A else A.map (·.add lo)) (hi - lo) (c - lo) ((l.take hi).drop lo) := by
  have hl := h.len
  have hc := h.cap
  have hm := h.max
  refine ⟨by simp; omega, by omega, by omega, ?_, fun hn => ?_⟩
  · intro hA
    by_cases e : c = lo
    · omega
    · rw [if_neg e] at hA
      cases A with
      | none => have := h.nil rfl; omega
      | some a => cases hA
  · obtain ⟨g, o, e, hx⟩ := h.at_ (by omega)
    subst e
    rw [if_neg (by omega)]
    refine ⟨g, o + lo, by rw [Option.map_some, Addr.add_lit], fun i p hp => ?_⟩
    rw [List.getElem?_drop, List.getElem?_take] at hp
    have hlt : lo + i < hi := by
      by_cases hh : lo + i < hi
      · exact hh
      · rw [if_neg hh] at hp; cases hp
    rw [if_pos hlt] at hp
    rw [Nat.add_assoc]
    exact hx (lo + i) p hp
theorem run_cut (A : Option Addr) (n c lo hi : Nat) (x y : Int) (hx : x = lo) (hy : y = hi) (w : World) (h1 : lo ≤ hi) (h2 : hi ≤ c) : (Instr.slice 22 (.slice A n c) (some (.int .i64 x)) (some (.int .i64 y)) none).run Try.prog w = .ok (.slice (if c = lo then A else A.map (·.add lo)) (hi - lo) (c - lo)) w := by
  subst hx hy
  have := run_slice_lh (P := Try.prog) w 22 A n c under_bytes .i64 .i64 lo hi (by omega) (by omega) (by omega)
  rw [this, run_sizeU8]
  simp only [Result.andThen_ok, sliced, Int.toNat_natCast, Nat.mul_one]
theorem OB.empty (w : World) {B : Nat} (hB : B ≤ w.heap.size) : OB (w.alloc (.cells #[] 5)) B (.slice (some ⟨w.heap.size, 0, none⟩) 0 0) [] :=
  ⟨rfl, .inr ⟨w.heap.size, 0, #[], rfl, hB, Blk.new w #[] 5, Nat.le_refl _, by decide, rfl, rfl⟩⟩
theorem ref_copy (A : Option Addr) (m c : Nat) (l : List UInt8) (w : World) (h : RB w A m c l) (hm : m ≤ 1000000) :
    Calls Try.prog 70 #[.slice A m c] w fun e w' => ∃ v, e = .returned v ∧ OB w' w.heap.size v l ∧ Below w.heap.size w w' := by
  have hl := h.len
  have b0 : Below w.heap.size w (w.alloc (.cells #[] 5)) := (by repeat (first | exact Below.refl _ _ | assumption | apply below_drewN' | apply Below.drew | refine Below.alloc ?_ (by first | omega | (simp; done) | (simp; omega)) _ | refine Below.setCell ?_ (by first | omega | (simp; done) | (simp; omega)) _))
  go_enter Try.func70, Try.ntmps70
  go_wp2_with (refine wpList_app rfl (.tmp 3) (.tmp 4) rfl w.heap.size (.slice (some ⟨w.heap.size, 0, none⟩) 0 0) [] l A m c rfl rfl (OB.empty w (Nat.le_refl _)) (h.alloc _) (by simp; omega) (by simp) ?_; intro v2 w2 ha; obtain ⟨A2, c2, rfl, _⟩ := OB.sl ha.own m (by simp [hl]))
  go_ret
  exact ⟨_, rfl, ha.own, b0.keeps ha.keeps (fun i hi e => by simp [Value.ownBlock] at e; omega) (by simp)⟩
end Go.Proofs.Ytfldmejjepakeaa
