/- oublaw13.marks: cells of an area are marked. -/
import Derived.Test.YtdmjiaicgbcodaaLayP
namespace Go.Proofs.Ytdmjiaicgbcodaa
open Go.ChangeShapes Go.WideShapes Go.ChangeAt Go.RowKit
open Go.ChangeMaps (open_string shut_string)
set_option linter.unusedVariables false
set_option linter.unusedSimpArgs false

/-- Lies a cell between two? -/
def inI (a b : Int) (j : Nat) : Bool := decide (a ≤ (j : Int)) && decide ((j : Int) < b)
theorem inI_none {a b : Int} (h : b ≤ a) (j : Nat) : inI a b j = false := by
  unfold inI
  rw [Bool.and_eq_false_iff, decide_eq_false_iff_not, decide_eq_false_iff_not]
  omega
theorem inI_more {a b c : Int} (h1 : a ≤ b) (h2 : b ≤ c) (j : Nat) : (inI a b j || inI b c j) = inI a c j := by
  unfold inI
  rw [Bool.eq_iff_iff]
  simp only [Bool.or_eq_true, Bool.and_eq_true, decide_eq_true_eq]
  omega
theorem inI_yes {a b : Int} {j : Nat} (h1 : a ≤ j) (h2 : (j : Int) < b) : inI a b j = true := by simp [inI, h1, h2]
theorem inI_no {a b : Int} {j : Nat} (h : (j : Int) < a ∨ b ≤ j) : inI a b j = false := by
  unfold inI
  rw [Bool.and_eq_false_iff, decide_eq_false_iff_not, decide_eq_false_iff_not]
  omega

/-- Which cells are marked. -/
def MB (w : World) (M T : Nat) (P : Nat → Bool) : Prop := ∃ cs, Blk w M cs 4 ∧ cs.size = T ∧ ∀ j, j < T → cs[j]? = some (.bool (P j))
namespace MB
variable {w w' : World} {M T : Nat} {P Q : Nat → Bool}
theorem lt (h : MB w M T P) : M < w.heap.size := let ⟨_, h, _⟩ := h; h.lt
theorem congr (h : MB w M T P) (e : ∀ j, j < T → P j = Q j) : MB w M T Q := let ⟨cs, a, b, c⟩ := h; ⟨cs, a, b, fun j hj => by rw [← e j hj]; exact c j hj⟩
theorem below {B : Nat} (h : MB w M T P) (k : Below B w w') (hn : M < B) : MB w' M T P := let ⟨cs, a, b, c⟩ := h; ⟨cs, a.below k hn, b, c⟩
theorem alloc (h : MB w M T P) (o : Obj) : MB (w.alloc o) M T P := let ⟨cs, a, b, c⟩ := h; ⟨cs, a.alloc o, b, c⟩
theorem cell (h : MB w M T P) {j : Nat} (hj : j < T) : w.cell? ⟨M, j, none⟩ = some (.bool (P j)) := let ⟨_, a, _, c⟩ := h; a.cell j (c j hj)
theorem fz (h : MB w M T P) (j : Nat) : w.frozen? ⟨M, j, none⟩ = false := let ⟨_, a, _, _⟩ := h; a.fz j
theorem set (h : MB w M T P) {i : Nat} (hi : i < T) : MB (w.setCell ⟨M, i, none⟩ (.bool true)) M T (fun j => P j || inI i (i + 1) j) := by
  obtain ⟨cs, a, b, c⟩ := h
  refine ⟨_, a.set i (.bool true), by rw [Array.size_setIfInBounds]; exact b, fun j hj => ?_⟩
  by_cases e : i = j
  · subst e
    rw [Array.getElem?_setIfInBounds_self_of_lt (by omega)]
    show some (Value.bool true) = some (Value.bool (P i || inI i (i + 1) i))
    rw [inI_yes (by omega) (by omega), Bool.or_true]
  · rw [Array.getElem?_setIfInBounds_ne e, c j hj]
    show some (Value.bool (P j)) = some (Value.bool (P j || inI i (i + 1) j))
    rw [inI_no (by omega), Bool.or_false]
theorem new (w : World) (T : Nat) : MB (w.alloc (.cells (madeCells #[.bool false] T) 4)) w.heap.size T (fun _ => false) := by
  refine ⟨_, Blk.new w _ _, size_madeCells _ _, fun j hj => ?_⟩
  rw [← Array.getElem?_toList, toList_madeCells_one, List.getElem?_replicate, if_pos hj]
end MB

set_option maxHeartbeats 1000000 in
set_option maxRecDepth 100000 in
theorem marks_ok (M T : Nat) (f c : Int) (P : Nat → Bool) (w : World) (h : MB w M T P) (c1 : 1 ≤ c) (f2 : 2 ≤ f) (fc : f + c ≤ T) (hT : T ≤ 65536) (hn : ∀ j : Nat, f ≤ j → (j : Int) < f + c → P j = false) :
    Calls Try.prog 22 #[.slice (some ⟨M, 0, none⟩) T T, .agg #[.int .i64 f, .int .i64 c]] w fun e w' => e = .returned (.bool true) ∧ MB w' M T (fun j => P j || inI f (f + c) j) ∧ Keeps (fun g => g = M) w w' := by
  obtain ⟨f, rfl⟩ := Int.eq_ofNat_of_zero_le (show 0 ≤ f by omega)
  obtain ⟨c, rfl⟩ := Int.eq_ofNat_of_zero_le (show 0 ≤ c by omega)
  have w1 : IntKind.i64.wrap ((T : Int) - c) = (T : Int) - c := IntWalk.i64_in _ (by omega)
  have hA0 := Blk.new w #[.int .i64 (f : Int), .int .i64 (c : Int)] 34
  have hM0 := h.alloc (.cells #[.int .i64 (f : Int), .int .i64 (c : Int)] 34)
  have k0 : Keeps (fun g => g = M) w (w.alloc (.cells #[.int .i64 (f : Int), .int .i64 (c : Int)] 34)) := (Keeps.refl _ _).alloc _
  have hMA := h.lt
  have hn := Lib.hid hn
  clear h
  have g1 : ((c : Int) < 1) = False := by rw [eq_iff_iff]; exact ⟨fun _ => by omega, False.elim⟩
  have g2 : ((f : Int) < 2) = False := by rw [eq_iff_iff]; exact ⟨fun _ => by omega, False.elim⟩
  go_enter Try.func22, Try.ntmps22
  go_wp2
  generalize w.alloc (.cells #[.int .i64 (f : Int), .int .i64 (c : Int)] 34) = W1 at *
  go_loopw [5] (fun i wr => ∃ j : Nat, j ≤ c ∧ i = .int .i64 j ∧ Blk wr w.heap.size #[.int .i64 (f : Int), .int .i64 (c : Int)] 34 ∧ MB wr M T (fun x => P x || inI f (f + j) x) ∧ Keeps (fun g => g = M) w wr) (fun i _ => c + 1 - (intOf i).toNat)
  case atStart => exact ⟨0, by omega, rfl, hA0, hM0.congr (fun j _ => by rw [inI_none (by omega), Bool.or_false]), k0⟩
  case round =>
    obtain ⟨j, hj, rfl, hA, hM, kk⟩ := hrel
    clear hA0 hM0 k0
    have a0 := hA.cell 0 (v := .int .i64 (f : Int)) rfl
    have a1 := hA.cell 1 (v := .int .i64 (c : Int)) rfl
    have hAlt := hA.lt
    have hMlt := hM.lt
    by_cases h1 : j < c
    · have w2 : IntKind.i64.wrap ((f : Int) + j) = (f : Int) + j := IntWalk.i64_in _ (by omega)
      have hc := hM.cell (j := f + j) (by omega)
      simp only [hn.out (f + j) (by omega) (by omega), Bool.false_or] at hc
      rw [inI_no (by omega)] at hc
      have hz := hM.fz (f + j)
      have hMs := Lib.hid (hM.set (i := f + j) (by omega))
      have hM := Lib.hid hM
      go_wp2
      go_roundw
      case rel =>
        refine ⟨j + 1, by omega, by go_num, hA.other (by simp; omega) _, hMs.out.congr (fun x _ => ?_), kk.setCell (.inl rfl) _⟩
        show ((P x || inI f (f + j) x) || inI ((f + j : Nat) : Int) (((f + j : Nat) : Int) + 1) x) = (P x || inI f (f + ((j + 1 : Nat) : Int)) x)
        rw [Bool.or_assoc, Int.natCast_add, Int.natCast_add, inI_more (by omega) (by omega), ← Int.add_assoc]
        rfl
      case measure => simp [intOf]; omega
    · have hj : j = c := by omega
      subst hj
      have hM := Lib.hid hM
      go_wp2
      go_ret
      exact ⟨rfl, hM.out, kk⟩
end Go.Proofs.Ytdmjiaicgbcodaa
