/- Contracts of package lay: the lengths. -/
import Derived.Test.YtdmjiaicgbcodaaLayB
namespace Go.Proofs.Ytdmjiaicgbcodaa
open Go.ChangeShapes Go.WideShapes Go.ChangeAt Go.RowKit
open Go.ChangeMaps (open_string shut_string)
set_option linter.unusedVariables false
set_option linter.unusedSimpArgs false

theorem slab_cells (l s : Int) (w : World) (hl : 1 ≤ l) (hs : 1 ≤ s) (h2 : l ≤ 1099511627776) (h3 : s ≤ 1099511627776) : Calls Try.prog 84 #[.int .i64 l, .int .i64 s] w fun e w' => e = .returned (.int .i64 ((l - 1) / s + 1)) ∧ Below w.heap.size w w' := by
  have e : (l - 1).tdiv s = (l - 1) / s := Int.tdiv_eq_ediv_of_nonneg (by omega)
  have d0 : 0 ≤ (l - 1) / s := Int.ediv_nonneg (by omega) (by omega)
  have d1 : (l - 1) / s ≤ l - 1 := Int.ediv_le_self _ (by omega)
  have s0 : (s == 0) = false := by rw [beq_eq_false_iff_ne]; omega
  generalize (l - 1) / s = q at *
  go_enter Try.func84, Try.ntmps84
  go_wp2
  go_ret
  exact ⟨rfl, (by repeat (first | exact Below.refl _ _ | assumption | apply below_drewN' | apply Below.drew | refine Below.alloc ?_ (by first | omega | (simp; done) | (simp; omega)) _ | refine Below.setCell ?_ (by first | omega | (simp; done) | (simp; omega)) _))⟩

/-- 2^h. -/
def leavesC (h : Int) : Int := 2 ^ h.toNat
theorem tree_leaves (n : Nat) (w : World) (hn : n ≤ 6) : Calls Try.prog 90 #[.int .i64 (n : Int)] w fun e w' => e = .returned (.int .i64 (leavesC n)) ∧ Below w.heap.size w w' := by
  have hi : inR (n : Int) 0 6 = true := by simp [inR]; omega
  have hh : n = 0 ∨ n = 1 ∨ n = 2 ∨ n = 3 ∨ n = 4 ∨ n = 5 ∨ n = 6 := by omega
  go_enter Try.func90, Try.ntmps90
  go_wp2_with fail
  refine (tree_may _ _ _ hi).mono ?_
  rintro e w2 ⟨rfl, hb⟩
  rcases hh with rfl | rfl | rfl | rfl | rfl | rfl | rfl
  all_goals (go_wp2; go_ret; exact ⟨rfl, hb⟩)
theorem leavesC_range (n : Nat) (hn : n ≤ 6) : 1 ≤ leavesC n ∧ leavesC n ≤ 64 := by
  have hh : n = 0 ∨ n = 1 ∨ n = 2 ∨ n = 3 ∨ n = 4 ∨ n = 5 ∨ n = 6 := by omega
  rcases hh with rfl | rfl | rfl | rfl | rfl | rfl | rfl <;> decide
theorem tree_buckets (n : Nat) (w : World) (hn : n ≤ 6) : Calls Try.prog 69 #[.int .i64 (n : Int)] w fun e w' => e = .returned (.int .i64 (2 * leavesC n - 1)) ∧ Below w.heap.size w w' := by
  obtain ⟨l0, l1⟩ := leavesC_range n hn
  have HL := Lib.hid (fun w => tree_leaves n w hn)
  generalize leavesC n = L at *
  go_enter Try.func69, Try.ntmps69
  go_wp2_with fail
  refine (HL.out _).mono ?_
  rintro e w2 ⟨rfl, hb⟩
  go_wp2
  go_ret
  exact ⟨rfl, hb⟩
theorem bucket_may (z : Int) (w : World) (h0 : 1 ≤ z) (h1 : z ≤ 4) : Calls Try.prog 89 #[.int .i64 z] w fun e w' => e = .returned (.bool true) ∧ Below w.heap.size w w' := by
  go_enter Try.func89, Try.ntmps89
  go_wp2
  go_ret
  exact ⟨rfl, (by repeat (first | exact Below.refl _ _ | assumption | apply below_drewN' | apply Below.drew | refine Below.alloc ?_ (by first | omega | (simp; done) | (simp; omega)) _ | refine Below.setCell ?_ (by first | omega | (simp; done) | (simp; omega)) _))⟩
theorem bucket_length (z : Int) (w : World) (h0 : 1 ≤ z) (h1 : z ≤ 4) : Calls Try.prog 67 #[.int .i64 z] w fun e w' => e = .returned (.int .i64 (z * 38)) ∧ Below w.heap.size w w' := by
  go_enter Try.func67, Try.ntmps67
  go_wp2_with fail
  refine (bucket_may _ _ h0 h1).mono ?_
  rintro e w2 ⟨rfl, hb⟩
  go_wp2
  go_ret
  exact ⟨rfl, hb⟩

/-- The bounds of what may be. -/
structure Cfg.B (x : Cfg) : Prop where
  h : 0 ≤ x.h ∧ x.h ≤ 6
  z : 1 ≤ x.z ∧ x.z ≤ 4
  b : 1 ≤ x.b ∧ x.b ≤ 64
  r : 1 ≤ x.r ∧ x.r ≤ 4
  d : 1 ≤ x.d ∧ x.d ≤ 8
  e : 1 ≤ x.e ∧ x.e ≤ 8
  s : 0 ≤ x.s ∧ x.s ≤ 64
  p : 1 ≤ x.p ∧ x.p ≤ 8
  q : 1 ≤ x.q ∧ x.q ≤ 16
  t : 1 ≤ x.t ∧ x.t ≤ 8
theorem mayC_B {x : Cfg} {Z : List (List Int)} (h : mayC x Z = true) : x.B := by
  simp only [mayC, Bool.and_eq_true] at h
  obtain ⟨h0, h1, h2, h3, h4, h5, h6, h7, h8, h9, _⟩ := h
  exact ⟨inR_true h0, inR_true h1, inR_true h2, inR_true h3, inR_true h4, inR_true h5, inR_true h6, inR_true h7, inR_true h8, inR_true h9⟩
def slotsC (x : Cfg) : Int := x.r * x.d + x.e
theorem slotsC_range {x : Cfg} (h : x.B) : 0 ≤ x.r * x.d ∧ x.r * x.d ≤ 32 ∧ 1 ≤ slotsC x ∧ slotsC x ≤ 40 := by
  have a : 0 ≤ x.r * x.d := Int.mul_nonneg (by have := h.r; omega) (by have := h.d; omega)
  have b : x.r * x.d ≤ 4 * 8 := Int.mul_le_mul h.r.2 h.d.2 (by have := h.d; omega) (by omega)
  have := h.e
  unfold slotsC
  omega
theorem lay_slots (x : Cfg) (A : Option Addr) (n c : Nat) (w : World) (h : x.B) : Calls Try.prog 18 #[.agg #[.int .i64 x.h, .int .i64 x.z, .int .i64 x.b, .int .i64 x.r, .int .i64 x.d, .int .i64 x.e, .int .i64 x.s, .int .i64 x.p, .int .i64 x.q, .int .i64 x.t, .slice A n c]] w fun e w' => e = .returned (.int .i64 (slotsC x)) ∧ Below w.heap.size w w' := by
  have r := slotsC_range h
  have he := h.e
  clear h
  unfold slotsC at *
  obtain ⟨xh, xz, xb, xr, xd, xe, xs, xp, xq, xt⟩ := x
  simp only at r he
  go_enter Try.func18, Try.ntmps18
  go_wp2
  go_ret
  exact ⟨rfl, (by repeat (first | exact Below.refl _ _ | assumption | apply below_drewN' | apply Below.drew | refine Below.alloc ?_ (by first | omega | (simp; done) | (simp; omega)) _ | refine Below.setCell ?_ (by first | omega | (simp; done) | (simp; omega)) _))⟩
theorem lay_payload (x : Cfg) (A : Option Addr) (n c : Nat) (w : World) (h : x.B) : Calls Try.prog 20 #[.agg #[.int .i64 x.h, .int .i64 x.z, .int .i64 x.b, .int .i64 x.r, .int .i64 x.d, .int .i64 x.e, .int .i64 x.s, .int .i64 x.p, .int .i64 x.q, .int .i64 x.t, .slice A n c]] w fun e w' => e = .returned (.int .i64 (x.z * 38)) ∧ Below w.heap.size w w' := by
  have hz := h.z
  clear h
  obtain ⟨xh, xz, xb, xr, xd, xe, xs, xp, xq, xt⟩ := x
  simp only at hz
  have bb : Below w.heap.size w (w.alloc (.cells #[.int .i64 xh, .int .i64 xz, .int .i64 xb, .int .i64 xr, .int .i64 xd, .int .i64 xe, .int .i64 xs, .int .i64 xp, .int .i64 xq, .int .i64 xt, .slice A n c] 28)) := (by repeat (first | exact Below.refl _ _ | assumption | apply below_drewN' | apply Below.drew | refine Below.alloc ?_ (by first | omega | (simp; done) | (simp; omega)) _ | refine Below.setCell ?_ (by first | omega | (simp; done) | (simp; omega)) _))
  go_enter Try.func20, Try.ntmps20
  go_wp2_with fail
  refine (bucket_length _ _ hz.1 hz.2).mono ?_
  rintro e w2 ⟨rfl, hb⟩
  go_wp2
  go_ret
  exact ⟨rfl, bnext bb hb⟩
/-- How many cells so many bytes have. -/
def cellsC (x : Cfg) (l : Int) : Int := (l - 1) / (x.z * 38) + 1
theorem lay_cells (x : Cfg) (A : Option Addr) (n c : Nat) (l : Int) (w : World) (h : x.B) (h0 : 1 ≤ l) (h1 : l ≤ 1099511627776) : Calls Try.prog 79 #[.agg #[.int .i64 x.h, .int .i64 x.z, .int .i64 x.b, .int .i64 x.r, .int .i64 x.d, .int .i64 x.e, .int .i64 x.s, .int .i64 x.p, .int .i64 x.q, .int .i64 x.t, .slice A n c], .int .i64 l] w fun e w' => e = .returned (.int .i64 (cellsC x l)) ∧ Below w.heap.size w w' := by
  have HP := Lib.hid (fun w => lay_payload x A n c w h)
  have hz := h.z
  clear h
  have HC := Lib.hid (fun w => slab_cells l (x.z * 38) w h0 (by omega) h1 (by omega))
  have bb : Below w.heap.size w (w.alloc (.cells #[.int .i64 x.h, .int .i64 x.z, .int .i64 x.b, .int .i64 x.r, .int .i64 x.d, .int .i64 x.e, .int .i64 x.s, .int .i64 x.p, .int .i64 x.q, .int .i64 x.t, .slice A n c] 28)) := (by repeat (first | exact Below.refl _ _ | assumption | apply below_drewN' | apply Below.drew | refine Below.alloc ?_ (by first | omega | (simp; done) | (simp; omega)) _ | refine Below.setCell ?_ (by first | omega | (simp; done) | (simp; omega)) _))
  go_enter Try.func79, Try.ntmps79
  go_wp2_with fail
  refine (HP.out _).mono ?_
  rintro e w2 ⟨rfl, hb⟩
  go_wp2_with fail
  refine (HC.out _).mono ?_
  rintro e w3 ⟨rfl, hb2⟩
  go_wp2
  go_ret
  exact ⟨rfl, bnext (bnext bb hb) hb2⟩
end Go.Proofs.Ytdmjiaicgbcodaa
