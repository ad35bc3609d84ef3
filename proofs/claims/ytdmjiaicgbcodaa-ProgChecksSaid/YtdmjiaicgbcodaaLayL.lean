/- The smallest configuration, and what it fixes. -/
import Derived.Test.YtdmjiaicgbcodaaLayJ
import Derived.Test.YtdmjiaicgbcodaaLayK
import Derived.Test.YtdmjiaicgbcodaaFreeW
namespace Go.Proofs.Ytdmjiaicgbcodaa
open Go.ChangeShapes Go.WideShapes Go.ChangeAt Go.RowKit
open Go.ChangeMaps (open_string shut_string)
set_option linter.unusedVariables false
set_option linter.unusedSimpArgs false

def smallC : Cfg := ⟨0, 1, 1, 1, 1, 1, 0, 1, 1, 1⟩
theorem RG.one {W : World} {g1 g2 t1 t2 : Nat} (h1 : Blk W g1 #[.int .i64 1] t1) (h2 : Blk W g2 #[.slice (some ⟨g1, 0, none⟩) 1 1] t2) : RG W (some ⟨g2, 0, none⟩) 1 1 [[1]] := by
  refine ⟨rfl, Nat.le_refl _, (by unfold maxLen; omega), (fun h => by cases h), fun _ => ⟨g2, 0, rfl, fun i z hz => ?_⟩⟩
  have hi : i = 0 := by have := (List.getElem?_eq_some_iff.1 hz).1; simp at this; exact this
  subst hi
  simp at hz
  subst hz
  exact ⟨some ⟨g1, 0, none⟩, 1, h2.cell 0 rfl, RN.of_blk h1 rfl rfl (by decide)⟩
set_option maxHeartbeats 1000000 in
set_option maxRecDepth 100000 in
theorem small_any (w : World) : Calls Try.prog 60 #[] w fun e w' => ∃ A, e = .returned (.agg #[.int .i64 0, .int .i64 1, .int .i64 1, .int .i64 1, .int .i64 1, .int .i64 1, .int .i64 0, .int .i64 1, .int .i64 1, .int .i64 1, .slice A 1 1]) ∧ RG w' A 1 1 [[1]] ∧ Below w.heap.size w w' := by
  have hr := Blk.new w #[.int .i64 0, .int .i64 0, .int .i64 0, .int .i64 0, .int .i64 0, .int .i64 0, .int .i64 0, .int .i64 0, .int .i64 0, .int .i64 0, .slice none 0 0] 24
  have bF : Below w.heap.size w (((w.alloc (.cells #[.int .i64 0, .int .i64 1, .int .i64 1, .int .i64 1, .int .i64 1, .int .i64 1, .int .i64 0, .int .i64 1, .int .i64 1, .int .i64 1, .slice (some ⟨w.heap.size + 1 + 1, 0, none⟩) 1 1] 24)).alloc (.cells #[.int .i64 1] 3)).alloc (.cells #[.slice (some ⟨w.heap.size + 1, 0, none⟩) 1 1] 61)) := (by repeat (first | exact Below.refl _ _ | assumption | apply below_drewN' | apply Below.drew | refine Below.alloc ?_ (by first | omega | (simp; done) | (simp; omega)) _ | refine Below.setCell ?_ (by first | omega | (simp; done) | (simp; omega)) _))
  have h0 := ((Blk.new w #[.int .i64 0, .int .i64 1, .int .i64 1, .int .i64 1, .int .i64 1, .int .i64 1, .int .i64 0, .int .i64 1, .int .i64 1, .int .i64 1, .slice (some ⟨w.heap.size + 1 + 1, 0, none⟩) 1 1] 24).alloc (.cells #[.int .i64 1] 3)).alloc (.cells #[.slice (some ⟨w.heap.size + 1, 0, none⟩) 1 1] 61)
  have h1 := (Blk.new2 w (.cells #[.int .i64 0, .int .i64 1, .int .i64 1, .int .i64 1, .int .i64 1, .int .i64 1, .int .i64 0, .int .i64 1, .int .i64 1, .int .i64 1, .slice (some ⟨w.heap.size + 1 + 1, 0, none⟩) 1 1] 24) #[.int .i64 1] 3).alloc (.cells #[.slice (some ⟨w.heap.size + 1, 0, none⟩) 1 1] 61)
  have h2 := Blk.new2 (w.alloc (.cells #[.int .i64 0, .int .i64 1, .int .i64 1, .int .i64 1, .int .i64 1, .int .i64 1, .int .i64 0, .int .i64 1, .int .i64 1, .int .i64 1, .slice (some ⟨w.heap.size + 1 + 1, 0, none⟩) 1 1] 24)) (.cells #[.int .i64 1] 3) #[.slice (some ⟨w.heap.size + 1, 0, none⟩) 1 1] 61
  rw [World.size_alloc] at h2
  go_enter Try.func60, Try.ntmps60
  go_wp2
  generalize (((w.alloc (.cells #[.int .i64 0, .int .i64 1, .int .i64 1, .int .i64 1, .int .i64 1, .int .i64 1, .int .i64 0, .int .i64 1, .int .i64 1, .int .i64 1, .slice (some ⟨w.heap.size + 1 + 1, 0, none⟩) 1 1] 24)).alloc (.cells #[.int .i64 1] 3)).alloc (.cells #[.slice (some ⟨w.heap.size + 1, 0, none⟩) 1 1] 61)) = WF at *
  have z0 := h0.cell 0 (v := .int .i64 0) rfl
  have z1 := h0.cell 1 (v := .int .i64 1) rfl
  have z2 := h0.cell 2 (v := .int .i64 1) rfl
  have z3 := h0.cell 3 (v := .int .i64 1) rfl
  have z4 := h0.cell 4 (v := .int .i64 1) rfl
  have z5 := h0.cell 5 (v := .int .i64 1) rfl
  have z6 := h0.cell 6 (v := .int .i64 0) rfl
  have z7 := h0.cell 7 (v := .int .i64 1) rfl
  have z8 := h0.cell 8 (v := .int .i64 1) rfl
  have z9 := h0.cell 9 (v := .int .i64 1) rfl
  have z10 := h0.cell 10 (v := .slice (some ⟨w.heap.size + 1 + 1, 0, none⟩) 1 1) rfl
  refine bodyPost_ret (v := .agg #[.int .i64 0, .int .i64 1, .int .i64 1, .int .i64 1, .int .i64 1, .int .i64 1, .int .i64 0, .int .i64 1, .int .i64 1, .int .i64 1, .slice (some ⟨w.heap.size + 1 + 1, 0, none⟩) 1 1]) (by simp [results, Try.results60, go_sem, z0, z1, z2, z3, z4, z5, z6, z7, z8, z9, z10]) rfl ⟨_, rfl, RG.one h1 h2, bF⟩

theorem small_B : smallC.B := by constructor <;> decide
theorem small_may : mayC smallC [[1]] = true := by decide
theorem none_may : mayC ⟨0, 0, 0, 0, 0, 0, 0, 0, 0, 0⟩ [] = false := by decide
theorem small_payload (A : Option Addr) (n c : Nat) (w : World) : Calls Try.prog 20 #[.agg #[.int .i64 0, .int .i64 1, .int .i64 1, .int .i64 1, .int .i64 1, .int .i64 1, .int .i64 0, .int .i64 1, .int .i64 1, .int .i64 1, .slice A n c]] w fun e w' => e = .returned (.int .i64 38) ∧ Below w.heap.size w w' := by
  exact lay_payload smallC A n c w small_B
theorem small_cell (A : Option Addr) (n c : Nat) (w : World) : Calls Try.prog 19 #[.agg #[.int .i64 0, .int .i64 1, .int .i64 1, .int .i64 1, .int .i64 1, .int .i64 1, .int .i64 0, .int .i64 1, .int .i64 1, .int .i64 1, .slice A n c]] w fun e w' => e = .returned (.int .i64 50) ∧ Below w.heap.size w w' := by
  exact lay_cell smallC A n c w small_B
theorem small_slots (A : Option Addr) (n c : Nat) (w : World) : Calls Try.prog 18 #[.agg #[.int .i64 0, .int .i64 1, .int .i64 1, .int .i64 1, .int .i64 1, .int .i64 1, .int .i64 0, .int .i64 1, .int .i64 1, .int .i64 1, .slice A n c]] w fun e w' => e = .returned (.int .i64 2) ∧ Below w.heap.size w w' := by
  exact lay_slots smallC A n c w small_B
theorem small_bucket (A : Option Addr) (n c : Nat) (w : World) : Calls Try.prog 25 #[.agg #[.int .i64 0, .int .i64 1, .int .i64 1, .int .i64 1, .int .i64 1, .int .i64 1, .int .i64 0, .int .i64 1, .int .i64 1, .int .i64 1, .slice A n c], .int .i64 0, .int .i64 1] w fun e w' => e = .returned (.int .i64 11) ∧ Below w.heap.size w w' := by
  have h := lay_bucket smallC A n c 0 1 w small_B
  have e : bucketC smallC 0 1 = 11 := by decide
  rw [e] at h
  exact h
theorem small_total (A : Option Addr) (n c : Nat) (w : World) : Calls Try.prog 21 #[.agg #[.int .i64 0, .int .i64 1, .int .i64 1, .int .i64 1, .int .i64 1, .int .i64 1, .int .i64 0, .int .i64 1, .int .i64 1, .int .i64 1, .slice A n c]] w fun e w' => e = .returned (.int .i64 12) ∧ Below w.heap.size w w' := by
  have h := lay_total smallC A n c w small_B
  have e : totalC smallC = 12 := by decide
  rw [e] at h
  exact h
theorem small_makeops (A : Option Addr) (n c : Nat) (w : World) : Calls Try.prog 36 #[.agg #[.int .i64 0, .int .i64 1, .int .i64 1, .int .i64 1, .int .i64 1, .int .i64 1, .int .i64 0, .int .i64 1, .int .i64 1, .int .i64 1, .slice A n c]] w fun e w' => e = .returned (.int .i64 6) ∧ Below w.heap.size w w' := by
  have h := lay_makeops smallC A n c w small_B
  have e : makeOpsC smallC = 6 := by decide
  rw [e] at h
  exact h
theorem small_of (A : Option Addr) (w : World) (h : RG w A 1 1 [[1]]) : Calls Try.prog 13 #[.agg #[.int .i64 0, .int .i64 1, .int .i64 1, .int .i64 1, .int .i64 1, .int .i64 1, .int .i64 0, .int .i64 1, .int .i64 1, .int .i64 1, .slice A 1 1]] w fun e w' => ∃ B k, e = .returned (.tuple #[.agg #[.int .i64 0, .int .i64 1, .int .i64 1, .int .i64 1, .int .i64 1, .int .i64 1, .int .i64 0, .int .i64 1, .int .i64 1, .int .i64 1, .slice (some B) 1 k], .int .i64 0]) ∧ Below w.heap.size w w' := lay_of smallC A 1 1 [[1]] w h small_may
theorem none_no (w : World) : Calls Try.prog 12 #[.agg #[.int .i64 0, .int .i64 0, .int .i64 0, .int .i64 0, .int .i64 0, .int .i64 0, .int .i64 0, .int .i64 0, .int .i64 0, .int .i64 0, .slice none 0 0]] w fun e w' => e = .returned (.bool false) ∧ Below w.heap.size w w' := lay_may ⟨0, 0, 0, 0, 0, 0, 0, 0, 0, 0⟩ none 0 0 [] w (RG.none_ w)
end Go.Proofs.Ytdmjiaicgbcodaa
