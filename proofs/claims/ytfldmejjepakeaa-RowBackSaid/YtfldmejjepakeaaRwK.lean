/- RowReads: the walk. -/
import Derived.Test.YtfldmejjepakeaaRwJ
namespace Go.Proofs.Ytfldmejjepakeaa
open Go.ChangeShapes Go.WideShapes Go.ChangeAt Go.RowKit
open Go.ChangeMaps (open_string shut_string)
set_option linter.unusedVariables false
set_option linter.unusedSimpArgs false
set_option maxRecDepth 100000
open Go.Deep

set_option maxHeartbeats 4000000 in
theorem reads16 (A : Option Addr) (n c : Nat) (b : List UInt8) (w : World) (h : RB w A n c b) :
    Calls Try.prog 3 #[.slice A n c] w fun e w' => e = .returned (.bool true) ∧ Below w.heap.size w w' := by
  have hnm : n ≤ maxLen := Nat.le_trans h.cap h.max
  unfold maxLen at hnm
  go_enter Try.func3, Try.ntmps3
  go_wp2_with fail
  refine (first16_any _).mono ?_
  rintro e w2 ⟨rfl, bl⟩
  by_cases hn : 1000 < n
  · have hn2 : (1000 : Int) < (n : Int) := by omega
    (go_wp2_with fail; refine (first16_any _).mono ?_; rintro e w9 ⟨rfl, b9⟩; go_wp2; go_ret; exact ⟨rfl, Below.next bl b9 (Nat.le_refl _)⟩)
  have hn2 : ¬ (1000 : Int) < (n : Int) := by omega
  have H1 := Lib.hid (fun w h => row_decode A n c b w h (by omega))
  have H2 := Lib.hid (fun w h => ref_decR A n c b w h (by omega))
  generalize (decR b).2 = E at *
  obtain ⟨t, V, htv⟩ : ∃ t V, (decR b).1 = ⟨t, V⟩ := ⟨_, _, rfl⟩
  rw [htv] at H1 H2
  clear htv
  go_wp2_with fail
  refine (H1.out _ (h.below bl)).mono ?_
  rintro e w5 ⟨A1, m1, c1, rfl, hR1, e3⟩
  replace bl := Below.next bl e3 (Nat.le_refl _)
  have hX := Blk.new w5 #[.int .i64 t, .slice A1 m1 c1] 26
  have ba : Below w5.heap.size w5 (w5.alloc (.cells #[.int .i64 t, .slice A1 m1 c1] 26)) := (by repeat (first | exact Below.refl _ _ | assumption | apply below_drewN' | apply Below.drew | refine Below.alloc ?_ (by first | omega | (simp; done) | (simp; omega)) _ | refine Below.setCell ?_ (by first | omega | (simp; done) | (simp; omega)) _))
  have hR1a := hR1.below ba
  have bla := Below.next bl ba (Nat.le_refl _)
  clear e3 ba hR1
  go_wp2_with fail
  refine (H2.out _ (h.below bla)).mono ?_
  rintro e w6 ⟨A2, m2, c2, rfl, hR2, e3⟩
  replace bla := Below.next bla e3 (Nat.le_refl _)
  replace hR1a := hR1a.below e3
  replace hX := hX.below e3 hX.lt
  have hY := Blk.new w6 #[.int .i64 t, .slice A2 m2 c2] 26
  have ba : Below w6.heap.size w6 (w6.alloc (.cells #[.int .i64 t, .slice A2 m2 c2] 26)) := (by repeat (first | exact Below.refl _ _ | assumption | apply below_drewN' | apply Below.drew | refine Below.alloc ?_ (by first | omega | (simp; done) | (simp; omega)) _ | refine Below.setCell ?_ (by first | omega | (simp; done) | (simp; omega)) _))
  replace hR1a := hR1a.below ba
  replace hR2 := hR2.below ba
  replace hX := hX.below ba hX.lt
  replace bla := Below.next bla ba (Nat.le_refl _)
  have H4 := Lib.hid (fun w (h : RV w A1 m1 c1 V) (h2 : RV w A2 m2 c2 V) => ref_row t A1 m1 c1 V t A2 m2 c2 V true w h h2 (sameR_self _))
  go_wp2_with fail
  refine (first16_any _).mono ?_
  rintro e w7 ⟨rfl, e7⟩
  replace hR1a := hR1a.below e7
  replace hR2 := hR2.below e7
  replace hX := hX.below e7 hX.lt
  replace hY := hY.below e7 hY.lt
  replace bla := Below.next bla e7 (Nat.le_refl _)
  have x0 := hX.cell 0 (v := .int .i64 t) rfl
  have x1 := hX.cell 1 (v := .slice A1 m1 c1) rfl
  have y0 := hY.cell 0 (v := .int .i64 t) rfl
  have y1 := hY.cell 1 (v := .slice A2 m2 c2) rfl
  go_wp2_with fail
  refine (H4.out _ hR1a hR2).mono ?_
  rintro e w8 ⟨rfl, e8⟩
  replace bla := Below.next bla e8 (Nat.le_refl _)
  go_wp2
  go_ret
  exact ⟨rfl, bla⟩
end Go.Proofs.Ytfldmejjepakeaa
