/- oublaw16.first. -/
import Derived.Test.YtfldmejjepakeaaRwI
namespace Go.Proofs.Ytfldmejjepakeaa
open Go.ChangeShapes Go.WideShapes Go.ChangeAt Go.RowKit
open Go.ChangeMaps (open_string shut_string)
set_option linter.unusedVariables false
set_option linter.unusedSimpArgs false
set_option maxRecDepth 100000
open Go.Deep

theorem r16_text : ∃ T, rowT r16 = T ∧ T.length = 37 ∧ T[0]? = some 1 ∧ T[1]? = some 1 ∧ T[9]? = some 5 ∧ T[10]? = some 0 :=
  ⟨_, rfl, rowT_len r16_ok, by decide, by decide, by decide, by decide⟩
theorem run_mk37 (w : World) : (Instr.makeSlice 22 (.int .i64 37) (.int .i64 37)).run Try.prog w = .ok (.slice (some ⟨w.heap.size, 0, none⟩) 37 37) (w.alloc (.cells (bcells (zr 37)) 5)) := run_mk w 37 (by omega)
set_option maxHeartbeats 4000000 in
theorem first16_any (w : World) : Calls Try.prog 13 #[] w fun e w' => e = .returned (.bool true) ∧ Below w.heap.size w w' := by
  obtain ⟨T, hT, hl, t0, t1, t9, t10⟩ := r16_text
  have HE : Hid (∀ (g : Nat) w, RV w (some ⟨g, 0, none⟩) 1 1 r16.V → Calls Try.prog 18 #[.agg #[.int .i64 0, .slice (some ⟨g, 0, none⟩) 1 1]] w fun e w' => ∃ v, e = .returned (.tuple #[v, .int .i64 0]) ∧ RBv w' v T ∧ Below w.heap.size w w') :=
    Lib.hid (fun g w h => by have := row_encode 0 (some ⟨g, 0, none⟩) 1 1 r16.V w h; rw [show rowE ⟨0, r16.V⟩ = 0 from r16_ok, show rowT ⟨0, r16.V⟩ = T from hT] at this; exact this)
  have HD : Hid (∀ A c w, RB w A 37 c T → Calls Try.prog 14 #[.slice A 37 c] w fun e w' => ∃ A' n' c', e = .returned (.tuple #[.agg #[.int .i64 0, .slice A' n' c'], .int .i64 0]) ∧ RV w' A' n' c' r16.V ∧ Below w.heap.size w w') :=
    Lib.hid (fun A c w h => by have := row_decode A 37 c T w h (by omega); rw [← hT, r16_back] at this; exact this)
  have HZ : Hid (∀ A w, RB w A 37 37 (zr 37) → Calls Try.prog 14 #[.slice A 37 37] w fun e w' => ∃ A' n' c', e = .returned (.tuple #[.agg #[.int .i64 0, .slice A' n' c'], .int .i64 2]) ∧ RV w' A' n' c' [] ∧ Below w.heap.size w w') :=
    Lib.hid (fun A w h => by have := row_decode A 37 37 (zr 37) w h (by omega); rw [zr37] at this; exact this)
  have HS : Hid (∀ A n c A2 n2 c2 w, RV w A n c r16.V → RV w A2 n2 c2 r16.V → Calls Try.prog 19 #[.agg #[.int .i64 0, .slice A n c], .agg #[.int .i64 0, .slice A2 n2 c2]] w fun e w' => e = .returned (.bool true) ∧ Below w.heap.size w w') :=
    Lib.hid (fun A n c A2 n2 c2 w h h2 => row_same 0 A n c r16.V 0 A2 n2 c2 r16.V true w h h2 r16_same)
  have hB1 := Blk.new w #[.int .i64 1, .int .i64 5, .string (str [])] 51
  have hB2 := Blk.new2 w (.cells #[.int .i64 1, .int .i64 5, .string (str [])] 51) #[.int .i64 0, .slice (some ⟨w.heap.size, 0, none⟩) 1 1] 26
  have bl : Below w.heap.size w ((w.alloc (.cells #[.int .i64 1, .int .i64 5, .string (str [])] 51)).alloc (.cells #[.int .i64 0, .slice (some ⟨w.heap.size, 0, none⟩) 1 1] 26)) := (by repeat (first | exact Below.refl _ _ | assumption | apply below_drewN' | apply Below.drew | refine Below.alloc ?_ (by first | omega | (simp; done) | (simp; omega)) _ | refine Below.setCell ?_ (by first | omega | (simp; done) | (simp; omega)) _))
  have hV := Lib.hid (RV.one (v := ⟨1, 5, []⟩) (hB1.alloc (.cells #[.int .i64 0, .slice (some ⟨w.heap.size, 0, none⟩) 1 1] 26)))
  have hmk := run_mk37
  replace hl := Lib.hid hl
  clear hT hB1
  go_enter Try.func13, Try.ntmps13
  go_wp2_with fail
  refine (HE.out _ _ hV.out).mono ?_
  rintro e w2 ⟨v2, rfl, hv2, e2⟩
  obtain ⟨A2, c2, rfl, hR2⟩ := hv2.sl 37 hl.out
  have hV2 := Lib.hid (hV.out.below e2)
  replace bl := Below.next bl e2 (Nat.le_refl _)
  replace hB2 := hB2.below e2 (by simp)
  clear e2
  go_wp2_with fail
  refine (HD.out _ _ _ hR2).mono ?_
  rintro e w3 ⟨A3, n3, c3, rfl, hR3, e3⟩
  have hV3 := Lib.hid (hV2.out.below e3)
  replace bl := Below.next bl e3 (Nat.le_refl _)
  replace hB2 := hB2.below e3 hB2.lt
  have hR2b := hR2.below e3
  clear hR2 e3
  have hM := Blk.new2 w3 (.cells #[.int .i64 0, .slice A3 n3 c3] 26) (bcells (zr 37)) 5
  have hX3 := (Blk.new w3 #[.int .i64 0, .slice A3 n3 c3] 26).alloc (.cells (bcells (zr 37)) 5)
  have hMR := Lib.hid (show RB ((w3.alloc (.cells #[.int .i64 0, .slice A3 n3 c3] 26)).alloc (.cells (bcells (zr 37)) 5)) (some ⟨w3.heap.size + 1, 0, none⟩) 37 37 (zr 37) from by have := RB.of_row hM (by decide); exact this)
  go_wp2_with fail
  refine (HZ.out _ _ hMR.out).mono ?_
  rintro e w4 ⟨A4, n4, c4, rfl, _, e4⟩
  have bm : Below w3.heap.size w3 ((w3.alloc (.cells #[.int .i64 0, .slice A3 n3 c3] 26)).alloc (.cells (bcells (zr 37)) 5)) := (by repeat (first | exact Below.refl _ _ | assumption | apply below_drewN' | apply Below.drew | refine Below.alloc ?_ (by first | omega | (simp; done) | (simp; omega)) _ | refine Below.setCell ?_ (by first | omega | (simp; done) | (simp; omega)) _))
  have b4 := Below.next bm e4 (Nat.le_refl _)
  have hX4 := hX3.below e4 hX3.lt
  replace hB2 := hB2.below b4 hB2.lt
  have b5 := b4.alloc b4.size (.cells #[.int .i64 0, .slice A4 n4 c4] 26)
  have hR2c := hR2b.below b5
  have hV5 := Lib.hid (hV3.out.below b5)
  have hR5 := Lib.hid (hR3.below b5)
  replace bl := Below.next bl b5 (Nat.le_refl _)
  obtain ⟨g2, o2, rfl, hc⟩ := hR2c.at_ (by omega)
  have d0 : (w4.alloc (.cells #[.int .i64 0, .slice A4 n4 c4] 26)).cell? ⟨g2, o2, none⟩ = some (.int .u8 1) := hc 0 1 t0
  have d1 : (w4.alloc (.cells #[.int .i64 0, .slice A4 n4 c4] 26)).cell? ⟨g2, o2 + 1, none⟩ = some (.int .u8 1) := hc 1 1 t1
  have d9 : (w4.alloc (.cells #[.int .i64 0, .slice A4 n4 c4] 26)).cell? ⟨g2, o2 + 9, none⟩ = some (.int .u8 5) := hc 9 5 t9
  have d10 : (w4.alloc (.cells #[.int .i64 0, .slice A4 n4 c4] 26)).cell? ⟨g2, o2 + 10, none⟩ = some (.int .u8 0) := hc 10 0 t10
  have hB5 := hB2.alloc (.cells #[.int .i64 0, .slice A4 n4 c4] 26)
  have hX5 := hX4.alloc (.cells #[.int .i64 0, .slice A4 n4 c4] 26)
  have p0 := hB5.cell 0 (v := .int .i64 0) rfl
  have p1 := hB5.cell 1 (v := .slice (some ⟨w.heap.size, 0, none⟩) 1 1) rfl
  have q0 := hX5.cell 0 (v := .int .i64 0) rfl
  have q1 := hX5.cell 1 (v := .slice A3 n3 c3) rfl
  clear hc hR2c hR2b hX3 hX4 hB2 hM bm b4 b5 e4 hB5 hX5 t0 t1 t9 t10
  go_wp2_with fail
  refine (HS.out _ _ _ _ _ _ _ hR5.out hV5.out).mono ?_
  rintro e w6 ⟨rfl, e6⟩
  replace bl := Below.next bl e6 (Nat.le_refl _)
  go_wp2
  go_ret
  exact ⟨rfl, bl⟩
end Go.Proofs.Ytfldmejjepakeaa
