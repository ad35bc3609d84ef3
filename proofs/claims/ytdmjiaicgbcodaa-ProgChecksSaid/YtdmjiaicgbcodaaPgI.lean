/- The document of chapter 19: expressions. -/
import Derived.Test.YtdmjiaicgbcodaaPgB
import Derived.Test.YtdmjiaicgbcodaaFree
namespace Go.Proofs.Ytdmjiaicgbcodaa
open Go.ChangeShapes Go.WideShapes Go.ChangeAt Go.RowKit
open Go.ChangeMaps (open_string shut_string)
set_option linter.unusedVariables false
set_option linter.unusedSimpArgs false

set_option maxHeartbeats 16000000 in
set_option maxRecDepth 100000 in
theorem ref_expr (e : ExprR) (b : Bool) (w : World) (hb : mayE e = b) : Calls Try.prog 96 #[.agg #[.int .i64 e.k, .int .i64 e.n, .string e.s, .int .i64 e.r, .int .i64 e.c]] w fun x w' => x = .returned (.bool b) ∧ Below w.heap.size w w' := by
  obtain ⟨k, n, s, r, c⟩ := e
  unfold mayE fieldK at hb
  simp only at hb
  have bb0 : Below w.heap.size w (w.alloc (.cells #[.int .i64 k, .int .i64 n, .string s, .int .i64 r, .int .i64 c] 67)) := (by repeat (first | exact Below.refl _ _ | assumption | apply below_drewN' | apply Below.drew | refine Below.alloc ?_ (by first | omega | (simp; done) | (simp; omega)) _ | refine Below.setCell ?_ (by first | omega | (simp; done) | (simp; omega)) _))
  have hX0 := Blk.new w #[.int .i64 k, .int .i64 n, .string s, .int .i64 r, .int .i64 c] 67
  have hr : r < 0 ∨ (¬ r < 0 ∧ r < 4) ∨ ¬ r < 4 := by omega
  have hc : c < 0 ∨ (¬ c < 0 ∧ c < 4) ∨ ¬ c < 4 := by omega
  rcases hr with hr | hr | hr
  · rcases hc with hc | hc | hc
    · have hp : inR r 0 3 = false := by simp [inR]; omega
      have hq : inR c 0 3 = false := by simp [inR]; omega
      rw [hp, hq] at hb
      have hb := Lib.hid hb
      have r1 : decide (0 ≤ r) = false := decide_eq_false (by omega)
      have c1 : decide (0 ≤ c) = false := decide_eq_false (by omega)
      clear hp hq
      go_enter Try.func96, Try.ntmps96
      go_wp2_with fail
      generalize w.alloc (.cells #[.int .i64 k, .int .i64 n, .string s, .int .i64 r, .int .i64 c] 67) = W1 at *
      have keep := fun {w' w'' : World} (h : Blk w' w.heap.size #[.int .i64 k, .int .i64 n, .string s, .int .i64 r, .int .i64 c] 67 ∧ Below w.heap.size w w') (hb : Below w'.heap.size w' w'') => (⟨h.1.below hb h.1.lt, bnext h.2 hb⟩ : Blk w'' w.heap.size #[.int .i64 k, .int .i64 n, .string s, .int .i64 r, .int .i64 c] 67 ∧ Below w.heap.size w w'')
      have hvo := Free.val
      refine Free.wp_facts (M := [0, 1, 3, 7, 15, 31, 63, 127, 0, 256, 768, 1807, 3855, 7951, 16143, 32527, 4095, 131071]) (D := [[], [(0, 5)], [(1, 6)], [(2, 7)], [(3, 8)], [(4, 9), (3, 8)], [(5, 10), (3, 8)], [(3, 8), (6, 11)], [], [(8, 13)], [(9, 14)], [(10, 15)], [(11, 16)], [(12, 17), (11, 16)], [(13, 18), (11, 16)], [(11, 16), (14, 19)], [(7, 12)], [(15, 20)]]) (outs := [16, 17]) (soles := []) (E := [(0, 5, false), (1, 6, false), (2, 7, false), (3, 8, false), (4, 9, false), (5, 10, false), (6, 11, false), (7, 12, false), (8, 13, false), (9, 14, false), (10, 15, false), (11, 16, false), (12, 17, false), (13, 18, false), (14, 19, false), (15, 20, false), (16, 3, true), (17, 4, true)]) (N := 104) (S := (fun w' => Blk w' w.heap.size #[.int .i64 k, .int .i64 n, .string s, .int .i64 r, .int .i64 c] 67 ∧ Below w.heap.size w w')) [Free.Fact.is ?_, Free.Fact.is ?_, Free.Fact.is ?_, Free.Fact.is ?_, Free.Fact.is ?_, Free.Fact.is ?_, Free.Fact.is ?_, Free.Fact.is ?_, Free.Fact.is ?_, Free.Fact.is ?_, Free.Fact.is ?_, Free.Fact.is ?_, Free.Fact.is ?_, Free.Fact.is ?_, Free.Fact.is ?_, Free.Fact.is ?_, Free.Fact.is ?_, Free.Fact.is ?_] (by kernel_rfl) (by kernel_rfl) rfl (⟨hX0.drew, bb0.drew⟩) ?_ ?_
      rotate_left 18
      refine Free.cons ?_ ?_
      · intro w' hS; intro K hK; have x3 := hS.1.cell 3 (v := .int .i64 r) rfl; have x4 := hS.1.cell 4 (v := .int .i64 c) rfl; first | (refine Free.run_yes (by rfl) ?_; go_simp; refine Free.o hK hS ?_; exact rfl) | (refine Free.run_no (by rfl) (Free.o hK hS ?_); exact rfl)
      refine Free.cons ?_ ?_
      · intro w' hS; (rintro _ rfl); intro K hK; have x3 := hS.1.cell 3 (v := .int .i64 r) rfl; have x4 := hS.1.cell 4 (v := .int .i64 c) rfl; first | (refine Free.run_yes (by rfl) ?_; go_simp; refine Free.o hK hS ?_; exact rfl) | (refine Free.run_no (by rfl) (Free.o hK hS ?_); exact rfl)
      refine Free.cons ?_ ?_
      · intro w' hS; (rintro _ rfl); intro K hK; have x3 := hS.1.cell 3 (v := .int .i64 r) rfl; have x4 := hS.1.cell 4 (v := .int .i64 c) rfl; first | (refine Free.run_yes (by rfl) ?_; go_simp; refine Free.o hK hS ?_; exact rfl) | (refine Free.run_no (by rfl) (Free.o hK hS ?_); exact rfl)
      refine Free.cons ?_ ?_
      · intro w' hS; (rintro _ rfl); intro K hK; have x3 := hS.1.cell 3 (v := .int .i64 r) rfl; have x4 := hS.1.cell 4 (v := .int .i64 c) rfl; first | (refine Free.run_yes (by rfl) ?_; go_simp; refine Free.o hK hS ?_; exact rfl) | (refine Free.run_no (by rfl) (Free.o hK hS ?_); exact rfl)
      refine Free.cons ?_ ?_
      · intro w' hS; (rintro _ rfl); intro K hK; have x3 := hS.1.cell 3 (v := .int .i64 r) rfl; have x4 := hS.1.cell 4 (v := .int .i64 c) rfl; first | (refine Free.run_yes (by rfl) ?_; go_simp; refine Free.o hK hS ?_; exact rfl) | (refine Free.run_no (by rfl) (Free.o hK hS ?_); exact rfl)
      refine Free.cons ?_ ?_
      · intro w' hS; (rintro _ rfl); (rintro _ rfl); intro K hK; have x3 := hS.1.cell 3 (v := .int .i64 r) rfl; have x4 := hS.1.cell 4 (v := .int .i64 c) rfl; first | (refine Free.run_yes (by rfl) ?_; go_simp; refine Free.o hK hS ?_; exact rfl) | (refine Free.run_no (by rfl) (Free.o hK hS ?_); exact rfl)
      refine Free.cons ?_ ?_
      · intro w' hS; (rintro _ rfl); (rintro _ rfl); intro K hK; have x3 := hS.1.cell 3 (v := .int .i64 r) rfl; have x4 := hS.1.cell 4 (v := .int .i64 c) rfl; first | (refine Free.run_yes (by rfl) ?_; go_simp; refine Free.o hK hS ?_; exact rfl) | (refine Free.run_no (by rfl) (Free.o hK hS ?_); exact rfl)
      refine Free.cons ?_ ?_
      · intro w' hS; (rintro _ rfl); (rintro _ rfl); intro K hK; have x3 := hS.1.cell 3 (v := .int .i64 r) rfl; have x4 := hS.1.cell 4 (v := .int .i64 c) rfl; first | (refine Free.run_yes (by rfl) ?_; go_simp; refine Free.o hK hS ?_; exact rfl) | (refine Free.run_no (by rfl) (Free.o hK hS ?_); exact rfl)
      refine Free.cons ?_ ?_
      · intro w' hS; intro K hK; have x3 := hS.1.cell 3 (v := .int .i64 r) rfl; have x4 := hS.1.cell 4 (v := .int .i64 c) rfl; first | (refine Free.run_yes (by rfl) ?_; go_simp; refine Free.o hK hS ?_; exact rfl) | (refine Free.run_no (by rfl) (Free.o hK hS ?_); exact rfl)
      refine Free.cons ?_ ?_
      · intro w' hS; (rintro _ rfl); intro K hK; have x3 := hS.1.cell 3 (v := .int .i64 r) rfl; have x4 := hS.1.cell 4 (v := .int .i64 c) rfl; first | (refine Free.run_yes (by rfl) ?_; go_simp; refine Free.o hK hS ?_; exact rfl) | (refine Free.run_no (by rfl) (Free.o hK hS ?_); exact rfl)
      refine Free.cons ?_ ?_
      · intro w' hS; (rintro _ rfl); intro K hK; have x3 := hS.1.cell 3 (v := .int .i64 r) rfl; have x4 := hS.1.cell 4 (v := .int .i64 c) rfl; first | (refine Free.run_yes (by rfl) ?_; go_simp; refine Free.o hK hS ?_; exact rfl) | (refine Free.run_no (by rfl) (Free.o hK hS ?_); exact rfl)
      refine Free.cons ?_ ?_
      · intro w' hS; (rintro _ rfl); intro K hK; have x3 := hS.1.cell 3 (v := .int .i64 r) rfl; have x4 := hS.1.cell 4 (v := .int .i64 c) rfl; first | (refine Free.run_yes (by rfl) ?_; go_simp; refine Free.o hK hS ?_; exact rfl) | (refine Free.run_no (by rfl) (Free.o hK hS ?_); exact rfl)
      refine Free.cons ?_ ?_
      · intro w' hS; (rintro _ rfl); intro K hK; have x3 := hS.1.cell 3 (v := .int .i64 r) rfl; have x4 := hS.1.cell 4 (v := .int .i64 c) rfl; first | (refine Free.run_yes (by rfl) ?_; go_simp; refine Free.o hK hS ?_; exact rfl) | (refine Free.run_no (by rfl) (Free.o hK hS ?_); exact rfl)
      refine Free.cons ?_ ?_
      · intro w' hS; (rintro _ rfl); (rintro _ rfl); intro K hK; have x3 := hS.1.cell 3 (v := .int .i64 r) rfl; have x4 := hS.1.cell 4 (v := .int .i64 c) rfl; first | (refine Free.run_yes (by rfl) ?_; go_simp; refine Free.o hK hS ?_; exact rfl) | (refine Free.run_no (by rfl) (Free.o hK hS ?_); exact rfl)
      refine Free.cons ?_ ?_
      · intro w' hS; (rintro _ rfl); (rintro _ rfl); intro K hK; have x3 := hS.1.cell 3 (v := .int .i64 r) rfl; have x4 := hS.1.cell 4 (v := .int .i64 c) rfl; first | (refine Free.run_yes (by rfl) ?_; go_simp; refine Free.o hK hS ?_; exact rfl) | (refine Free.run_no (by rfl) (Free.o hK hS ?_); exact rfl)
      refine Free.cons ?_ ?_
      · intro w' hS; (rintro _ rfl); (rintro _ rfl); intro K hK; have x3 := hS.1.cell 3 (v := .int .i64 r) rfl; have x4 := hS.1.cell 4 (v := .int .i64 c) rfl; first | (refine Free.run_yes (by rfl) ?_; go_simp; refine Free.o hK hS ?_; exact rfl) | (refine Free.run_no (by rfl) (Free.o hK hS ?_); exact rfl)
      refine Free.cons ?_ ?_
      · intro w' hS; (rintro _ rfl); intro K hK; have x3 := hS.1.cell 3 (v := .int .i64 r) rfl; have x4 := hS.1.cell 4 (v := .int .i64 c) rfl; first | (refine Free.run_yes (by rfl) ?_; go_simp; refine Free.o hK hS ?_; exact rfl) | (refine Free.run_no (by rfl) (Free.o hK hS ?_); exact rfl)
      refine Free.cons ?_ ?_
      · intro w' hS; (rintro _ rfl); intro K hK; have x3 := hS.1.cell 3 (v := .int .i64 r) rfl; have x4 := hS.1.cell 4 (v := .int .i64 c) rfl; first | (refine Free.run_yes (by rfl) ?_; go_simp; refine Free.o hK hS ?_; exact rfl) | (refine Free.run_no (by rfl) (Free.o hK hS ?_); exact rfl)
      exact Free.nil
      clear hvo
      intro w' hS; intro v0; intro v1; intro v2; intro v3; intro v4; intro v5; intro v6; intro v7; intro v8; intro v9; intro v10; intro v11; intro v12; intro v13; intro v14; intro v15; (rintro _ rfl); (rintro _ rfl); (try simp only [Act.put, List.setIfInBounds_toArray, List.set_cons_zero, List.set_cons_succ]); refine Free.toldE_nil ?_
      have hX := hS.1
      have bb := hS.2
      clear hS hX0 bb0 keep
      have x0 := hX.cell 0 (v := .int .i64 k) rfl
      have x1 := hX.cell 1 (v := .int .i64 n) rfl
      have x2 := hX.cell 2 (v := .string s) rfl
      have x3 := hX.cell 3 (v := .int .i64 r) rfl
      have x4 := hX.cell 4 (v := .int .i64 c) rfl
      by_cases k1 : k = 1
      · subst k1
        go_wp2
        all_goals (go_ret; exact ⟨by rewrite [← hb.out]; simp [noS, *], bb⟩)
      have f1 : (k == 1) = false := by rw [beq_eq_false_iff_ne]; exact k1
      by_cases k2 : k = 2
      · subst k2
        go_wp2
        all_goals (go_ret; exact ⟨by rewrite [← hb.out]; simp [noS, *], bb⟩)
      have f2 : (k == 2) = false := by rw [beq_eq_false_iff_ne]; exact k2
      by_cases k3 : k = 3
      · subst k3
        go_wp2
        all_goals (go_ret; exact ⟨by rewrite [← hb.out]; simp [noS, *], bb⟩)
      have f3 : (k == 3) = false := by rw [beq_eq_false_iff_ne]; exact k3
      by_cases k4 : k = 4
      · subst k4
        go_wp2
        all_goals (go_ret; exact ⟨by rewrite [← hb.out]; simp [noS, *], bb⟩)
      have f4 : (k == 4) = false := by rw [beq_eq_false_iff_ne]; exact k4
      by_cases k5 : k = 5
      · subst k5
        go_wp2
        all_goals (go_ret; exact ⟨by rewrite [← hb.out]; simp [noS, *], bb⟩)
      have f5 : (k == 5) = false := by rw [beq_eq_false_iff_ne]; exact k5
      go_wp2
      all_goals (go_ret; exact ⟨by rewrite [← hb.out]; simp [noS, *], bb⟩)
    · have hp : inR r 0 3 = false := by simp [inR]; omega
      have hq : inR c 0 3 = true := by simp [inR]; omega
      rw [hp, hq] at hb
      have hb := Lib.hid hb
      have r1 : decide (0 ≤ r) = false := decide_eq_false (by omega)
      have c1 : decide (0 ≤ c) = true := decide_eq_true (by omega); have c2 : decide (c < 4) = true := decide_eq_true (by omega)
      clear hp hq
      go_enter Try.func96, Try.ntmps96
      go_wp2_with fail
      generalize w.alloc (.cells #[.int .i64 k, .int .i64 n, .string s, .int .i64 r, .int .i64 c] 67) = W1 at *
      have keep := fun {w' w'' : World} (h : Blk w' w.heap.size #[.int .i64 k, .int .i64 n, .string s, .int .i64 r, .int .i64 c] 67 ∧ Below w.heap.size w w') (hb : Below w'.heap.size w' w'') => (⟨h.1.below hb h.1.lt, bnext h.2 hb⟩ : Blk w'' w.heap.size #[.int .i64 k, .int .i64 n, .string s, .int .i64 r, .int .i64 c] 67 ∧ Below w.heap.size w w'')
      have hvo := Free.val
      refine Free.wp_facts (M := [0, 1, 3, 7, 15, 31, 63, 127, 0, 256, 768, 1807, 3855, 7951, 16143, 32527, 4095, 131071]) (D := [[], [(0, 5)], [(1, 6)], [(2, 7)], [(3, 8)], [(4, 9), (3, 8)], [(5, 10), (3, 8)], [(3, 8), (6, 11)], [], [(8, 13)], [(9, 14)], [(10, 15)], [(11, 16)], [(12, 17), (11, 16)], [(13, 18), (11, 16)], [(11, 16), (14, 19)], [(7, 12)], [(15, 20)]]) (outs := [16, 17]) (soles := []) (E := [(0, 5, false), (1, 6, false), (2, 7, false), (3, 8, false), (4, 9, false), (5, 10, false), (6, 11, false), (7, 12, false), (8, 13, false), (9, 14, false), (10, 15, false), (11, 16, false), (12, 17, false), (13, 18, false), (14, 19, false), (15, 20, false), (16, 3, true), (17, 4, true)]) (N := 104) (S := (fun w' => Blk w' w.heap.size #[.int .i64 k, .int .i64 n, .string s, .int .i64 r, .int .i64 c] 67 ∧ Below w.heap.size w w')) [Free.Fact.is ?_, Free.Fact.is ?_, Free.Fact.is ?_, Free.Fact.is ?_, Free.Fact.is ?_, Free.Fact.is ?_, Free.Fact.is ?_, Free.Fact.is ?_, Free.Fact.is ?_, Free.Fact.is ?_, Free.Fact.is ?_, Free.Fact.is ?_, Free.Fact.is ?_, Free.Fact.is ?_, Free.Fact.is ?_, Free.Fact.is ?_, Free.Fact.is ?_, Free.Fact.is ?_] (by kernel_rfl) (by kernel_rfl) rfl (⟨hX0.drew, bb0.drew⟩) ?_ ?_
      rotate_left 18
      refine Free.cons ?_ ?_
      · intro w' hS; intro K hK; have x3 := hS.1.cell 3 (v := .int .i64 r) rfl; have x4 := hS.1.cell 4 (v := .int .i64 c) rfl; first | (refine Free.run_yes (by rfl) ?_; go_simp; refine Free.o hK hS ?_; exact rfl) | (refine Free.run_no (by rfl) (Free.o hK hS ?_); exact rfl)
      refine Free.cons ?_ ?_
      · intro w' hS; (rintro _ rfl); intro K hK; have x3 := hS.1.cell 3 (v := .int .i64 r) rfl; have x4 := hS.1.cell 4 (v := .int .i64 c) rfl; first | (refine Free.run_yes (by rfl) ?_; go_simp; refine Free.o hK hS ?_; exact rfl) | (refine Free.run_no (by rfl) (Free.o hK hS ?_); exact rfl)
      refine Free.cons ?_ ?_
      · intro w' hS; (rintro _ rfl); intro K hK; have x3 := hS.1.cell 3 (v := .int .i64 r) rfl; have x4 := hS.1.cell 4 (v := .int .i64 c) rfl; first | (refine Free.run_yes (by rfl) ?_; go_simp; refine Free.o hK hS ?_; exact rfl) | (refine Free.run_no (by rfl) (Free.o hK hS ?_); exact rfl)
      refine Free.cons ?_ ?_
      · intro w' hS; (rintro _ rfl); intro K hK; have x3 := hS.1.cell 3 (v := .int .i64 r) rfl; have x4 := hS.1.cell 4 (v := .int .i64 c) rfl; first | (refine Free.run_yes (by rfl) ?_; go_simp; refine Free.o hK hS ?_; exact rfl) | (refine Free.run_no (by rfl) (Free.o hK hS ?_); exact rfl)
      refine Free.cons ?_ ?_
      · intro w' hS; (rintro _ rfl); intro K hK; have x3 := hS.1.cell 3 (v := .int .i64 r) rfl; have x4 := hS.1.cell 4 (v := .int .i64 c) rfl; first | (refine Free.run_yes (by rfl) ?_; go_simp; refine Free.o hK hS ?_; exact rfl) | (refine Free.run_no (by rfl) (Free.o hK hS ?_); exact rfl)
      refine Free.cons ?_ ?_
      · intro w' hS; (rintro _ rfl); (rintro _ rfl); intro K hK; have x3 := hS.1.cell 3 (v := .int .i64 r) rfl; have x4 := hS.1.cell 4 (v := .int .i64 c) rfl; first | (refine Free.run_yes (by rfl) ?_; go_simp; refine Free.o hK hS ?_; exact rfl) | (refine Free.run_no (by rfl) (Free.o hK hS ?_); exact rfl)
      refine Free.cons ?_ ?_
      · intro w' hS; (rintro _ rfl); (rintro _ rfl); intro K hK; have x3 := hS.1.cell 3 (v := .int .i64 r) rfl; have x4 := hS.1.cell 4 (v := .int .i64 c) rfl; first | (refine Free.run_yes (by rfl) ?_; go_simp; refine Free.o hK hS ?_; exact rfl) | (refine Free.run_no (by rfl) (Free.o hK hS ?_); exact rfl)
      refine Free.cons ?_ ?_
      · intro w' hS; (rintro _ rfl); (rintro _ rfl); intro K hK; have x3 := hS.1.cell 3 (v := .int .i64 r) rfl; have x4 := hS.1.cell 4 (v := .int .i64 c) rfl; first | (refine Free.run_yes (by rfl) ?_; go_simp; refine Free.o hK hS ?_; exact rfl) | (refine Free.run_no (by rfl) (Free.o hK hS ?_); exact rfl)
      refine Free.cons ?_ ?_
      · intro w' hS; intro K hK; have x3 := hS.1.cell 3 (v := .int .i64 r) rfl; have x4 := hS.1.cell 4 (v := .int .i64 c) rfl; first | (refine Free.run_yes (by rfl) ?_; go_simp; refine Free.o hK hS ?_; exact rfl) | (refine Free.run_no (by rfl) (Free.o hK hS ?_); exact rfl)
      refine Free.cons ?_ ?_
      · intro w' hS; (rintro _ rfl); intro K hK; have x3 := hS.1.cell 3 (v := .int .i64 r) rfl; have x4 := hS.1.cell 4 (v := .int .i64 c) rfl; first | (refine Free.run_yes (by rfl) ?_; go_simp; refine Free.o hK hS ?_; exact rfl) | (refine Free.run_no (by rfl) (Free.o hK hS ?_); exact rfl)
      refine Free.cons ?_ ?_
      · intro w' hS; (rintro _ rfl); intro K hK; have x3 := hS.1.cell 3 (v := .int .i64 r) rfl; have x4 := hS.1.cell 4 (v := .int .i64 c) rfl; first | (refine Free.run_yes (by rfl) ?_; go_simp; refine Free.o hK hS ?_; exact rfl) | (refine Free.run_no (by rfl) (Free.o hK hS ?_); exact rfl)
      refine Free.cons ?_ ?_
      · intro w' hS; (rintro _ rfl); intro K hK; have x3 := hS.1.cell 3 (v := .int .i64 r) rfl; have x4 := hS.1.cell 4 (v := .int .i64 c) rfl; first | (refine Free.run_yes (by rfl) ?_; go_simp; refine Free.o hK hS ?_; exact rfl) | (refine Free.run_no (by rfl) (Free.o hK hS ?_); exact rfl)
      refine Free.cons ?_ ?_
      · intro w' hS; (rintro _ rfl); intro K hK; have x3 := hS.1.cell 3 (v := .int .i64 r) rfl; have x4 := hS.1.cell 4 (v := .int .i64 c) rfl; first | (refine Free.run_yes (by rfl) ?_; go_simp; refine Free.o hK hS ?_; exact rfl) | (refine Free.run_no (by rfl) (Free.o hK hS ?_); exact rfl)
      refine Free.cons ?_ ?_
      · intro w' hS; (rintro _ rfl); (rintro _ rfl); intro K hK; have x3 := hS.1.cell 3 (v := .int .i64 r) rfl; have x4 := hS.1.cell 4 (v := .int .i64 c) rfl; first | (refine Free.run_yes (by rfl) ?_; go_simp; refine Free.o hK hS ?_; exact rfl) | (refine Free.run_no (by rfl) (Free.o hK hS ?_); exact rfl)
      refine Free.cons ?_ ?_
      · intro w' hS; (rintro _ rfl); (rintro _ rfl); intro K hK; have x3 := hS.1.cell 3 (v := .int .i64 r) rfl; have x4 := hS.1.cell 4 (v := .int .i64 c) rfl; first | (refine Free.run_yes (by rfl) ?_; go_simp; refine Free.o hK hS ?_; exact rfl) | (refine Free.run_no (by rfl) (Free.o hK hS ?_); exact rfl)
      refine Free.cons ?_ ?_
      · intro w' hS; (rintro _ rfl); (rintro _ rfl); intro K hK; have x3 := hS.1.cell 3 (v := .int .i64 r) rfl; have x4 := hS.1.cell 4 (v := .int .i64 c) rfl; first | (refine Free.run_yes (by rfl) ?_; go_simp; refine Free.o hK hS ?_; exact rfl) | (refine Free.run_no (by rfl) (Free.o hK hS ?_); exact rfl)
      refine Free.cons ?_ ?_
      · intro w' hS; (rintro _ rfl); intro K hK; have x3 := hS.1.cell 3 (v := .int .i64 r) rfl; have x4 := hS.1.cell 4 (v := .int .i64 c) rfl; first | (refine Free.run_yes (by rfl) ?_; go_simp; refine Free.o hK hS ?_; exact rfl) | (refine Free.run_no (by rfl) (Free.o hK hS ?_); exact rfl)
      refine Free.cons ?_ ?_
      · intro w' hS; (rintro _ rfl); intro K hK; have x3 := hS.1.cell 3 (v := .int .i64 r) rfl; have x4 := hS.1.cell 4 (v := .int .i64 c) rfl; first | (refine Free.run_yes (by rfl) ?_; go_simp; refine Free.o hK hS ?_; exact rfl) | (refine Free.run_no (by rfl) (Free.o hK hS ?_); exact rfl)
      exact Free.nil
      clear hvo
      intro w' hS; intro v0; intro v1; intro v2; intro v3; intro v4; intro v5; intro v6; intro v7; intro v8; intro v9; intro v10; intro v11; intro v12; intro v13; intro v14; intro v15; (rintro _ rfl); (rintro _ rfl); (try simp only [Act.put, List.setIfInBounds_toArray, List.set_cons_zero, List.set_cons_succ]); refine Free.toldE_nil ?_
      have hX := hS.1
      have bb := hS.2
      clear hS hX0 bb0 keep
      have x0 := hX.cell 0 (v := .int .i64 k) rfl
      have x1 := hX.cell 1 (v := .int .i64 n) rfl
      have x2 := hX.cell 2 (v := .string s) rfl
      have x3 := hX.cell 3 (v := .int .i64 r) rfl
      have x4 := hX.cell 4 (v := .int .i64 c) rfl
      by_cases k1 : k = 1
      · subst k1
        go_wp2
        all_goals (go_ret; exact ⟨by rewrite [← hb.out]; simp [noS, *], bb⟩)
      have f1 : (k == 1) = false := by rw [beq_eq_false_iff_ne]; exact k1
      by_cases k2 : k = 2
      · subst k2
        go_wp2
        all_goals (go_ret; exact ⟨by rewrite [← hb.out]; simp [noS, *], bb⟩)
      have f2 : (k == 2) = false := by rw [beq_eq_false_iff_ne]; exact k2
      by_cases k3 : k = 3
      · subst k3
        go_wp2
        all_goals (go_ret; exact ⟨by rewrite [← hb.out]; simp [noS, *], bb⟩)
      have f3 : (k == 3) = false := by rw [beq_eq_false_iff_ne]; exact k3
      by_cases k4 : k = 4
      · subst k4
        go_wp2
        all_goals (go_ret; exact ⟨by rewrite [← hb.out]; simp [noS, *], bb⟩)
      have f4 : (k == 4) = false := by rw [beq_eq_false_iff_ne]; exact k4
      by_cases k5 : k = 5
      · subst k5
        go_wp2
        all_goals (go_ret; exact ⟨by rewrite [← hb.out]; simp [noS, *], bb⟩)
      have f5 : (k == 5) = false := by rw [beq_eq_false_iff_ne]; exact k5
      go_wp2
      all_goals (go_ret; exact ⟨by rewrite [← hb.out]; simp [noS, *], bb⟩)
    · have hp : inR r 0 3 = false := by simp [inR]; omega
      have hq : inR c 0 3 = false := by simp [inR]; omega
      rw [hp, hq] at hb
      have hb := Lib.hid hb
      have r1 : decide (0 ≤ r) = false := decide_eq_false (by omega)
      have c1 : decide (0 ≤ c) = true := decide_eq_true (by omega); have c2 : decide (c < 4) = false := decide_eq_false (by omega)
      clear hp hq
      go_enter Try.func96, Try.ntmps96
      go_wp2_with fail
      generalize w.alloc (.cells #[.int .i64 k, .int .i64 n, .string s, .int .i64 r, .int .i64 c] 67) = W1 at *
      have keep := fun {w' w'' : World} (h : Blk w' w.heap.size #[.int .i64 k, .int .i64 n, .string s, .int .i64 r, .int .i64 c] 67 ∧ Below w.heap.size w w') (hb : Below w'.heap.size w' w'') => (⟨h.1.below hb h.1.lt, bnext h.2 hb⟩ : Blk w'' w.heap.size #[.int .i64 k, .int .i64 n, .string s, .int .i64 r, .int .i64 c] 67 ∧ Below w.heap.size w w'')
      have hvo := Free.val
      refine Free.wp_facts (M := [0, 1, 3, 7, 15, 31, 63, 127, 0, 256, 768, 1807, 3855, 7951, 16143, 32527, 4095, 131071]) (D := [[], [(0, 5)], [(1, 6)], [(2, 7)], [(3, 8)], [(4, 9), (3, 8)], [(5, 10), (3, 8)], [(3, 8), (6, 11)], [], [(8, 13)], [(9, 14)], [(10, 15)], [(11, 16)], [(12, 17), (11, 16)], [(13, 18), (11, 16)], [(11, 16), (14, 19)], [(7, 12)], [(15, 20)]]) (outs := [16, 17]) (soles := []) (E := [(0, 5, false), (1, 6, false), (2, 7, false), (3, 8, false), (4, 9, false), (5, 10, false), (6, 11, false), (7, 12, false), (8, 13, false), (9, 14, false), (10, 15, false), (11, 16, false), (12, 17, false), (13, 18, false), (14, 19, false), (15, 20, false), (16, 3, true), (17, 4, true)]) (N := 104) (S := (fun w' => Blk w' w.heap.size #[.int .i64 k, .int .i64 n, .string s, .int .i64 r, .int .i64 c] 67 ∧ Below w.heap.size w w')) [Free.Fact.is ?_, Free.Fact.is ?_, Free.Fact.is ?_, Free.Fact.is ?_, Free.Fact.is ?_, Free.Fact.is ?_, Free.Fact.is ?_, Free.Fact.is ?_, Free.Fact.is ?_, Free.Fact.is ?_, Free.Fact.is ?_, Free.Fact.is ?_, Free.Fact.is ?_, Free.Fact.is ?_, Free.Fact.is ?_, Free.Fact.is ?_, Free.Fact.is ?_, Free.Fact.is ?_] (by kernel_rfl) (by kernel_rfl) rfl (⟨hX0.drew, bb0.drew⟩) ?_ ?_
      rotate_left 18
      refine Free.cons ?_ ?_
      · intro w' hS; intro K hK; have x3 := hS.1.cell 3 (v := .int .i64 r) rfl; have x4 := hS.1.cell 4 (v := .int .i64 c) rfl; first | (refine Free.run_yes (by rfl) ?_; go_simp; refine Free.o hK hS ?_; exact rfl) | (refine Free.run_no (by rfl) (Free.o hK hS ?_); exact rfl)
      refine Free.cons ?_ ?_
      · intro w' hS; (rintro _ rfl); intro K hK; have x3 := hS.1.cell 3 (v := .int .i64 r) rfl; have x4 := hS.1.cell 4 (v := .int .i64 c) rfl; first | (refine Free.run_yes (by rfl) ?_; go_simp; refine Free.o hK hS ?_; exact rfl) | (refine Free.run_no (by rfl) (Free.o hK hS ?_); exact rfl)
      refine Free.cons ?_ ?_
      · intro w' hS; (rintro _ rfl); intro K hK; have x3 := hS.1.cell 3 (v := .int .i64 r) rfl; have x4 := hS.1.cell 4 (v := .int .i64 c) rfl; first | (refine Free.run_yes (by rfl) ?_; go_simp; refine Free.o hK hS ?_; exact rfl) | (refine Free.run_no (by rfl) (Free.o hK hS ?_); exact rfl)
      refine Free.cons ?_ ?_
      · intro w' hS; (rintro _ rfl); intro K hK; have x3 := hS.1.cell 3 (v := .int .i64 r) rfl; have x4 := hS.1.cell 4 (v := .int .i64 c) rfl; first | (refine Free.run_yes (by rfl) ?_; go_simp; refine Free.o hK hS ?_; exact rfl) | (refine Free.run_no (by rfl) (Free.o hK hS ?_); exact rfl)
      refine Free.cons ?_ ?_
      · intro w' hS; (rintro _ rfl); intro K hK; have x3 := hS.1.cell 3 (v := .int .i64 r) rfl; have x4 := hS.1.cell 4 (v := .int .i64 c) rfl; first | (refine Free.run_yes (by rfl) ?_; go_simp; refine Free.o hK hS ?_; exact rfl) | (refine Free.run_no (by rfl) (Free.o hK hS ?_); exact rfl)
      refine Free.cons ?_ ?_
      · intro w' hS; (rintro _ rfl); (rintro _ rfl); intro K hK; have x3 := hS.1.cell 3 (v := .int .i64 r) rfl; have x4 := hS.1.cell 4 (v := .int .i64 c) rfl; first | (refine Free.run_yes (by rfl) ?_; go_simp; refine Free.o hK hS ?_; exact rfl) | (refine Free.run_no (by rfl) (Free.o hK hS ?_); exact rfl)
      refine Free.cons ?_ ?_
      · intro w' hS; (rintro _ rfl); (rintro _ rfl); intro K hK; have x3 := hS.1.cell 3 (v := .int .i64 r) rfl; have x4 := hS.1.cell 4 (v := .int .i64 c) rfl; first | (refine Free.run_yes (by rfl) ?_; go_simp; refine Free.o hK hS ?_; exact rfl) | (refine Free.run_no (by rfl) (Free.o hK hS ?_); exact rfl)
      refine Free.cons ?_ ?_
      · intro w' hS; (rintro _ rfl); (rintro _ rfl); intro K hK; have x3 := hS.1.cell 3 (v := .int .i64 r) rfl; have x4 := hS.1.cell 4 (v := .int .i64 c) rfl; first | (refine Free.run_yes (by rfl) ?_; go_simp; refine Free.o hK hS ?_; exact rfl) | (refine Free.run_no (by rfl) (Free.o hK hS ?_); exact rfl)
      refine Free.cons ?_ ?_
      · intro w' hS; intro K hK; have x3 := hS.1.cell 3 (v := .int .i64 r) rfl; have x4 := hS.1.cell 4 (v := .int .i64 c) rfl; first | (refine Free.run_yes (by rfl) ?_; go_simp; refine Free.o hK hS ?_; exact rfl) | (refine Free.run_no (by rfl) (Free.o hK hS ?_); exact rfl)
      refine Free.cons ?_ ?_
      · intro w' hS; (rintro _ rfl); intro K hK; have x3 := hS.1.cell 3 (v := .int .i64 r) rfl; have x4 := hS.1.cell 4 (v := .int .i64 c) rfl; first | (refine Free.run_yes (by rfl) ?_; go_simp; refine Free.o hK hS ?_; exact rfl) | (refine Free.run_no (by rfl) (Free.o hK hS ?_); exact rfl)
      refine Free.cons ?_ ?_
      · intro w' hS; (rintro _ rfl); intro K hK; have x3 := hS.1.cell 3 (v := .int .i64 r) rfl; have x4 := hS.1.cell 4 (v := .int .i64 c) rfl; first | (refine Free.run_yes (by rfl) ?_; go_simp; refine Free.o hK hS ?_; exact rfl) | (refine Free.run_no (by rfl) (Free.o hK hS ?_); exact rfl)
      refine Free.cons ?_ ?_
      · intro w' hS; (rintro _ rfl); intro K hK; have x3 := hS.1.cell 3 (v := .int .i64 r) rfl; have x4 := hS.1.cell 4 (v := .int .i64 c) rfl; first | (refine Free.run_yes (by rfl) ?_; go_simp; refine Free.o hK hS ?_; exact rfl) | (refine Free.run_no (by rfl) (Free.o hK hS ?_); exact rfl)
      refine Free.cons ?_ ?_
      · intro w' hS; (rintro _ rfl); intro K hK; have x3 := hS.1.cell 3 (v := .int .i64 r) rfl; have x4 := hS.1.cell 4 (v := .int .i64 c) rfl; first | (refine Free.run_yes (by rfl) ?_; go_simp; refine Free.o hK hS ?_; exact rfl) | (refine Free.run_no (by rfl) (Free.o hK hS ?_); exact rfl)
      refine Free.cons ?_ ?_
      · intro w' hS; (rintro _ rfl); (rintro _ rfl); intro K hK; have x3 := hS.1.cell 3 (v := .int .i64 r) rfl; have x4 := hS.1.cell 4 (v := .int .i64 c) rfl; first | (refine Free.run_yes (by rfl) ?_; go_simp; refine Free.o hK hS ?_; exact rfl) | (refine Free.run_no (by rfl) (Free.o hK hS ?_); exact rfl)
      refine Free.cons ?_ ?_
      · intro w' hS; (rintro _ rfl); (rintro _ rfl); intro K hK; have x3 := hS.1.cell 3 (v := .int .i64 r) rfl; have x4 := hS.1.cell 4 (v := .int .i64 c) rfl; first | (refine Free.run_yes (by rfl) ?_; go_simp; refine Free.o hK hS ?_; exact rfl) | (refine Free.run_no (by rfl) (Free.o hK hS ?_); exact rfl)
      refine Free.cons ?_ ?_
      · intro w' hS; (rintro _ rfl); (rintro _ rfl); intro K hK; have x3 := hS.1.cell 3 (v := .int .i64 r) rfl; have x4 := hS.1.cell 4 (v := .int .i64 c) rfl; first | (refine Free.run_yes (by rfl) ?_; go_simp; refine Free.o hK hS ?_; exact rfl) | (refine Free.run_no (by rfl) (Free.o hK hS ?_); exact rfl)
      refine Free.cons ?_ ?_
      · intro w' hS; (rintro _ rfl); intro K hK; have x3 := hS.1.cell 3 (v := .int .i64 r) rfl; have x4 := hS.1.cell 4 (v := .int .i64 c) rfl; first | (refine Free.run_yes (by rfl) ?_; go_simp; refine Free.o hK hS ?_; exact rfl) | (refine Free.run_no (by rfl) (Free.o hK hS ?_); exact rfl)
      refine Free.cons ?_ ?_
      · intro w' hS; (rintro _ rfl); intro K hK; have x3 := hS.1.cell 3 (v := .int .i64 r) rfl; have x4 := hS.1.cell 4 (v := .int .i64 c) rfl; first | (refine Free.run_yes (by rfl) ?_; go_simp; refine Free.o hK hS ?_; exact rfl) | (refine Free.run_no (by rfl) (Free.o hK hS ?_); exact rfl)
      exact Free.nil
      clear hvo
      intro w' hS; intro v0; intro v1; intro v2; intro v3; intro v4; intro v5; intro v6; intro v7; intro v8; intro v9; intro v10; intro v11; intro v12; intro v13; intro v14; intro v15; (rintro _ rfl); (rintro _ rfl); (try simp only [Act.put, List.setIfInBounds_toArray, List.set_cons_zero, List.set_cons_succ]); refine Free.toldE_nil ?_
      have hX := hS.1
      have bb := hS.2
      clear hS hX0 bb0 keep
      have x0 := hX.cell 0 (v := .int .i64 k) rfl
      have x1 := hX.cell 1 (v := .int .i64 n) rfl
      have x2 := hX.cell 2 (v := .string s) rfl
      have x3 := hX.cell 3 (v := .int .i64 r) rfl
      have x4 := hX.cell 4 (v := .int .i64 c) rfl
      by_cases k1 : k = 1
      · subst k1
        go_wp2
        all_goals (go_ret; exact ⟨by rewrite [← hb.out]; simp [noS, *], bb⟩)
      have f1 : (k == 1) = false := by rw [beq_eq_false_iff_ne]; exact k1
      by_cases k2 : k = 2
      · subst k2
        go_wp2
        all_goals (go_ret; exact ⟨by rewrite [← hb.out]; simp [noS, *], bb⟩)
      have f2 : (k == 2) = false := by rw [beq_eq_false_iff_ne]; exact k2
      by_cases k3 : k = 3
      · subst k3
        go_wp2
        all_goals (go_ret; exact ⟨by rewrite [← hb.out]; simp [noS, *], bb⟩)
      have f3 : (k == 3) = false := by rw [beq_eq_false_iff_ne]; exact k3
      by_cases k4 : k = 4
      · subst k4
        go_wp2
        all_goals (go_ret; exact ⟨by rewrite [← hb.out]; simp [noS, *], bb⟩)
      have f4 : (k == 4) = false := by rw [beq_eq_false_iff_ne]; exact k4
      by_cases k5 : k = 5
      · subst k5
        go_wp2
        all_goals (go_ret; exact ⟨by rewrite [← hb.out]; simp [noS, *], bb⟩)
      have f5 : (k == 5) = false := by rw [beq_eq_false_iff_ne]; exact k5
      go_wp2
      all_goals (go_ret; exact ⟨by rewrite [← hb.out]; simp [noS, *], bb⟩)
  · rcases hc with hc | hc | hc
    · have hp : inR r 0 3 = true := by simp [inR]; omega
      have hq : inR c 0 3 = false := by simp [inR]; omega
      rw [hp, hq] at hb
      have hb := Lib.hid hb
      have r1 : decide (0 ≤ r) = true := decide_eq_true (by omega); have r2 : decide (r < 4) = true := decide_eq_true (by omega)
      have c1 : decide (0 ≤ c) = false := decide_eq_false (by omega)
      clear hp hq
      go_enter Try.func96, Try.ntmps96
      go_wp2_with fail
      generalize w.alloc (.cells #[.int .i64 k, .int .i64 n, .string s, .int .i64 r, .int .i64 c] 67) = W1 at *
      have keep := fun {w' w'' : World} (h : Blk w' w.heap.size #[.int .i64 k, .int .i64 n, .string s, .int .i64 r, .int .i64 c] 67 ∧ Below w.heap.size w w') (hb : Below w'.heap.size w' w'') => (⟨h.1.below hb h.1.lt, bnext h.2 hb⟩ : Blk w'' w.heap.size #[.int .i64 k, .int .i64 n, .string s, .int .i64 r, .int .i64 c] 67 ∧ Below w.heap.size w w'')
      have hvo := Free.val
      refine Free.wp_facts (M := [0, 1, 3, 7, 15, 31, 63, 127, 0, 256, 768, 1807, 3855, 7951, 16143, 32527, 4095, 131071]) (D := [[], [(0, 5)], [(1, 6)], [(2, 7)], [(3, 8)], [(4, 9), (3, 8)], [(5, 10), (3, 8)], [(3, 8), (6, 11)], [], [(8, 13)], [(9, 14)], [(10, 15)], [(11, 16)], [(12, 17), (11, 16)], [(13, 18), (11, 16)], [(11, 16), (14, 19)], [(7, 12)], [(15, 20)]]) (outs := [16, 17]) (soles := []) (E := [(0, 5, false), (1, 6, false), (2, 7, false), (3, 8, false), (4, 9, false), (5, 10, false), (6, 11, false), (7, 12, false), (8, 13, false), (9, 14, false), (10, 15, false), (11, 16, false), (12, 17, false), (13, 18, false), (14, 19, false), (15, 20, false), (16, 3, true), (17, 4, true)]) (N := 104) (S := (fun w' => Blk w' w.heap.size #[.int .i64 k, .int .i64 n, .string s, .int .i64 r, .int .i64 c] 67 ∧ Below w.heap.size w w')) [Free.Fact.is ?_, Free.Fact.is ?_, Free.Fact.is ?_, Free.Fact.is ?_, Free.Fact.is ?_, Free.Fact.is ?_, Free.Fact.is ?_, Free.Fact.is ?_, Free.Fact.is ?_, Free.Fact.is ?_, Free.Fact.is ?_, Free.Fact.is ?_, Free.Fact.is ?_, Free.Fact.is ?_, Free.Fact.is ?_, Free.Fact.is ?_, Free.Fact.is ?_, Free.Fact.is ?_] (by kernel_rfl) (by kernel_rfl) rfl (⟨hX0.drew, bb0.drew⟩) ?_ ?_
      rotate_left 18
      refine Free.cons ?_ ?_
      · intro w' hS; intro K hK; have x3 := hS.1.cell 3 (v := .int .i64 r) rfl; have x4 := hS.1.cell 4 (v := .int .i64 c) rfl; first | (refine Free.run_yes (by rfl) ?_; go_simp; refine Free.o hK hS ?_; exact rfl) | (refine Free.run_no (by rfl) (Free.o hK hS ?_); exact rfl)
      refine Free.cons ?_ ?_
      · intro w' hS; (rintro _ rfl); intro K hK; have x3 := hS.1.cell 3 (v := .int .i64 r) rfl; have x4 := hS.1.cell 4 (v := .int .i64 c) rfl; first | (refine Free.run_yes (by rfl) ?_; go_simp; refine Free.o hK hS ?_; exact rfl) | (refine Free.run_no (by rfl) (Free.o hK hS ?_); exact rfl)
      refine Free.cons ?_ ?_
      · intro w' hS; (rintro _ rfl); intro K hK; have x3 := hS.1.cell 3 (v := .int .i64 r) rfl; have x4 := hS.1.cell 4 (v := .int .i64 c) rfl; first | (refine Free.run_yes (by rfl) ?_; go_simp; refine Free.o hK hS ?_; exact rfl) | (refine Free.run_no (by rfl) (Free.o hK hS ?_); exact rfl)
      refine Free.cons ?_ ?_
      · intro w' hS; (rintro _ rfl); intro K hK; have x3 := hS.1.cell 3 (v := .int .i64 r) rfl; have x4 := hS.1.cell 4 (v := .int .i64 c) rfl; first | (refine Free.run_yes (by rfl) ?_; go_simp; refine Free.o hK hS ?_; exact rfl) | (refine Free.run_no (by rfl) (Free.o hK hS ?_); exact rfl)
      refine Free.cons ?_ ?_
      · intro w' hS; (rintro _ rfl); intro K hK; have x3 := hS.1.cell 3 (v := .int .i64 r) rfl; have x4 := hS.1.cell 4 (v := .int .i64 c) rfl; first | (refine Free.run_yes (by rfl) ?_; go_simp; refine Free.o hK hS ?_; exact rfl) | (refine Free.run_no (by rfl) (Free.o hK hS ?_); exact rfl)
      refine Free.cons ?_ ?_
      · intro w' hS; (rintro _ rfl); (rintro _ rfl); intro K hK; have x3 := hS.1.cell 3 (v := .int .i64 r) rfl; have x4 := hS.1.cell 4 (v := .int .i64 c) rfl; first | (refine Free.run_yes (by rfl) ?_; go_simp; refine Free.o hK hS ?_; exact rfl) | (refine Free.run_no (by rfl) (Free.o hK hS ?_); exact rfl)
      refine Free.cons ?_ ?_
      · intro w' hS; (rintro _ rfl); (rintro _ rfl); intro K hK; have x3 := hS.1.cell 3 (v := .int .i64 r) rfl; have x4 := hS.1.cell 4 (v := .int .i64 c) rfl; first | (refine Free.run_yes (by rfl) ?_; go_simp; refine Free.o hK hS ?_; exact rfl) | (refine Free.run_no (by rfl) (Free.o hK hS ?_); exact rfl)
      refine Free.cons ?_ ?_
      · intro w' hS; (rintro _ rfl); (rintro _ rfl); intro K hK; have x3 := hS.1.cell 3 (v := .int .i64 r) rfl; have x4 := hS.1.cell 4 (v := .int .i64 c) rfl; first | (refine Free.run_yes (by rfl) ?_; go_simp; refine Free.o hK hS ?_; exact rfl) | (refine Free.run_no (by rfl) (Free.o hK hS ?_); exact rfl)
      refine Free.cons ?_ ?_
      · intro w' hS; intro K hK; have x3 := hS.1.cell 3 (v := .int .i64 r) rfl; have x4 := hS.1.cell 4 (v := .int .i64 c) rfl; first | (refine Free.run_yes (by rfl) ?_; go_simp; refine Free.o hK hS ?_; exact rfl) | (refine Free.run_no (by rfl) (Free.o hK hS ?_); exact rfl)
      refine Free.cons ?_ ?_
      · intro w' hS; (rintro _ rfl); intro K hK; have x3 := hS.1.cell 3 (v := .int .i64 r) rfl; have x4 := hS.1.cell 4 (v := .int .i64 c) rfl; first | (refine Free.run_yes (by rfl) ?_; go_simp; refine Free.o hK hS ?_; exact rfl) | (refine Free.run_no (by rfl) (Free.o hK hS ?_); exact rfl)
      refine Free.cons ?_ ?_
      · intro w' hS; (rintro _ rfl); intro K hK; have x3 := hS.1.cell 3 (v := .int .i64 r) rfl; have x4 := hS.1.cell 4 (v := .int .i64 c) rfl; first | (refine Free.run_yes (by rfl) ?_; go_simp; refine Free.o hK hS ?_; exact rfl) | (refine Free.run_no (by rfl) (Free.o hK hS ?_); exact rfl)
      refine Free.cons ?_ ?_
      · intro w' hS; (rintro _ rfl); intro K hK; have x3 := hS.1.cell 3 (v := .int .i64 r) rfl; have x4 := hS.1.cell 4 (v := .int .i64 c) rfl; first | (refine Free.run_yes (by rfl) ?_; go_simp; refine Free.o hK hS ?_; exact rfl) | (refine Free.run_no (by rfl) (Free.o hK hS ?_); exact rfl)
      refine Free.cons ?_ ?_
      · intro w' hS; (rintro _ rfl); intro K hK; have x3 := hS.1.cell 3 (v := .int .i64 r) rfl; have x4 := hS.1.cell 4 (v := .int .i64 c) rfl; first | (refine Free.run_yes (by rfl) ?_; go_simp; refine Free.o hK hS ?_; exact rfl) | (refine Free.run_no (by rfl) (Free.o hK hS ?_); exact rfl)
      refine Free.cons ?_ ?_
      · intro w' hS; (rintro _ rfl); (rintro _ rfl); intro K hK; have x3 := hS.1.cell 3 (v := .int .i64 r) rfl; have x4 := hS.1.cell 4 (v := .int .i64 c) rfl; first | (refine Free.run_yes (by rfl) ?_; go_simp; refine Free.o hK hS ?_; exact rfl) | (refine Free.run_no (by rfl) (Free.o hK hS ?_); exact rfl)
      refine Free.cons ?_ ?_
      · intro w' hS; (rintro _ rfl); (rintro _ rfl); intro K hK; have x3 := hS.1.cell 3 (v := .int .i64 r) rfl; have x4 := hS.1.cell 4 (v := .int .i64 c) rfl; first | (refine Free.run_yes (by rfl) ?_; go_simp; refine Free.o hK hS ?_; exact rfl) | (refine Free.run_no (by rfl) (Free.o hK hS ?_); exact rfl)
      refine Free.cons ?_ ?_
      · intro w' hS; (rintro _ rfl); (rintro _ rfl); intro K hK; have x3 := hS.1.cell 3 (v := .int .i64 r) rfl; have x4 := hS.1.cell 4 (v := .int .i64 c) rfl; first | (refine Free.run_yes (by rfl) ?_; go_simp; refine Free.o hK hS ?_; exact rfl) | (refine Free.run_no (by rfl) (Free.o hK hS ?_); exact rfl)
      refine Free.cons ?_ ?_
      · intro w' hS; (rintro _ rfl); intro K hK; have x3 := hS.1.cell 3 (v := .int .i64 r) rfl; have x4 := hS.1.cell 4 (v := .int .i64 c) rfl; first | (refine Free.run_yes (by rfl) ?_; go_simp; refine Free.o hK hS ?_; exact rfl) | (refine Free.run_no (by rfl) (Free.o hK hS ?_); exact rfl)
      refine Free.cons ?_ ?_
      · intro w' hS; (rintro _ rfl); intro K hK; have x3 := hS.1.cell 3 (v := .int .i64 r) rfl; have x4 := hS.1.cell 4 (v := .int .i64 c) rfl; first | (refine Free.run_yes (by rfl) ?_; go_simp; refine Free.o hK hS ?_; exact rfl) | (refine Free.run_no (by rfl) (Free.o hK hS ?_); exact rfl)
      exact Free.nil
      clear hvo
      intro w' hS; intro v0; intro v1; intro v2; intro v3; intro v4; intro v5; intro v6; intro v7; intro v8; intro v9; intro v10; intro v11; intro v12; intro v13; intro v14; intro v15; (rintro _ rfl); (rintro _ rfl); (try simp only [Act.put, List.setIfInBounds_toArray, List.set_cons_zero, List.set_cons_succ]); refine Free.toldE_nil ?_
      have hX := hS.1
      have bb := hS.2
      clear hS hX0 bb0 keep
      have x0 := hX.cell 0 (v := .int .i64 k) rfl
      have x1 := hX.cell 1 (v := .int .i64 n) rfl
      have x2 := hX.cell 2 (v := .string s) rfl
      have x3 := hX.cell 3 (v := .int .i64 r) rfl
      have x4 := hX.cell 4 (v := .int .i64 c) rfl
      by_cases k1 : k = 1
      · subst k1
        go_wp2
        all_goals (go_ret; exact ⟨by rewrite [← hb.out]; simp [noS, *], bb⟩)
      have f1 : (k == 1) = false := by rw [beq_eq_false_iff_ne]; exact k1
      by_cases k2 : k = 2
      · subst k2
        go_wp2
        all_goals (go_ret; exact ⟨by rewrite [← hb.out]; simp [noS, *], bb⟩)
      have f2 : (k == 2) = false := by rw [beq_eq_false_iff_ne]; exact k2
      by_cases k3 : k = 3
      · subst k3
        go_wp2
        all_goals (go_ret; exact ⟨by rewrite [← hb.out]; simp [noS, *], bb⟩)
      have f3 : (k == 3) = false := by rw [beq_eq_false_iff_ne]; exact k3
      by_cases k4 : k = 4
      · subst k4
        go_wp2
        all_goals (go_ret; exact ⟨by rewrite [← hb.out]; simp [noS, *], bb⟩)
      have f4 : (k == 4) = false := by rw [beq_eq_false_iff_ne]; exact k4
      by_cases k5 : k = 5
      · subst k5
        go_wp2
        all_goals (go_ret; exact ⟨by rewrite [← hb.out]; simp [noS, *], bb⟩)
      have f5 : (k == 5) = false := by rw [beq_eq_false_iff_ne]; exact k5
      go_wp2
      all_goals (go_ret; exact ⟨by rewrite [← hb.out]; simp [noS, *], bb⟩)
    · have hp : inR r 0 3 = true := by simp [inR]; omega
      have hq : inR c 0 3 = true := by simp [inR]; omega
      rw [hp, hq] at hb
      have hb := Lib.hid hb
      have r1 : decide (0 ≤ r) = true := decide_eq_true (by omega); have r2 : decide (r < 4) = true := decide_eq_true (by omega)
      have c1 : decide (0 ≤ c) = true := decide_eq_true (by omega); have c2 : decide (c < 4) = true := decide_eq_true (by omega)
      clear hp hq
      go_enter Try.func96, Try.ntmps96
      go_wp2_with fail
      generalize w.alloc (.cells #[.int .i64 k, .int .i64 n, .string s, .int .i64 r, .int .i64 c] 67) = W1 at *
      have keep := fun {w' w'' : World} (h : Blk w' w.heap.size #[.int .i64 k, .int .i64 n, .string s, .int .i64 r, .int .i64 c] 67 ∧ Below w.heap.size w w') (hb : Below w'.heap.size w' w'') => (⟨h.1.below hb h.1.lt, bnext h.2 hb⟩ : Blk w'' w.heap.size #[.int .i64 k, .int .i64 n, .string s, .int .i64 r, .int .i64 c] 67 ∧ Below w.heap.size w w'')
      have hvo := Free.val
      refine Free.wp_facts (M := [0, 1, 3, 7, 15, 31, 63, 127, 0, 256, 768, 1807, 3855, 7951, 16143, 32527, 4095, 131071]) (D := [[], [(0, 5)], [(1, 6)], [(2, 7)], [(3, 8)], [(4, 9), (3, 8)], [(5, 10), (3, 8)], [(3, 8), (6, 11)], [], [(8, 13)], [(9, 14)], [(10, 15)], [(11, 16)], [(12, 17), (11, 16)], [(13, 18), (11, 16)], [(11, 16), (14, 19)], [(7, 12)], [(15, 20)]]) (outs := [16, 17]) (soles := []) (E := [(0, 5, false), (1, 6, false), (2, 7, false), (3, 8, false), (4, 9, false), (5, 10, false), (6, 11, false), (7, 12, false), (8, 13, false), (9, 14, false), (10, 15, false), (11, 16, false), (12, 17, false), (13, 18, false), (14, 19, false), (15, 20, false), (16, 3, true), (17, 4, true)]) (N := 104) (S := (fun w' => Blk w' w.heap.size #[.int .i64 k, .int .i64 n, .string s, .int .i64 r, .int .i64 c] 67 ∧ Below w.heap.size w w')) [Free.Fact.is ?_, Free.Fact.is ?_, Free.Fact.is ?_, Free.Fact.is ?_, Free.Fact.is ?_, Free.Fact.is ?_, Free.Fact.is ?_, Free.Fact.is ?_, Free.Fact.is ?_, Free.Fact.is ?_, Free.Fact.is ?_, Free.Fact.is ?_, Free.Fact.is ?_, Free.Fact.is ?_, Free.Fact.is ?_, Free.Fact.is ?_, Free.Fact.is ?_, Free.Fact.is ?_] (by kernel_rfl) (by kernel_rfl) rfl (⟨hX0.drew, bb0.drew⟩) ?_ ?_
      rotate_left 18
      refine Free.cons ?_ ?_
      · intro w' hS; intro K hK; have x3 := hS.1.cell 3 (v := .int .i64 r) rfl; have x4 := hS.1.cell 4 (v := .int .i64 c) rfl; first | (refine Free.run_yes (by rfl) ?_; go_simp; refine Free.o hK hS ?_; exact rfl) | (refine Free.run_no (by rfl) (Free.o hK hS ?_); exact rfl)
      refine Free.cons ?_ ?_
      · intro w' hS; (rintro _ rfl); intro K hK; have x3 := hS.1.cell 3 (v := .int .i64 r) rfl; have x4 := hS.1.cell 4 (v := .int .i64 c) rfl; first | (refine Free.run_yes (by rfl) ?_; go_simp; refine Free.o hK hS ?_; exact rfl) | (refine Free.run_no (by rfl) (Free.o hK hS ?_); exact rfl)
      refine Free.cons ?_ ?_
      · intro w' hS; (rintro _ rfl); intro K hK; have x3 := hS.1.cell 3 (v := .int .i64 r) rfl; have x4 := hS.1.cell 4 (v := .int .i64 c) rfl; first | (refine Free.run_yes (by rfl) ?_; go_simp; refine Free.o hK hS ?_; exact rfl) | (refine Free.run_no (by rfl) (Free.o hK hS ?_); exact rfl)
      refine Free.cons ?_ ?_
      · intro w' hS; (rintro _ rfl); intro K hK; have x3 := hS.1.cell 3 (v := .int .i64 r) rfl; have x4 := hS.1.cell 4 (v := .int .i64 c) rfl; first | (refine Free.run_yes (by rfl) ?_; go_simp; refine Free.o hK hS ?_; exact rfl) | (refine Free.run_no (by rfl) (Free.o hK hS ?_); exact rfl)
      refine Free.cons ?_ ?_
      · intro w' hS; (rintro _ rfl); intro K hK; have x3 := hS.1.cell 3 (v := .int .i64 r) rfl; have x4 := hS.1.cell 4 (v := .int .i64 c) rfl; first | (refine Free.run_yes (by rfl) ?_; go_simp; refine Free.o hK hS ?_; exact rfl) | (refine Free.run_no (by rfl) (Free.o hK hS ?_); exact rfl)
      refine Free.cons ?_ ?_
      · intro w' hS; (rintro _ rfl); (rintro _ rfl); intro K hK; have x3 := hS.1.cell 3 (v := .int .i64 r) rfl; have x4 := hS.1.cell 4 (v := .int .i64 c) rfl; first | (refine Free.run_yes (by rfl) ?_; go_simp; refine Free.o hK hS ?_; exact rfl) | (refine Free.run_no (by rfl) (Free.o hK hS ?_); exact rfl)
      refine Free.cons ?_ ?_
      · intro w' hS; (rintro _ rfl); (rintro _ rfl); intro K hK; have x3 := hS.1.cell 3 (v := .int .i64 r) rfl; have x4 := hS.1.cell 4 (v := .int .i64 c) rfl; first | (refine Free.run_yes (by rfl) ?_; go_simp; refine Free.o hK hS ?_; exact rfl) | (refine Free.run_no (by rfl) (Free.o hK hS ?_); exact rfl)
      refine Free.cons ?_ ?_
      · intro w' hS; (rintro _ rfl); (rintro _ rfl); intro K hK; have x3 := hS.1.cell 3 (v := .int .i64 r) rfl; have x4 := hS.1.cell 4 (v := .int .i64 c) rfl; first | (refine Free.run_yes (by rfl) ?_; go_simp; refine Free.o hK hS ?_; exact rfl) | (refine Free.run_no (by rfl) (Free.o hK hS ?_); exact rfl)
      refine Free.cons ?_ ?_
      · intro w' hS; intro K hK; have x3 := hS.1.cell 3 (v := .int .i64 r) rfl; have x4 := hS.1.cell 4 (v := .int .i64 c) rfl; first | (refine Free.run_yes (by rfl) ?_; go_simp; refine Free.o hK hS ?_; exact rfl) | (refine Free.run_no (by rfl) (Free.o hK hS ?_); exact rfl)
      refine Free.cons ?_ ?_
      · intro w' hS; (rintro _ rfl); intro K hK; have x3 := hS.1.cell 3 (v := .int .i64 r) rfl; have x4 := hS.1.cell 4 (v := .int .i64 c) rfl; first | (refine Free.run_yes (by rfl) ?_; go_simp; refine Free.o hK hS ?_; exact rfl) | (refine Free.run_no (by rfl) (Free.o hK hS ?_); exact rfl)
      refine Free.cons ?_ ?_
      · intro w' hS; (rintro _ rfl); intro K hK; have x3 := hS.1.cell 3 (v := .int .i64 r) rfl; have x4 := hS.1.cell 4 (v := .int .i64 c) rfl; first | (refine Free.run_yes (by rfl) ?_; go_simp; refine Free.o hK hS ?_; exact rfl) | (refine Free.run_no (by rfl) (Free.o hK hS ?_); exact rfl)
      refine Free.cons ?_ ?_
      · intro w' hS; (rintro _ rfl); intro K hK; have x3 := hS.1.cell 3 (v := .int .i64 r) rfl; have x4 := hS.1.cell 4 (v := .int .i64 c) rfl; first | (refine Free.run_yes (by rfl) ?_; go_simp; refine Free.o hK hS ?_; exact rfl) | (refine Free.run_no (by rfl) (Free.o hK hS ?_); exact rfl)
      refine Free.cons ?_ ?_
      · intro w' hS; (rintro _ rfl); intro K hK; have x3 := hS.1.cell 3 (v := .int .i64 r) rfl; have x4 := hS.1.cell 4 (v := .int .i64 c) rfl; first | (refine Free.run_yes (by rfl) ?_; go_simp; refine Free.o hK hS ?_; exact rfl) | (refine Free.run_no (by rfl) (Free.o hK hS ?_); exact rfl)
      refine Free.cons ?_ ?_
      · intro w' hS; (rintro _ rfl); (rintro _ rfl); intro K hK; have x3 := hS.1.cell 3 (v := .int .i64 r) rfl; have x4 := hS.1.cell 4 (v := .int .i64 c) rfl; first | (refine Free.run_yes (by rfl) ?_; go_simp; refine Free.o hK hS ?_; exact rfl) | (refine Free.run_no (by rfl) (Free.o hK hS ?_); exact rfl)
      refine Free.cons ?_ ?_
      · intro w' hS; (rintro _ rfl); (rintro _ rfl); intro K hK; have x3 := hS.1.cell 3 (v := .int .i64 r) rfl; have x4 := hS.1.cell 4 (v := .int .i64 c) rfl; first | (refine Free.run_yes (by rfl) ?_; go_simp; refine Free.o hK hS ?_; exact rfl) | (refine Free.run_no (by rfl) (Free.o hK hS ?_); exact rfl)
      refine Free.cons ?_ ?_
      · intro w' hS; (rintro _ rfl); (rintro _ rfl); intro K hK; have x3 := hS.1.cell 3 (v := .int .i64 r) rfl; have x4 := hS.1.cell 4 (v := .int .i64 c) rfl; first | (refine Free.run_yes (by rfl) ?_; go_simp; refine Free.o hK hS ?_; exact rfl) | (refine Free.run_no (by rfl) (Free.o hK hS ?_); exact rfl)
      refine Free.cons ?_ ?_
      · intro w' hS; (rintro _ rfl); intro K hK; have x3 := hS.1.cell 3 (v := .int .i64 r) rfl; have x4 := hS.1.cell 4 (v := .int .i64 c) rfl; first | (refine Free.run_yes (by rfl) ?_; go_simp; refine Free.o hK hS ?_; exact rfl) | (refine Free.run_no (by rfl) (Free.o hK hS ?_); exact rfl)
      refine Free.cons ?_ ?_
      · intro w' hS; (rintro _ rfl); intro K hK; have x3 := hS.1.cell 3 (v := .int .i64 r) rfl; have x4 := hS.1.cell 4 (v := .int .i64 c) rfl; first | (refine Free.run_yes (by rfl) ?_; go_simp; refine Free.o hK hS ?_; exact rfl) | (refine Free.run_no (by rfl) (Free.o hK hS ?_); exact rfl)
      exact Free.nil
      clear hvo
      intro w' hS; intro v0; intro v1; intro v2; intro v3; intro v4; intro v5; intro v6; intro v7; intro v8; intro v9; intro v10; intro v11; intro v12; intro v13; intro v14; intro v15; (rintro _ rfl); (rintro _ rfl); (try simp only [Act.put, List.setIfInBounds_toArray, List.set_cons_zero, List.set_cons_succ]); refine Free.toldE_nil ?_
      have hX := hS.1
      have bb := hS.2
      clear hS hX0 bb0 keep
      have x0 := hX.cell 0 (v := .int .i64 k) rfl
      have x1 := hX.cell 1 (v := .int .i64 n) rfl
      have x2 := hX.cell 2 (v := .string s) rfl
      have x3 := hX.cell 3 (v := .int .i64 r) rfl
      have x4 := hX.cell 4 (v := .int .i64 c) rfl
      by_cases k1 : k = 1
      · subst k1
        go_wp2
        all_goals (go_ret; exact ⟨by rewrite [← hb.out]; simp [noS, *], bb⟩)
      have f1 : (k == 1) = false := by rw [beq_eq_false_iff_ne]; exact k1
      by_cases k2 : k = 2
      · subst k2
        go_wp2
        all_goals (go_ret; exact ⟨by rewrite [← hb.out]; simp [noS, *], bb⟩)
      have f2 : (k == 2) = false := by rw [beq_eq_false_iff_ne]; exact k2
      by_cases k3 : k = 3
      · subst k3
        go_wp2
        all_goals (go_ret; exact ⟨by rewrite [← hb.out]; simp [noS, *], bb⟩)
      have f3 : (k == 3) = false := by rw [beq_eq_false_iff_ne]; exact k3
      by_cases k4 : k = 4
      · subst k4
        go_wp2
        all_goals (go_ret; exact ⟨by rewrite [← hb.out]; simp [noS, *], bb⟩)
      have f4 : (k == 4) = false := by rw [beq_eq_false_iff_ne]; exact k4
      by_cases k5 : k = 5
      · subst k5
        go_wp2
        all_goals (go_ret; exact ⟨by rewrite [← hb.out]; simp [noS, *], bb⟩)
      have f5 : (k == 5) = false := by rw [beq_eq_false_iff_ne]; exact k5
      go_wp2
      all_goals (go_ret; exact ⟨by rewrite [← hb.out]; simp [noS, *], bb⟩)
    · have hp : inR r 0 3 = true := by simp [inR]; omega
      have hq : inR c 0 3 = false := by simp [inR]; omega
      rw [hp, hq] at hb
      have hb := Lib.hid hb
      have r1 : decide (0 ≤ r) = true := decide_eq_true (by omega); have r2 : decide (r < 4) = true := decide_eq_true (by omega)
      have c1 : decide (0 ≤ c) = true := decide_eq_true (by omega); have c2 : decide (c < 4) = false := decide_eq_false (by omega)
      clear hp hq
      go_enter Try.func96, Try.ntmps96
      go_wp2_with fail
      generalize w.alloc (.cells #[.int .i64 k, .int .i64 n, .string s, .int .i64 r, .int .i64 c] 67) = W1 at *
      have keep := fun {w' w'' : World} (h : Blk w' w.heap.size #[.int .i64 k, .int .i64 n, .string s, .int .i64 r, .int .i64 c] 67 ∧ Below w.heap.size w w') (hb : Below w'.heap.size w' w'') => (⟨h.1.below hb h.1.lt, bnext h.2 hb⟩ : Blk w'' w.heap.size #[.int .i64 k, .int .i64 n, .string s, .int .i64 r, .int .i64 c] 67 ∧ Below w.heap.size w w'')
      have hvo := Free.val
      refine Free.wp_facts (M := [0, 1, 3, 7, 15, 31, 63, 127, 0, 256, 768, 1807, 3855, 7951, 16143, 32527, 4095, 131071]) (D := [[], [(0, 5)], [(1, 6)], [(2, 7)], [(3, 8)], [(4, 9), (3, 8)], [(5, 10), (3, 8)], [(3, 8), (6, 11)], [], [(8, 13)], [(9, 14)], [(10, 15)], [(11, 16)], [(12, 17), (11, 16)], [(13, 18), (11, 16)], [(11, 16), (14, 19)], [(7, 12)], [(15, 20)]]) (outs := [16, 17]) (soles := []) (E := [(0, 5, false), (1, 6, false), (2, 7, false), (3, 8, false), (4, 9, false), (5, 10, false), (6, 11, false), (7, 12, false), (8, 13, false), (9, 14, false), (10, 15, false), (11, 16, false), (12, 17, false), (13, 18, false), (14, 19, false), (15, 20, false), (16, 3, true), (17, 4, true)]) (N := 104) (S := (fun w' => Blk w' w.heap.size #[.int .i64 k, .int .i64 n, .string s, .int .i64 r, .int .i64 c] 67 ∧ Below w.heap.size w w')) [Free.Fact.is ?_, Free.Fact.is ?_, Free.Fact.is ?_, Free.Fact.is ?_, Free.Fact.is ?_, Free.Fact.is ?_, Free.Fact.is ?_, Free.Fact.is ?_, Free.Fact.is ?_, Free.Fact.is ?_, Free.Fact.is ?_, Free.Fact.is ?_, Free.Fact.is ?_, Free.Fact.is ?_, Free.Fact.is ?_, Free.Fact.is ?_, Free.Fact.is ?_, Free.Fact.is ?_] (by kernel_rfl) (by kernel_rfl) rfl (⟨hX0.drew, bb0.drew⟩) ?_ ?_
      rotate_left 18
      refine Free.cons ?_ ?_
      · intro w' hS; intro K hK; have x3 := hS.1.cell 3 (v := .int .i64 r) rfl; have x4 := hS.1.cell 4 (v := .int .i64 c) rfl; first | (refine Free.run_yes (by rfl) ?_; go_simp; refine Free.o hK hS ?_; exact rfl) | (refine Free.run_no (by rfl) (Free.o hK hS ?_); exact rfl)
      refine Free.cons ?_ ?_
      · intro w' hS; (rintro _ rfl); intro K hK; have x3 := hS.1.cell 3 (v := .int .i64 r) rfl; have x4 := hS.1.cell 4 (v := .int .i64 c) rfl; first | (refine Free.run_yes (by rfl) ?_; go_simp; refine Free.o hK hS ?_; exact rfl) | (refine Free.run_no (by rfl) (Free.o hK hS ?_); exact rfl)
      refine Free.cons ?_ ?_
      · intro w' hS; (rintro _ rfl); intro K hK; have x3 := hS.1.cell 3 (v := .int .i64 r) rfl; have x4 := hS.1.cell 4 (v := .int .i64 c) rfl; first | (refine Free.run_yes (by rfl) ?_; go_simp; refine Free.o hK hS ?_; exact rfl) | (refine Free.run_no (by rfl) (Free.o hK hS ?_); exact rfl)
      refine Free.cons ?_ ?_
      · intro w' hS; (rintro _ rfl); intro K hK; have x3 := hS.1.cell 3 (v := .int .i64 r) rfl; have x4 := hS.1.cell 4 (v := .int .i64 c) rfl; first | (refine Free.run_yes (by rfl) ?_; go_simp; refine Free.o hK hS ?_; exact rfl) | (refine Free.run_no (by rfl) (Free.o hK hS ?_); exact rfl)
      refine Free.cons ?_ ?_
      · intro w' hS; (rintro _ rfl); intro K hK; have x3 := hS.1.cell 3 (v := .int .i64 r) rfl; have x4 := hS.1.cell 4 (v := .int .i64 c) rfl; first | (refine Free.run_yes (by rfl) ?_; go_simp; refine Free.o hK hS ?_; exact rfl) | (refine Free.run_no (by rfl) (Free.o hK hS ?_); exact rfl)
      refine Free.cons ?_ ?_
      · intro w' hS; (rintro _ rfl); (rintro _ rfl); intro K hK; have x3 := hS.1.cell 3 (v := .int .i64 r) rfl; have x4 := hS.1.cell 4 (v := .int .i64 c) rfl; first | (refine Free.run_yes (by rfl) ?_; go_simp; refine Free.o hK hS ?_; exact rfl) | (refine Free.run_no (by rfl) (Free.o hK hS ?_); exact rfl)
      refine Free.cons ?_ ?_
      · intro w' hS; (rintro _ rfl); (rintro _ rfl); intro K hK; have x3 := hS.1.cell 3 (v := .int .i64 r) rfl; have x4 := hS.1.cell 4 (v := .int .i64 c) rfl; first | (refine Free.run_yes (by rfl) ?_; go_simp; refine Free.o hK hS ?_; exact rfl) | (refine Free.run_no (by rfl) (Free.o hK hS ?_); exact rfl)
      refine Free.cons ?_ ?_
      · intro w' hS; (rintro _ rfl); (rintro _ rfl); intro K hK; have x3 := hS.1.cell 3 (v := .int .i64 r) rfl; have x4 := hS.1.cell 4 (v := .int .i64 c) rfl; first | (refine Free.run_yes (by rfl) ?_; go_simp; refine Free.o hK hS ?_; exact rfl) | (refine Free.run_no (by rfl) (Free.o hK hS ?_); exact rfl)
      refine Free.cons ?_ ?_
      · intro w' hS; intro K hK; have x3 := hS.1.cell 3 (v := .int .i64 r) rfl; have x4 := hS.1.cell 4 (v := .int .i64 c) rfl; first | (refine Free.run_yes (by rfl) ?_; go_simp; refine Free.o hK hS ?_; exact rfl) | (refine Free.run_no (by rfl) (Free.o hK hS ?_); exact rfl)
      refine Free.cons ?_ ?_
      · intro w' hS; (rintro _ rfl); intro K hK; have x3 := hS.1.cell 3 (v := .int .i64 r) rfl; have x4 := hS.1.cell 4 (v := .int .i64 c) rfl; first | (refine Free.run_yes (by rfl) ?_; go_simp; refine Free.o hK hS ?_; exact rfl) | (refine Free.run_no (by rfl) (Free.o hK hS ?_); exact rfl)
      refine Free.cons ?_ ?_
      · intro w' hS; (rintro _ rfl); intro K hK; have x3 := hS.1.cell 3 (v := .int .i64 r) rfl; have x4 := hS.1.cell 4 (v := .int .i64 c) rfl; first | (refine Free.run_yes (by rfl) ?_; go_simp; refine Free.o hK hS ?_; exact rfl) | (refine Free.run_no (by rfl) (Free.o hK hS ?_); exact rfl)
      refine Free.cons ?_ ?_
      · intro w' hS; (rintro _ rfl); intro K hK; have x3 := hS.1.cell 3 (v := .int .i64 r) rfl; have x4 := hS.1.cell 4 (v := .int .i64 c) rfl; first | (refine Free.run_yes (by rfl) ?_; go_simp; refine Free.o hK hS ?_; exact rfl) | (refine Free.run_no (by rfl) (Free.o hK hS ?_); exact rfl)
      refine Free.cons ?_ ?_
      · intro w' hS; (rintro _ rfl); intro K hK; have x3 := hS.1.cell 3 (v := .int .i64 r) rfl; have x4 := hS.1.cell 4 (v := .int .i64 c) rfl; first | (refine Free.run_yes (by rfl) ?_; go_simp; refine Free.o hK hS ?_; exact rfl) | (refine Free.run_no (by rfl) (Free.o hK hS ?_); exact rfl)
      refine Free.cons ?_ ?_
      · intro w' hS; (rintro _ rfl); (rintro _ rfl); intro K hK; have x3 := hS.1.cell 3 (v := .int .i64 r) rfl; have x4 := hS.1.cell 4 (v := .int .i64 c) rfl; first | (refine Free.run_yes (by rfl) ?_; go_simp; refine Free.o hK hS ?_; exact rfl) | (refine Free.run_no (by rfl) (Free.o hK hS ?_); exact rfl)
      refine Free.cons ?_ ?_
      · intro w' hS; (rintro _ rfl); (rintro _ rfl); intro K hK; have x3 := hS.1.cell 3 (v := .int .i64 r) rfl; have x4 := hS.1.cell 4 (v := .int .i64 c) rfl; first | (refine Free.run_yes (by rfl) ?_; go_simp; refine Free.o hK hS ?_; exact rfl) | (refine Free.run_no (by rfl) (Free.o hK hS ?_); exact rfl)
      refine Free.cons ?_ ?_
      · intro w' hS; (rintro _ rfl); (rintro _ rfl); intro K hK; have x3 := hS.1.cell 3 (v := .int .i64 r) rfl; have x4 := hS.1.cell 4 (v := .int .i64 c) rfl; first | (refine Free.run_yes (by rfl) ?_; go_simp; refine Free.o hK hS ?_; exact rfl) | (refine Free.run_no (by rfl) (Free.o hK hS ?_); exact rfl)
      refine Free.cons ?_ ?_
      · intro w' hS; (rintro _ rfl); intro K hK; have x3 := hS.1.cell 3 (v := .int .i64 r) rfl; have x4 := hS.1.cell 4 (v := .int .i64 c) rfl; first | (refine Free.run_yes (by rfl) ?_; go_simp; refine Free.o hK hS ?_; exact rfl) | (refine Free.run_no (by rfl) (Free.o hK hS ?_); exact rfl)
      refine Free.cons ?_ ?_
      · intro w' hS; (rintro _ rfl); intro K hK; have x3 := hS.1.cell 3 (v := .int .i64 r) rfl; have x4 := hS.1.cell 4 (v := .int .i64 c) rfl; first | (refine Free.run_yes (by rfl) ?_; go_simp; refine Free.o hK hS ?_; exact rfl) | (refine Free.run_no (by rfl) (Free.o hK hS ?_); exact rfl)
      exact Free.nil
      clear hvo
      intro w' hS; intro v0; intro v1; intro v2; intro v3; intro v4; intro v5; intro v6; intro v7; intro v8; intro v9; intro v10; intro v11; intro v12; intro v13; intro v14; intro v15; (rintro _ rfl); (rintro _ rfl); (try simp only [Act.put, List.setIfInBounds_toArray, List.set_cons_zero, List.set_cons_succ]); refine Free.toldE_nil ?_
      have hX := hS.1
      have bb := hS.2
      clear hS hX0 bb0 keep
      have x0 := hX.cell 0 (v := .int .i64 k) rfl
      have x1 := hX.cell 1 (v := .int .i64 n) rfl
      have x2 := hX.cell 2 (v := .string s) rfl
      have x3 := hX.cell 3 (v := .int .i64 r) rfl
      have x4 := hX.cell 4 (v := .int .i64 c) rfl
      by_cases k1 : k = 1
      · subst k1
        go_wp2
        all_goals (go_ret; exact ⟨by rewrite [← hb.out]; simp [noS, *], bb⟩)
      have f1 : (k == 1) = false := by rw [beq_eq_false_iff_ne]; exact k1
      by_cases k2 : k = 2
      · subst k2
        go_wp2
        all_goals (go_ret; exact ⟨by rewrite [← hb.out]; simp [noS, *], bb⟩)
      have f2 : (k == 2) = false := by rw [beq_eq_false_iff_ne]; exact k2
      by_cases k3 : k = 3
      · subst k3
        go_wp2
        all_goals (go_ret; exact ⟨by rewrite [← hb.out]; simp [noS, *], bb⟩)
      have f3 : (k == 3) = false := by rw [beq_eq_false_iff_ne]; exact k3
      by_cases k4 : k = 4
      · subst k4
        go_wp2
        all_goals (go_ret; exact ⟨by rewrite [← hb.out]; simp [noS, *], bb⟩)
      have f4 : (k == 4) = false := by rw [beq_eq_false_iff_ne]; exact k4
      by_cases k5 : k = 5
      · subst k5
        go_wp2
        all_goals (go_ret; exact ⟨by rewrite [← hb.out]; simp [noS, *], bb⟩)
      have f5 : (k == 5) = false := by rw [beq_eq_false_iff_ne]; exact k5
      go_wp2
      all_goals (go_ret; exact ⟨by rewrite [← hb.out]; simp [noS, *], bb⟩)
  · rcases hc with hc | hc | hc
    · have hp : inR r 0 3 = false := by simp [inR]; omega
      have hq : inR c 0 3 = false := by simp [inR]; omega
      rw [hp, hq] at hb
      have hb := Lib.hid hb
      have r1 : decide (0 ≤ r) = true := decide_eq_true (by omega); have r2 : decide (r < 4) = false := decide_eq_false (by omega)
      have c1 : decide (0 ≤ c) = false := decide_eq_false (by omega)
      clear hp hq
      go_enter Try.func96, Try.ntmps96
      go_wp2_with fail
      generalize w.alloc (.cells #[.int .i64 k, .int .i64 n, .string s, .int .i64 r, .int .i64 c] 67) = W1 at *
      have keep := fun {w' w'' : World} (h : Blk w' w.heap.size #[.int .i64 k, .int .i64 n, .string s, .int .i64 r, .int .i64 c] 67 ∧ Below w.heap.size w w') (hb : Below w'.heap.size w' w'') => (⟨h.1.below hb h.1.lt, bnext h.2 hb⟩ : Blk w'' w.heap.size #[.int .i64 k, .int .i64 n, .string s, .int .i64 r, .int .i64 c] 67 ∧ Below w.heap.size w w'')
      have hvo := Free.val
      refine Free.wp_facts (M := [0, 1, 3, 7, 15, 31, 63, 127, 0, 256, 768, 1807, 3855, 7951, 16143, 32527, 4095, 131071]) (D := [[], [(0, 5)], [(1, 6)], [(2, 7)], [(3, 8)], [(4, 9), (3, 8)], [(5, 10), (3, 8)], [(3, 8), (6, 11)], [], [(8, 13)], [(9, 14)], [(10, 15)], [(11, 16)], [(12, 17), (11, 16)], [(13, 18), (11, 16)], [(11, 16), (14, 19)], [(7, 12)], [(15, 20)]]) (outs := [16, 17]) (soles := []) (E := [(0, 5, false), (1, 6, false), (2, 7, false), (3, 8, false), (4, 9, false), (5, 10, false), (6, 11, false), (7, 12, false), (8, 13, false), (9, 14, false), (10, 15, false), (11, 16, false), (12, 17, false), (13, 18, false), (14, 19, false), (15, 20, false), (16, 3, true), (17, 4, true)]) (N := 104) (S := (fun w' => Blk w' w.heap.size #[.int .i64 k, .int .i64 n, .string s, .int .i64 r, .int .i64 c] 67 ∧ Below w.heap.size w w')) [Free.Fact.is ?_, Free.Fact.is ?_, Free.Fact.is ?_, Free.Fact.is ?_, Free.Fact.is ?_, Free.Fact.is ?_, Free.Fact.is ?_, Free.Fact.is ?_, Free.Fact.is ?_, Free.Fact.is ?_, Free.Fact.is ?_, Free.Fact.is ?_, Free.Fact.is ?_, Free.Fact.is ?_, Free.Fact.is ?_, Free.Fact.is ?_, Free.Fact.is ?_, Free.Fact.is ?_] (by kernel_rfl) (by kernel_rfl) rfl (⟨hX0.drew, bb0.drew⟩) ?_ ?_
      rotate_left 18
      refine Free.cons ?_ ?_
      · intro w' hS; intro K hK; have x3 := hS.1.cell 3 (v := .int .i64 r) rfl; have x4 := hS.1.cell 4 (v := .int .i64 c) rfl; first | (refine Free.run_yes (by rfl) ?_; go_simp; refine Free.o hK hS ?_; exact rfl) | (refine Free.run_no (by rfl) (Free.o hK hS ?_); exact rfl)
      refine Free.cons ?_ ?_
      · intro w' hS; (rintro _ rfl); intro K hK; have x3 := hS.1.cell 3 (v := .int .i64 r) rfl; have x4 := hS.1.cell 4 (v := .int .i64 c) rfl; first | (refine Free.run_yes (by rfl) ?_; go_simp; refine Free.o hK hS ?_; exact rfl) | (refine Free.run_no (by rfl) (Free.o hK hS ?_); exact rfl)
      refine Free.cons ?_ ?_
      · intro w' hS; (rintro _ rfl); intro K hK; have x3 := hS.1.cell 3 (v := .int .i64 r) rfl; have x4 := hS.1.cell 4 (v := .int .i64 c) rfl; first | (refine Free.run_yes (by rfl) ?_; go_simp; refine Free.o hK hS ?_; exact rfl) | (refine Free.run_no (by rfl) (Free.o hK hS ?_); exact rfl)
      refine Free.cons ?_ ?_
      · intro w' hS; (rintro _ rfl); intro K hK; have x3 := hS.1.cell 3 (v := .int .i64 r) rfl; have x4 := hS.1.cell 4 (v := .int .i64 c) rfl; first | (refine Free.run_yes (by rfl) ?_; go_simp; refine Free.o hK hS ?_; exact rfl) | (refine Free.run_no (by rfl) (Free.o hK hS ?_); exact rfl)
      refine Free.cons ?_ ?_
      · intro w' hS; (rintro _ rfl); intro K hK; have x3 := hS.1.cell 3 (v := .int .i64 r) rfl; have x4 := hS.1.cell 4 (v := .int .i64 c) rfl; first | (refine Free.run_yes (by rfl) ?_; go_simp; refine Free.o hK hS ?_; exact rfl) | (refine Free.run_no (by rfl) (Free.o hK hS ?_); exact rfl)
      refine Free.cons ?_ ?_
      · intro w' hS; (rintro _ rfl); (rintro _ rfl); intro K hK; have x3 := hS.1.cell 3 (v := .int .i64 r) rfl; have x4 := hS.1.cell 4 (v := .int .i64 c) rfl; first | (refine Free.run_yes (by rfl) ?_; go_simp; refine Free.o hK hS ?_; exact rfl) | (refine Free.run_no (by rfl) (Free.o hK hS ?_); exact rfl)
      refine Free.cons ?_ ?_
      · intro w' hS; (rintro _ rfl); (rintro _ rfl); intro K hK; have x3 := hS.1.cell 3 (v := .int .i64 r) rfl; have x4 := hS.1.cell 4 (v := .int .i64 c) rfl; first | (refine Free.run_yes (by rfl) ?_; go_simp; refine Free.o hK hS ?_; exact rfl) | (refine Free.run_no (by rfl) (Free.o hK hS ?_); exact rfl)
      refine Free.cons ?_ ?_
      · intro w' hS; (rintro _ rfl); (rintro _ rfl); intro K hK; have x3 := hS.1.cell 3 (v := .int .i64 r) rfl; have x4 := hS.1.cell 4 (v := .int .i64 c) rfl; first | (refine Free.run_yes (by rfl) ?_; go_simp; refine Free.o hK hS ?_; exact rfl) | (refine Free.run_no (by rfl) (Free.o hK hS ?_); exact rfl)
      refine Free.cons ?_ ?_
      · intro w' hS; intro K hK; have x3 := hS.1.cell 3 (v := .int .i64 r) rfl; have x4 := hS.1.cell 4 (v := .int .i64 c) rfl; first | (refine Free.run_yes (by rfl) ?_; go_simp; refine Free.o hK hS ?_; exact rfl) | (refine Free.run_no (by rfl) (Free.o hK hS ?_); exact rfl)
      refine Free.cons ?_ ?_
      · intro w' hS; (rintro _ rfl); intro K hK; have x3 := hS.1.cell 3 (v := .int .i64 r) rfl; have x4 := hS.1.cell 4 (v := .int .i64 c) rfl; first | (refine Free.run_yes (by rfl) ?_; go_simp; refine Free.o hK hS ?_; exact rfl) | (refine Free.run_no (by rfl) (Free.o hK hS ?_); exact rfl)
      refine Free.cons ?_ ?_
      · intro w' hS; (rintro _ rfl); intro K hK; have x3 := hS.1.cell 3 (v := .int .i64 r) rfl; have x4 := hS.1.cell 4 (v := .int .i64 c) rfl; first | (refine Free.run_yes (by rfl) ?_; go_simp; refine Free.o hK hS ?_; exact rfl) | (refine Free.run_no (by rfl) (Free.o hK hS ?_); exact rfl)
      refine Free.cons ?_ ?_
      · intro w' hS; (rintro _ rfl); intro K hK; have x3 := hS.1.cell 3 (v := .int .i64 r) rfl; have x4 := hS.1.cell 4 (v := .int .i64 c) rfl; first | (refine Free.run_yes (by rfl) ?_; go_simp; refine Free.o hK hS ?_; exact rfl) | (refine Free.run_no (by rfl) (Free.o hK hS ?_); exact rfl)
      refine Free.cons ?_ ?_
      · intro w' hS; (rintro _ rfl); intro K hK; have x3 := hS.1.cell 3 (v := .int .i64 r) rfl; have x4 := hS.1.cell 4 (v := .int .i64 c) rfl; first | (refine Free.run_yes (by rfl) ?_; go_simp; refine Free.o hK hS ?_; exact rfl) | (refine Free.run_no (by rfl) (Free.o hK hS ?_); exact rfl)
      refine Free.cons ?_ ?_
      · intro w' hS; (rintro _ rfl); (rintro _ rfl); intro K hK; have x3 := hS.1.cell 3 (v := .int .i64 r) rfl; have x4 := hS.1.cell 4 (v := .int .i64 c) rfl; first | (refine Free.run_yes (by rfl) ?_; go_simp; refine Free.o hK hS ?_; exact rfl) | (refine Free.run_no (by rfl) (Free.o hK hS ?_); exact rfl)
      refine Free.cons ?_ ?_
      · intro w' hS; (rintro _ rfl); (rintro _ rfl); intro K hK; have x3 := hS.1.cell 3 (v := .int .i64 r) rfl; have x4 := hS.1.cell 4 (v := .int .i64 c) rfl; first | (refine Free.run_yes (by rfl) ?_; go_simp; refine Free.o hK hS ?_; exact rfl) | (refine Free.run_no (by rfl) (Free.o hK hS ?_); exact rfl)
      refine Free.cons ?_ ?_
      · intro w' hS; (rintro _ rfl); (rintro _ rfl); intro K hK; have x3 := hS.1.cell 3 (v := .int .i64 r) rfl; have x4 := hS.1.cell 4 (v := .int .i64 c) rfl; first | (refine Free.run_yes (by rfl) ?_; go_simp; refine Free.o hK hS ?_; exact rfl) | (refine Free.run_no (by rfl) (Free.o hK hS ?_); exact rfl)
      refine Free.cons ?_ ?_
      · intro w' hS; (rintro _ rfl); intro K hK; have x3 := hS.1.cell 3 (v := .int .i64 r) rfl; have x4 := hS.1.cell 4 (v := .int .i64 c) rfl; first | (refine Free.run_yes (by rfl) ?_; go_simp; refine Free.o hK hS ?_; exact rfl) | (refine Free.run_no (by rfl) (Free.o hK hS ?_); exact rfl)
      refine Free.cons ?_ ?_
      · intro w' hS; (rintro _ rfl); intro K hK; have x3 := hS.1.cell 3 (v := .int .i64 r) rfl; have x4 := hS.1.cell 4 (v := .int .i64 c) rfl; first | (refine Free.run_yes (by rfl) ?_; go_simp; refine Free.o hK hS ?_; exact rfl) | (refine Free.run_no (by rfl) (Free.o hK hS ?_); exact rfl)
      exact Free.nil
      clear hvo
      intro w' hS; intro v0; intro v1; intro v2; intro v3; intro v4; intro v5; intro v6; intro v7; intro v8; intro v9; intro v10; intro v11; intro v12; intro v13; intro v14; intro v15; (rintro _ rfl); (rintro _ rfl); (try simp only [Act.put, List.setIfInBounds_toArray, List.set_cons_zero, List.set_cons_succ]); refine Free.toldE_nil ?_
      have hX := hS.1
      have bb := hS.2
      clear hS hX0 bb0 keep
      have x0 := hX.cell 0 (v := .int .i64 k) rfl
      have x1 := hX.cell 1 (v := .int .i64 n) rfl
      have x2 := hX.cell 2 (v := .string s) rfl
      have x3 := hX.cell 3 (v := .int .i64 r) rfl
      have x4 := hX.cell 4 (v := .int .i64 c) rfl
      by_cases k1 : k = 1
      · subst k1
        go_wp2
        all_goals (go_ret; exact ⟨by rewrite [← hb.out]; simp [noS, *], bb⟩)
      have f1 : (k == 1) = false := by rw [beq_eq_false_iff_ne]; exact k1
      by_cases k2 : k = 2
      · subst k2
        go_wp2
        all_goals (go_ret; exact ⟨by rewrite [← hb.out]; simp [noS, *], bb⟩)
      have f2 : (k == 2) = false := by rw [beq_eq_false_iff_ne]; exact k2
      by_cases k3 : k = 3
      · subst k3
        go_wp2
        all_goals (go_ret; exact ⟨by rewrite [← hb.out]; simp [noS, *], bb⟩)
      have f3 : (k == 3) = false := by rw [beq_eq_false_iff_ne]; exact k3
      by_cases k4 : k = 4
      · subst k4
        go_wp2
        all_goals (go_ret; exact ⟨by rewrite [← hb.out]; simp [noS, *], bb⟩)
      have f4 : (k == 4) = false := by rw [beq_eq_false_iff_ne]; exact k4
      by_cases k5 : k = 5
      · subst k5
        go_wp2
        all_goals (go_ret; exact ⟨by rewrite [← hb.out]; simp [noS, *], bb⟩)
      have f5 : (k == 5) = false := by rw [beq_eq_false_iff_ne]; exact k5
      go_wp2
      all_goals (go_ret; exact ⟨by rewrite [← hb.out]; simp [noS, *], bb⟩)
    · have hp : inR r 0 3 = false := by simp [inR]; omega
      have hq : inR c 0 3 = true := by simp [inR]; omega
      rw [hp, hq] at hb
      have hb := Lib.hid hb
      have r1 : decide (0 ≤ r) = true := decide_eq_true (by omega); have r2 : decide (r < 4) = false := decide_eq_false (by omega)
      have c1 : decide (0 ≤ c) = true := decide_eq_true (by omega); have c2 : decide (c < 4) = true := decide_eq_true (by omega)
      clear hp hq
      go_enter Try.func96, Try.ntmps96
      go_wp2_with fail
      generalize w.alloc (.cells #[.int .i64 k, .int .i64 n, .string s, .int .i64 r, .int .i64 c] 67) = W1 at *
      have keep := fun {w' w'' : World} (h : Blk w' w.heap.size #[.int .i64 k, .int .i64 n, .string s, .int .i64 r, .int .i64 c] 67 ∧ Below w.heap.size w w') (hb : Below w'.heap.size w' w'') => (⟨h.1.below hb h.1.lt, bnext h.2 hb⟩ : Blk w'' w.heap.size #[.int .i64 k, .int .i64 n, .string s, .int .i64 r, .int .i64 c] 67 ∧ Below w.heap.size w w'')
      have hvo := Free.val
      refine Free.wp_facts (M := [0, 1, 3, 7, 15, 31, 63, 127, 0, 256, 768, 1807, 3855, 7951, 16143, 32527, 4095, 131071]) (D := [[], [(0, 5)], [(1, 6)], [(2, 7)], [(3, 8)], [(4, 9), (3, 8)], [(5, 10), (3, 8)], [(3, 8), (6, 11)], [], [(8, 13)], [(9, 14)], [(10, 15)], [(11, 16)], [(12, 17), (11, 16)], [(13, 18), (11, 16)], [(11, 16), (14, 19)], [(7, 12)], [(15, 20)]]) (outs := [16, 17]) (soles := []) (E := [(0, 5, false), (1, 6, false), (2, 7, false), (3, 8, false), (4, 9, false), (5, 10, false), (6, 11, false), (7, 12, false), (8, 13, false), (9, 14, false), (10, 15, false), (11, 16, false), (12, 17, false), (13, 18, false), (14, 19, false), (15, 20, false), (16, 3, true), (17, 4, true)]) (N := 104) (S := (fun w' => Blk w' w.heap.size #[.int .i64 k, .int .i64 n, .string s, .int .i64 r, .int .i64 c] 67 ∧ Below w.heap.size w w')) [Free.Fact.is ?_, Free.Fact.is ?_, Free.Fact.is ?_, Free.Fact.is ?_, Free.Fact.is ?_, Free.Fact.is ?_, Free.Fact.is ?_, Free.Fact.is ?_, Free.Fact.is ?_, Free.Fact.is ?_, Free.Fact.is ?_, Free.Fact.is ?_, Free.Fact.is ?_, Free.Fact.is ?_, Free.Fact.is ?_, Free.Fact.is ?_, Free.Fact.is ?_, Free.Fact.is ?_] (by kernel_rfl) (by kernel_rfl) rfl (⟨hX0.drew, bb0.drew⟩) ?_ ?_
      rotate_left 18
      refine Free.cons ?_ ?_
      · intro w' hS; intro K hK; have x3 := hS.1.cell 3 (v := .int .i64 r) rfl; have x4 := hS.1.cell 4 (v := .int .i64 c) rfl; first | (refine Free.run_yes (by rfl) ?_; go_simp; refine Free.o hK hS ?_; exact rfl) | (refine Free.run_no (by rfl) (Free.o hK hS ?_); exact rfl)
      refine Free.cons ?_ ?_
      · intro w' hS; (rintro _ rfl); intro K hK; have x3 := hS.1.cell 3 (v := .int .i64 r) rfl; have x4 := hS.1.cell 4 (v := .int .i64 c) rfl; first | (refine Free.run_yes (by rfl) ?_; go_simp; refine Free.o hK hS ?_; exact rfl) | (refine Free.run_no (by rfl) (Free.o hK hS ?_); exact rfl)
      refine Free.cons ?_ ?_
      · intro w' hS; (rintro _ rfl); intro K hK; have x3 := hS.1.cell 3 (v := .int .i64 r) rfl; have x4 := hS.1.cell 4 (v := .int .i64 c) rfl; first | (refine Free.run_yes (by rfl) ?_; go_simp; refine Free.o hK hS ?_; exact rfl) | (refine Free.run_no (by rfl) (Free.o hK hS ?_); exact rfl)
      refine Free.cons ?_ ?_
      · intro w' hS; (rintro _ rfl); intro K hK; have x3 := hS.1.cell 3 (v := .int .i64 r) rfl; have x4 := hS.1.cell 4 (v := .int .i64 c) rfl; first | (refine Free.run_yes (by rfl) ?_; go_simp; refine Free.o hK hS ?_; exact rfl) | (refine Free.run_no (by rfl) (Free.o hK hS ?_); exact rfl)
      refine Free.cons ?_ ?_
      · intro w' hS; (rintro _ rfl); intro K hK; have x3 := hS.1.cell 3 (v := .int .i64 r) rfl; have x4 := hS.1.cell 4 (v := .int .i64 c) rfl; first | (refine Free.run_yes (by rfl) ?_; go_simp; refine Free.o hK hS ?_; exact rfl) | (refine Free.run_no (by rfl) (Free.o hK hS ?_); exact rfl)
      refine Free.cons ?_ ?_
      · intro w' hS; (rintro _ rfl); (rintro _ rfl); intro K hK; have x3 := hS.1.cell 3 (v := .int .i64 r) rfl; have x4 := hS.1.cell 4 (v := .int .i64 c) rfl; first | (refine Free.run_yes (by rfl) ?_; go_simp; refine Free.o hK hS ?_; exact rfl) | (refine Free.run_no (by rfl) (Free.o hK hS ?_); exact rfl)
      refine Free.cons ?_ ?_
      · intro w' hS; (rintro _ rfl); (rintro _ rfl); intro K hK; have x3 := hS.1.cell 3 (v := .int .i64 r) rfl; have x4 := hS.1.cell 4 (v := .int .i64 c) rfl; first | (refine Free.run_yes (by rfl) ?_; go_simp; refine Free.o hK hS ?_; exact rfl) | (refine Free.run_no (by rfl) (Free.o hK hS ?_); exact rfl)
      refine Free.cons ?_ ?_
      · intro w' hS; (rintro _ rfl); (rintro _ rfl); intro K hK; have x3 := hS.1.cell 3 (v := .int .i64 r) rfl; have x4 := hS.1.cell 4 (v := .int .i64 c) rfl; first | (refine Free.run_yes (by rfl) ?_; go_simp; refine Free.o hK hS ?_; exact rfl) | (refine Free.run_no (by rfl) (Free.o hK hS ?_); exact rfl)
      refine Free.cons ?_ ?_
      · intro w' hS; intro K hK; have x3 := hS.1.cell 3 (v := .int .i64 r) rfl; have x4 := hS.1.cell 4 (v := .int .i64 c) rfl; first | (refine Free.run_yes (by rfl) ?_; go_simp; refine Free.o hK hS ?_; exact rfl) | (refine Free.run_no (by rfl) (Free.o hK hS ?_); exact rfl)
      refine Free.cons ?_ ?_
      · intro w' hS; (rintro _ rfl); intro K hK; have x3 := hS.1.cell 3 (v := .int .i64 r) rfl; have x4 := hS.1.cell 4 (v := .int .i64 c) rfl; first | (refine Free.run_yes (by rfl) ?_; go_simp; refine Free.o hK hS ?_; exact rfl) | (refine Free.run_no (by rfl) (Free.o hK hS ?_); exact rfl)
      refine Free.cons ?_ ?_
      · intro w' hS; (rintro _ rfl); intro K hK; have x3 := hS.1.cell 3 (v := .int .i64 r) rfl; have x4 := hS.1.cell 4 (v := .int .i64 c) rfl; first | (refine Free.run_yes (by rfl) ?_; go_simp; refine Free.o hK hS ?_; exact rfl) | (refine Free.run_no (by rfl) (Free.o hK hS ?_); exact rfl)
      refine Free.cons ?_ ?_
      · intro w' hS; (rintro _ rfl); intro K hK; have x3 := hS.1.cell 3 (v := .int .i64 r) rfl; have x4 := hS.1.cell 4 (v := .int .i64 c) rfl; first | (refine Free.run_yes (by rfl) ?_; go_simp; refine Free.o hK hS ?_; exact rfl) | (refine Free.run_no (by rfl) (Free.o hK hS ?_); exact rfl)
      refine Free.cons ?_ ?_
      · intro w' hS; (rintro _ rfl); intro K hK; have x3 := hS.1.cell 3 (v := .int .i64 r) rfl; have x4 := hS.1.cell 4 (v := .int .i64 c) rfl; first | (refine Free.run_yes (by rfl) ?_; go_simp; refine Free.o hK hS ?_; exact rfl) | (refine Free.run_no (by rfl) (Free.o hK hS ?_); exact rfl)
      refine Free.cons ?_ ?_
      · intro w' hS; (rintro _ rfl); (rintro _ rfl); intro K hK; have x3 := hS.1.cell 3 (v := .int .i64 r) rfl; have x4 := hS.1.cell 4 (v := .int .i64 c) rfl; first | (refine Free.run_yes (by rfl) ?_; go_simp; refine Free.o hK hS ?_; exact rfl) | (refine Free.run_no (by rfl) (Free.o hK hS ?_); exact rfl)
      refine Free.cons ?_ ?_
      · intro w' hS; (rintro _ rfl); (rintro _ rfl); intro K hK; have x3 := hS.1.cell 3 (v := .int .i64 r) rfl; have x4 := hS.1.cell 4 (v := .int .i64 c) rfl; first | (refine Free.run_yes (by rfl) ?_; go_simp; refine Free.o hK hS ?_; exact rfl) | (refine Free.run_no (by rfl) (Free.o hK hS ?_); exact rfl)
      refine Free.cons ?_ ?_
      · intro w' hS; (rintro _ rfl); (rintro _ rfl); intro K hK; have x3 := hS.1.cell 3 (v := .int .i64 r) rfl; have x4 := hS.1.cell 4 (v := .int .i64 c) rfl; first | (refine Free.run_yes (by rfl) ?_; go_simp; refine Free.o hK hS ?_; exact rfl) | (refine Free.run_no (by rfl) (Free.o hK hS ?_); exact rfl)
      refine Free.cons ?_ ?_
      · intro w' hS; (rintro _ rfl); intro K hK; have x3 := hS.1.cell 3 (v := .int .i64 r) rfl; have x4 := hS.1.cell 4 (v := .int .i64 c) rfl; first | (refine Free.run_yes (by rfl) ?_; go_simp; refine Free.o hK hS ?_; exact rfl) | (refine Free.run_no (by rfl) (Free.o hK hS ?_); exact rfl)
      refine Free.cons ?_ ?_
      · intro w' hS; (rintro _ rfl); intro K hK; have x3 := hS.1.cell 3 (v := .int .i64 r) rfl; have x4 := hS.1.cell 4 (v := .int .i64 c) rfl; first | (refine Free.run_yes (by rfl) ?_; go_simp; refine Free.o hK hS ?_; exact rfl) | (refine Free.run_no (by rfl) (Free.o hK hS ?_); exact rfl)
      exact Free.nil
      clear hvo
      intro w' hS; intro v0; intro v1; intro v2; intro v3; intro v4; intro v5; intro v6; intro v7; intro v8; intro v9; intro v10; intro v11; intro v12; intro v13; intro v14; intro v15; (rintro _ rfl); (rintro _ rfl); (try simp only [Act.put, List.setIfInBounds_toArray, List.set_cons_zero, List.set_cons_succ]); refine Free.toldE_nil ?_
      have hX := hS.1
      have bb := hS.2
      clear hS hX0 bb0 keep
      have x0 := hX.cell 0 (v := .int .i64 k) rfl
      have x1 := hX.cell 1 (v := .int .i64 n) rfl
      have x2 := hX.cell 2 (v := .string s) rfl
      have x3 := hX.cell 3 (v := .int .i64 r) rfl
      have x4 := hX.cell 4 (v := .int .i64 c) rfl
      by_cases k1 : k = 1
      · subst k1
        go_wp2
        all_goals (go_ret; exact ⟨by rewrite [← hb.out]; simp [noS, *], bb⟩)
      have f1 : (k == 1) = false := by rw [beq_eq_false_iff_ne]; exact k1
      by_cases k2 : k = 2
      · subst k2
        go_wp2
        all_goals (go_ret; exact ⟨by rewrite [← hb.out]; simp [noS, *], bb⟩)
      have f2 : (k == 2) = false := by rw [beq_eq_false_iff_ne]; exact k2
      by_cases k3 : k = 3
      · subst k3
        go_wp2
        all_goals (go_ret; exact ⟨by rewrite [← hb.out]; simp [noS, *], bb⟩)
      have f3 : (k == 3) = false := by rw [beq_eq_false_iff_ne]; exact k3
      by_cases k4 : k = 4
      · subst k4
        go_wp2
        all_goals (go_ret; exact ⟨by rewrite [← hb.out]; simp [noS, *], bb⟩)
      have f4 : (k == 4) = false := by rw [beq_eq_false_iff_ne]; exact k4
      by_cases k5 : k = 5
      · subst k5
        go_wp2
        all_goals (go_ret; exact ⟨by rewrite [← hb.out]; simp [noS, *], bb⟩)
      have f5 : (k == 5) = false := by rw [beq_eq_false_iff_ne]; exact k5
      go_wp2
      all_goals (go_ret; exact ⟨by rewrite [← hb.out]; simp [noS, *], bb⟩)
    · have hp : inR r 0 3 = false := by simp [inR]; omega
      have hq : inR c 0 3 = false := by simp [inR]; omega
      rw [hp, hq] at hb
      have hb := Lib.hid hb
      have r1 : decide (0 ≤ r) = true := decide_eq_true (by omega); have r2 : decide (r < 4) = false := decide_eq_false (by omega)
      have c1 : decide (0 ≤ c) = true := decide_eq_true (by omega); have c2 : decide (c < 4) = false := decide_eq_false (by omega)
      clear hp hq
      go_enter Try.func96, Try.ntmps96
      go_wp2_with fail
      generalize w.alloc (.cells #[.int .i64 k, .int .i64 n, .string s, .int .i64 r, .int .i64 c] 67) = W1 at *
      have keep := fun {w' w'' : World} (h : Blk w' w.heap.size #[.int .i64 k, .int .i64 n, .string s, .int .i64 r, .int .i64 c] 67 ∧ Below w.heap.size w w') (hb : Below w'.heap.size w' w'') => (⟨h.1.below hb h.1.lt, bnext h.2 hb⟩ : Blk w'' w.heap.size #[.int .i64 k, .int .i64 n, .string s, .int .i64 r, .int .i64 c] 67 ∧ Below w.heap.size w w'')
      have hvo := Free.val
      refine Free.wp_facts (M := [0, 1, 3, 7, 15, 31, 63, 127, 0, 256, 768, 1807, 3855, 7951, 16143, 32527, 4095, 131071]) (D := [[], [(0, 5)], [(1, 6)], [(2, 7)], [(3, 8)], [(4, 9), (3, 8)], [(5, 10), (3, 8)], [(3, 8), (6, 11)], [], [(8, 13)], [(9, 14)], [(10, 15)], [(11, 16)], [(12, 17), (11, 16)], [(13, 18), (11, 16)], [(11, 16), (14, 19)], [(7, 12)], [(15, 20)]]) (outs := [16, 17]) (soles := []) (E := [(0, 5, false), (1, 6, false), (2, 7, false), (3, 8, false), (4, 9, false), (5, 10, false), (6, 11, false), (7, 12, false), (8, 13, false), (9, 14, false), (10, 15, false), (11, 16, false), (12, 17, false), (13, 18, false), (14, 19, false), (15, 20, false), (16, 3, true), (17, 4, true)]) (N := 104) (S := (fun w' => Blk w' w.heap.size #[.int .i64 k, .int .i64 n, .string s, .int .i64 r, .int .i64 c] 67 ∧ Below w.heap.size w w')) [Free.Fact.is ?_, Free.Fact.is ?_, Free.Fact.is ?_, Free.Fact.is ?_, Free.Fact.is ?_, Free.Fact.is ?_, Free.Fact.is ?_, Free.Fact.is ?_, Free.Fact.is ?_, Free.Fact.is ?_, Free.Fact.is ?_, Free.Fact.is ?_, Free.Fact.is ?_, Free.Fact.is ?_, Free.Fact.is ?_, Free.Fact.is ?_, Free.Fact.is ?_, Free.Fact.is ?_] (by kernel_rfl) (by kernel_rfl) rfl (⟨hX0.drew, bb0.drew⟩) ?_ ?_
      rotate_left 18
      refine Free.cons ?_ ?_
      · intro w' hS; intro K hK; have x3 := hS.1.cell 3 (v := .int .i64 r) rfl; have x4 := hS.1.cell 4 (v := .int .i64 c) rfl; first | (refine Free.run_yes (by rfl) ?_; go_simp; refine Free.o hK hS ?_; exact rfl) | (refine Free.run_no (by rfl) (Free.o hK hS ?_); exact rfl)
      refine Free.cons ?_ ?_
      · intro w' hS; (rintro _ rfl); intro K hK; have x3 := hS.1.cell 3 (v := .int .i64 r) rfl; have x4 := hS.1.cell 4 (v := .int .i64 c) rfl; first | (refine Free.run_yes (by rfl) ?_; go_simp; refine Free.o hK hS ?_; exact rfl) | (refine Free.run_no (by rfl) (Free.o hK hS ?_); exact rfl)
      refine Free.cons ?_ ?_
      · intro w' hS; (rintro _ rfl); intro K hK; have x3 := hS.1.cell 3 (v := .int .i64 r) rfl; have x4 := hS.1.cell 4 (v := .int .i64 c) rfl; first | (refine Free.run_yes (by rfl) ?_; go_simp; refine Free.o hK hS ?_; exact rfl) | (refine Free.run_no (by rfl) (Free.o hK hS ?_); exact rfl)
      refine Free.cons ?_ ?_
      · intro w' hS; (rintro _ rfl); intro K hK; have x3 := hS.1.cell 3 (v := .int .i64 r) rfl; have x4 := hS.1.cell 4 (v := .int .i64 c) rfl; first | (refine Free.run_yes (by rfl) ?_; go_simp; refine Free.o hK hS ?_; exact rfl) | (refine Free.run_no (by rfl) (Free.o hK hS ?_); exact rfl)
      refine Free.cons ?_ ?_
      · intro w' hS; (rintro _ rfl); intro K hK; have x3 := hS.1.cell 3 (v := .int .i64 r) rfl; have x4 := hS.1.cell 4 (v := .int .i64 c) rfl; first | (refine Free.run_yes (by rfl) ?_; go_simp; refine Free.o hK hS ?_; exact rfl) | (refine Free.run_no (by rfl) (Free.o hK hS ?_); exact rfl)
      refine Free.cons ?_ ?_
      · intro w' hS; (rintro _ rfl); (rintro _ rfl); intro K hK; have x3 := hS.1.cell 3 (v := .int .i64 r) rfl; have x4 := hS.1.cell 4 (v := .int .i64 c) rfl; first | (refine Free.run_yes (by rfl) ?_; go_simp; refine Free.o hK hS ?_; exact rfl) | (refine Free.run_no (by rfl) (Free.o hK hS ?_); exact rfl)
      refine Free.cons ?_ ?_
      · intro w' hS; (rintro _ rfl); (rintro _ rfl); intro K hK; have x3 := hS.1.cell 3 (v := .int .i64 r) rfl; have x4 := hS.1.cell 4 (v := .int .i64 c) rfl; first | (refine Free.run_yes (by rfl) ?_; go_simp; refine Free.o hK hS ?_; exact rfl) | (refine Free.run_no (by rfl) (Free.o hK hS ?_); exact rfl)
      refine Free.cons ?_ ?_
      · intro w' hS; (rintro _ rfl); (rintro _ rfl); intro K hK; have x3 := hS.1.cell 3 (v := .int .i64 r) rfl; have x4 := hS.1.cell 4 (v := .int .i64 c) rfl; first | (refine Free.run_yes (by rfl) ?_; go_simp; refine Free.o hK hS ?_; exact rfl) | (refine Free.run_no (by rfl) (Free.o hK hS ?_); exact rfl)
      refine Free.cons ?_ ?_
      · intro w' hS; intro K hK; have x3 := hS.1.cell 3 (v := .int .i64 r) rfl; have x4 := hS.1.cell 4 (v := .int .i64 c) rfl; first | (refine Free.run_yes (by rfl) ?_; go_simp; refine Free.o hK hS ?_; exact rfl) | (refine Free.run_no (by rfl) (Free.o hK hS ?_); exact rfl)
      refine Free.cons ?_ ?_
      · intro w' hS; (rintro _ rfl); intro K hK; have x3 := hS.1.cell 3 (v := .int .i64 r) rfl; have x4 := hS.1.cell 4 (v := .int .i64 c) rfl; first | (refine Free.run_yes (by rfl) ?_; go_simp; refine Free.o hK hS ?_; exact rfl) | (refine Free.run_no (by rfl) (Free.o hK hS ?_); exact rfl)
      refine Free.cons ?_ ?_
      · intro w' hS; (rintro _ rfl); intro K hK; have x3 := hS.1.cell 3 (v := .int .i64 r) rfl; have x4 := hS.1.cell 4 (v := .int .i64 c) rfl; first | (refine Free.run_yes (by rfl) ?_; go_simp; refine Free.o hK hS ?_; exact rfl) | (refine Free.run_no (by rfl) (Free.o hK hS ?_); exact rfl)
      refine Free.cons ?_ ?_
      · intro w' hS; (rintro _ rfl); intro K hK; have x3 := hS.1.cell 3 (v := .int .i64 r) rfl; have x4 := hS.1.cell 4 (v := .int .i64 c) rfl; first | (refine Free.run_yes (by rfl) ?_; go_simp; refine Free.o hK hS ?_; exact rfl) | (refine Free.run_no (by rfl) (Free.o hK hS ?_); exact rfl)
      refine Free.cons ?_ ?_
      · intro w' hS; (rintro _ rfl); intro K hK; have x3 := hS.1.cell 3 (v := .int .i64 r) rfl; have x4 := hS.1.cell 4 (v := .int .i64 c) rfl; first | (refine Free.run_yes (by rfl) ?_; go_simp; refine Free.o hK hS ?_; exact rfl) | (refine Free.run_no (by rfl) (Free.o hK hS ?_); exact rfl)
      refine Free.cons ?_ ?_
      · intro w' hS; (rintro _ rfl); (rintro _ rfl); intro K hK; have x3 := hS.1.cell 3 (v := .int .i64 r) rfl; have x4 := hS.1.cell 4 (v := .int .i64 c) rfl; first | (refine Free.run_yes (by rfl) ?_; go_simp; refine Free.o hK hS ?_; exact rfl) | (refine Free.run_no (by rfl) (Free.o hK hS ?_); exact rfl)
      refine Free.cons ?_ ?_
      · intro w' hS; (rintro _ rfl); (rintro _ rfl); intro K hK; have x3 := hS.1.cell 3 (v := .int .i64 r) rfl; have x4 := hS.1.cell 4 (v := .int .i64 c) rfl; first | (refine Free.run_yes (by rfl) ?_; go_simp; refine Free.o hK hS ?_; exact rfl) | (refine Free.run_no (by rfl) (Free.o hK hS ?_); exact rfl)
      refine Free.cons ?_ ?_
      · intro w' hS; (rintro _ rfl); (rintro _ rfl); intro K hK; have x3 := hS.1.cell 3 (v := .int .i64 r) rfl; have x4 := hS.1.cell 4 (v := .int .i64 c) rfl; first | (refine Free.run_yes (by rfl) ?_; go_simp; refine Free.o hK hS ?_; exact rfl) | (refine Free.run_no (by rfl) (Free.o hK hS ?_); exact rfl)
      refine Free.cons ?_ ?_
      · intro w' hS; (rintro _ rfl); intro K hK; have x3 := hS.1.cell 3 (v := .int .i64 r) rfl; have x4 := hS.1.cell 4 (v := .int .i64 c) rfl; first | (refine Free.run_yes (by rfl) ?_; go_simp; refine Free.o hK hS ?_; exact rfl) | (refine Free.run_no (by rfl) (Free.o hK hS ?_); exact rfl)
      refine Free.cons ?_ ?_
      · intro w' hS; (rintro _ rfl); intro K hK; have x3 := hS.1.cell 3 (v := .int .i64 r) rfl; have x4 := hS.1.cell 4 (v := .int .i64 c) rfl; first | (refine Free.run_yes (by rfl) ?_; go_simp; refine Free.o hK hS ?_; exact rfl) | (refine Free.run_no (by rfl) (Free.o hK hS ?_); exact rfl)
      exact Free.nil
      clear hvo
      intro w' hS; intro v0; intro v1; intro v2; intro v3; intro v4; intro v5; intro v6; intro v7; intro v8; intro v9; intro v10; intro v11; intro v12; intro v13; intro v14; intro v15; (rintro _ rfl); (rintro _ rfl); (try simp only [Act.put, List.setIfInBounds_toArray, List.set_cons_zero, List.set_cons_succ]); refine Free.toldE_nil ?_
      have hX := hS.1
      have bb := hS.2
      clear hS hX0 bb0 keep
      have x0 := hX.cell 0 (v := .int .i64 k) rfl
      have x1 := hX.cell 1 (v := .int .i64 n) rfl
      have x2 := hX.cell 2 (v := .string s) rfl
      have x3 := hX.cell 3 (v := .int .i64 r) rfl
      have x4 := hX.cell 4 (v := .int .i64 c) rfl
      by_cases k1 : k = 1
      · subst k1
        go_wp2
        all_goals (go_ret; exact ⟨by rewrite [← hb.out]; simp [noS, *], bb⟩)
      have f1 : (k == 1) = false := by rw [beq_eq_false_iff_ne]; exact k1
      by_cases k2 : k = 2
      · subst k2
        go_wp2
        all_goals (go_ret; exact ⟨by rewrite [← hb.out]; simp [noS, *], bb⟩)
      have f2 : (k == 2) = false := by rw [beq_eq_false_iff_ne]; exact k2
      by_cases k3 : k = 3
      · subst k3
        go_wp2
        all_goals (go_ret; exact ⟨by rewrite [← hb.out]; simp [noS, *], bb⟩)
      have f3 : (k == 3) = false := by rw [beq_eq_false_iff_ne]; exact k3
      by_cases k4 : k = 4
      · subst k4
        go_wp2
        all_goals (go_ret; exact ⟨by rewrite [← hb.out]; simp [noS, *], bb⟩)
      have f4 : (k == 4) = false := by rw [beq_eq_false_iff_ne]; exact k4
      by_cases k5 : k = 5
      · subst k5
        go_wp2
        all_goals (go_ret; exact ⟨by rewrite [← hb.out]; simp [noS, *], bb⟩)
      have f5 : (k == 5) = false := by rw [beq_eq_false_iff_ne]; exact k5
      go_wp2
      all_goals (go_ret; exact ⟨by rewrite [← hb.out]; simp [noS, *], bb⟩)
end Go.Proofs.Ytdmjiaicgbcodaa
