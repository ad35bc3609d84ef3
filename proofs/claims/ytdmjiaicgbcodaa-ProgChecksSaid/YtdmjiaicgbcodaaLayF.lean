/- Contracts of package lay: a cell's length, batches, a making's operations, areas. -/
import Derived.Test.YtdmjiaicgbcodaaLayE
namespace Go.Proofs.Ytdmjiaicgbcodaa
open Go.ChangeShapes Go.WideShapes Go.ChangeAt Go.RowKit
open Go.ChangeMaps (open_string shut_string)
set_option linter.unusedVariables false
set_option linter.unusedSimpArgs false

def cellC (x : Cfg) : Int := 12 + x.z * 38
set_option maxHeartbeats 1000000 in
set_option maxRecDepth 100000 in
theorem lay_cell (x : Cfg) (A : Option Addr) (n c : Nat) (w : World) (h : x.B) : Calls Try.prog 19 #[.agg #[.int .i64 x.h, .int .i64 x.z, .int .i64 x.b, .int .i64 x.r, .int .i64 x.d, .int .i64 x.e, .int .i64 x.s, .int .i64 x.p, .int .i64 x.q, .int .i64 x.t, .slice A n c]] w fun e w' => e = .returned (.int .i64 (cellC x)) ∧ Below w.heap.size w w' := by
  have HP := Lib.hid (fun w => lay_payload x A n c w h)
  have hz := h.z
  clear h
  have hX0 := Blk.new w #[.int .i64 x.h, .int .i64 x.z, .int .i64 x.b, .int .i64 x.r, .int .i64 x.d, .int .i64 x.e, .int .i64 x.s, .int .i64 x.p, .int .i64 x.q, .int .i64 x.t, .slice A n c] 28
  have bb : Below w.heap.size w (w.alloc (.cells #[.int .i64 x.h, .int .i64 x.z, .int .i64 x.b, .int .i64 x.r, .int .i64 x.d, .int .i64 x.e, .int .i64 x.s, .int .i64 x.p, .int .i64 x.q, .int .i64 x.t, .slice A n c] 28)) := (by repeat (first | exact Below.refl _ _ | assumption | apply below_drewN' | apply Below.drew | refine Below.alloc ?_ (by first | omega | (simp; done) | (simp; omega)) _ | refine Below.setCell ?_ (by first | omega | (simp; done) | (simp; omega)) _))
  go_enter Try.func19, Try.ntmps19
  go_wp2_with fail
  refine (HP.out _).mono ?_
  rintro e w2 ⟨rfl, hb⟩
  go_wp2
  go_ret
  exact ⟨rfl, bnext bb hb⟩
def makeOpsC (x : Cfg) : Int := 5 + cellsC x (fullLenC x)
set_option maxHeartbeats 1000000 in
set_option maxRecDepth 100000 in
theorem lay_makeops (x : Cfg) (A : Option Addr) (n c : Nat) (w : World) (h : x.B) : Calls Try.prog 36 #[.agg #[.int .i64 x.h, .int .i64 x.z, .int .i64 x.b, .int .i64 x.r, .int .i64 x.d, .int .i64 x.e, .int .i64 x.s, .int .i64 x.p, .int .i64 x.q, .int .i64 x.t, .slice A n c]] w fun e w' => e = .returned (.int .i64 (makeOpsC x)) ∧ Below w.heap.size w w' := by
  have HL := Lib.hid (fun w => lay_fulllen x A n c w h)
  have r1 := fullLenC_range h
  have HC := Lib.hid (fun w => lay_cells x A n c (fullLenC x) w h r1.1 (by omega))
  have r3 := cellsC_range h (fullLenC x) r1.1
  unfold makeOpsC at *
  clear h
  generalize cellsC x (fullLenC x) = k at *
  generalize fullLenC x = m at *
  have w1 : IntKind.i64.wrap (5 + k) = 5 + k := IntWalk.i64_in _ (by omega)
  have hX0 := Blk.new w #[.int .i64 x.h, .int .i64 x.z, .int .i64 x.b, .int .i64 x.r, .int .i64 x.d, .int .i64 x.e, .int .i64 x.s, .int .i64 x.p, .int .i64 x.q, .int .i64 x.t, .slice A n c] 28
  have bb : Below w.heap.size w (w.alloc (.cells #[.int .i64 x.h, .int .i64 x.z, .int .i64 x.b, .int .i64 x.r, .int .i64 x.d, .int .i64 x.e, .int .i64 x.s, .int .i64 x.p, .int .i64 x.q, .int .i64 x.t, .slice A n c] 28)) := (by repeat (first | exact Below.refl _ _ | assumption | apply below_drewN' | apply Below.drew | refine Below.alloc ?_ (by first | omega | (simp; done) | (simp; omega)) _ | refine Below.setCell ?_ (by first | omega | (simp; done) | (simp; omega)) _))
  go_enter Try.func36, Try.ntmps36
  go_wp2_with fail
  generalize w.alloc (.cells #[.int .i64 x.h, .int .i64 x.z, .int .i64 x.b, .int .i64 x.r, .int .i64 x.d, .int .i64 x.e, .int .i64 x.s, .int .i64 x.p, .int .i64 x.q, .int .i64 x.t, .slice A n c] 28) = W1 at *
  have hX := hX0
  clear hX0
  have hXlt := hX.lt
  have keep := fun {w' w'' : World} (h : Below W1.heap.size W1 w') (hb : Below w'.heap.size w' w'') => bnext h hb
  have hvo := Free.val
  refine Free.wp_facts (M := [0, 0, 2, 7, 15, 31]) (D := [[], [], [(1, 4)], [(0, 3), (2, 5)], [(3, 6)], [(4, 7)]]) (outs := [5]) (soles := []) (E := [(0, 3, false), (1, 4, false), (2, 5, false), (3, 6, false), (4, 7, false), (5, 2, true)]) (N := 8) (S := (fun w' => Below W1.heap.size W1 w')) [Free.Fact.is ?_, Free.Fact.is ?_, Free.Fact.is ?_, Free.Fact.is ?_, Free.Fact.is ?_, Free.Fact.is ?_] (by kernel_rfl) (by kernel_rfl) rfl ((Below.refl _ _).drew) ?_ ?_
  rotate_left 6
  refine Free.cons ?_ ?_
  · intro w' hS; intro K hK; have a0 := (hX.below hS hXlt).cell 0 (v := .int .i64 x.h) rfl; have a1 := (hX.below hS hXlt).cell 1 (v := .int .i64 x.z) rfl; have a2 := (hX.below hS hXlt).cell 2 (v := .int .i64 x.b) rfl; have a3 := (hX.below hS hXlt).cell 3 (v := .int .i64 x.r) rfl; have a4 := (hX.below hS hXlt).cell 4 (v := .int .i64 x.d) rfl; have a5 := (hX.below hS hXlt).cell 5 (v := .int .i64 x.e) rfl; have a6 := (hX.below hS hXlt).cell 6 (v := .int .i64 x.s) rfl; have a7 := (hX.below hS hXlt).cell 7 (v := .int .i64 x.p) rfl; have a8 := (hX.below hS hXlt).cell 8 (v := .int .i64 x.q) rfl; have a9 := (hX.below hS hXlt).cell 9 (v := .int .i64 x.t) rfl; have a10 := (hX.below hS hXlt).cell 10 (v := .slice A n c) rfl; first | (refine Free.run_yes (by rfl) ?_; go_simp; refine Free.o hK hS ?_; exact rfl) | (refine Free.run_no (by rfl) (Free.o hK hS ?_); exact rfl)
  refine Free.cons ?_ ?_
  · intro w' hS; intro K hK; have a0 := (hX.below hS hXlt).cell 0 (v := .int .i64 x.h) rfl; have a1 := (hX.below hS hXlt).cell 1 (v := .int .i64 x.z) rfl; have a2 := (hX.below hS hXlt).cell 2 (v := .int .i64 x.b) rfl; have a3 := (hX.below hS hXlt).cell 3 (v := .int .i64 x.r) rfl; have a4 := (hX.below hS hXlt).cell 4 (v := .int .i64 x.d) rfl; have a5 := (hX.below hS hXlt).cell 5 (v := .int .i64 x.e) rfl; have a6 := (hX.below hS hXlt).cell 6 (v := .int .i64 x.s) rfl; have a7 := (hX.below hS hXlt).cell 7 (v := .int .i64 x.p) rfl; have a8 := (hX.below hS hXlt).cell 8 (v := .int .i64 x.q) rfl; have a9 := (hX.below hS hXlt).cell 9 (v := .int .i64 x.t) rfl; have a10 := (hX.below hS hXlt).cell 10 (v := .slice A n c) rfl; first | (refine Free.run_yes (by rfl) ?_; go_simp; refine Free.o hK hS ?_; exact rfl) | (refine Free.run_no (by rfl) (Free.o hK hS ?_); exact rfl)
  refine Free.cons ?_ ?_
  · intro w' hS; (rintro _ rfl); intro K hK; have a0 := (hX.below hS hXlt).cell 0 (v := .int .i64 x.h) rfl; have a1 := (hX.below hS hXlt).cell 1 (v := .int .i64 x.z) rfl; have a2 := (hX.below hS hXlt).cell 2 (v := .int .i64 x.b) rfl; have a3 := (hX.below hS hXlt).cell 3 (v := .int .i64 x.r) rfl; have a4 := (hX.below hS hXlt).cell 4 (v := .int .i64 x.d) rfl; have a5 := (hX.below hS hXlt).cell 5 (v := .int .i64 x.e) rfl; have a6 := (hX.below hS hXlt).cell 6 (v := .int .i64 x.s) rfl; have a7 := (hX.below hS hXlt).cell 7 (v := .int .i64 x.p) rfl; have a8 := (hX.below hS hXlt).cell 8 (v := .int .i64 x.q) rfl; have a9 := (hX.below hS hXlt).cell 9 (v := .int .i64 x.t) rfl; have a10 := (hX.below hS hXlt).cell 10 (v := .slice A n c) rfl; first | (refine Free.run_yes (by rfl) ?_; go_simp; (first | (go_at_call 45; refine (HL.out _).mono ?_; rintro e w' ⟨rfl, hb⟩) | (go_at_call 79; refine (HC.out _).mono ?_; rintro e w' ⟨rfl, hb⟩)); go_simp; refine Free.c hK (keep hS hb) hb ?_; exact rfl) | (refine Free.run_no (by rfl) (Free.o hK hS ?_); exact rfl)
  refine Free.cons ?_ ?_
  · intro w' hS; (rintro _ rfl); (rintro _ rfl); intro K hK; have a0 := (hX.below hS hXlt).cell 0 (v := .int .i64 x.h) rfl; have a1 := (hX.below hS hXlt).cell 1 (v := .int .i64 x.z) rfl; have a2 := (hX.below hS hXlt).cell 2 (v := .int .i64 x.b) rfl; have a3 := (hX.below hS hXlt).cell 3 (v := .int .i64 x.r) rfl; have a4 := (hX.below hS hXlt).cell 4 (v := .int .i64 x.d) rfl; have a5 := (hX.below hS hXlt).cell 5 (v := .int .i64 x.e) rfl; have a6 := (hX.below hS hXlt).cell 6 (v := .int .i64 x.s) rfl; have a7 := (hX.below hS hXlt).cell 7 (v := .int .i64 x.p) rfl; have a8 := (hX.below hS hXlt).cell 8 (v := .int .i64 x.q) rfl; have a9 := (hX.below hS hXlt).cell 9 (v := .int .i64 x.t) rfl; have a10 := (hX.below hS hXlt).cell 10 (v := .slice A n c) rfl; first | (refine Free.run_yes (by rfl) ?_; go_simp; (first | (go_at_call 45; refine (HL.out _).mono ?_; rintro e w' ⟨rfl, hb⟩) | (go_at_call 79; refine (HC.out _).mono ?_; rintro e w' ⟨rfl, hb⟩)); go_simp; refine Free.c hK (keep hS hb) hb ?_; exact rfl) | (refine Free.run_no (by rfl) (Free.o hK hS ?_); exact rfl)
  refine Free.cons ?_ ?_
  · intro w' hS; (rintro _ rfl); intro K hK; have a0 := (hX.below hS hXlt).cell 0 (v := .int .i64 x.h) rfl; have a1 := (hX.below hS hXlt).cell 1 (v := .int .i64 x.z) rfl; have a2 := (hX.below hS hXlt).cell 2 (v := .int .i64 x.b) rfl; have a3 := (hX.below hS hXlt).cell 3 (v := .int .i64 x.r) rfl; have a4 := (hX.below hS hXlt).cell 4 (v := .int .i64 x.d) rfl; have a5 := (hX.below hS hXlt).cell 5 (v := .int .i64 x.e) rfl; have a6 := (hX.below hS hXlt).cell 6 (v := .int .i64 x.s) rfl; have a7 := (hX.below hS hXlt).cell 7 (v := .int .i64 x.p) rfl; have a8 := (hX.below hS hXlt).cell 8 (v := .int .i64 x.q) rfl; have a9 := (hX.below hS hXlt).cell 9 (v := .int .i64 x.t) rfl; have a10 := (hX.below hS hXlt).cell 10 (v := .slice A n c) rfl; first | (refine Free.run_yes (by rfl) ?_; go_simp; refine Free.o hK hS ?_; exact rfl) | (refine Free.run_no (by rfl) (Free.o hK hS ?_); exact rfl)
  refine Free.cons ?_ ?_
  · intro w' hS; (rintro _ rfl); intro K hK; have a0 := (hX.below hS hXlt).cell 0 (v := .int .i64 x.h) rfl; have a1 := (hX.below hS hXlt).cell 1 (v := .int .i64 x.z) rfl; have a2 := (hX.below hS hXlt).cell 2 (v := .int .i64 x.b) rfl; have a3 := (hX.below hS hXlt).cell 3 (v := .int .i64 x.r) rfl; have a4 := (hX.below hS hXlt).cell 4 (v := .int .i64 x.d) rfl; have a5 := (hX.below hS hXlt).cell 5 (v := .int .i64 x.e) rfl; have a6 := (hX.below hS hXlt).cell 6 (v := .int .i64 x.s) rfl; have a7 := (hX.below hS hXlt).cell 7 (v := .int .i64 x.p) rfl; have a8 := (hX.below hS hXlt).cell 8 (v := .int .i64 x.q) rfl; have a9 := (hX.below hS hXlt).cell 9 (v := .int .i64 x.t) rfl; have a10 := (hX.below hS hXlt).cell 10 (v := .slice A n c) rfl; first | (refine Free.run_yes (by rfl) ?_; go_simp; refine Free.o hK hS ?_; exact rfl) | (refine Free.run_no (by rfl) (Free.o hK hS ?_); exact rfl)
  exact Free.nil
  clear hvo
  intro w' hS; intro v0; intro v1; intro v2; intro v3; intro v4; (rintro _ rfl); (try simp only [Act.put, List.setIfInBounds_toArray, List.set_cons_zero, List.set_cons_succ]); refine Free.toldE_nil ?_
  go_wp2
  go_ret
  exact ⟨rfl, bnext bb hS⟩
/-- How many paths a batch reads. -/
def batchC (x : Cfg) (i : Int) : Int := if 0 ≤ i ∧ i < x.r then x.d else if i = x.r then x.e else 0
theorem lay_batch (x : Cfg) (A : Option Addr) (n c : Nat) (i : Int) (w : World) : Calls Try.prog 14 #[.agg #[.int .i64 x.h, .int .i64 x.z, .int .i64 x.b, .int .i64 x.r, .int .i64 x.d, .int .i64 x.e, .int .i64 x.s, .int .i64 x.p, .int .i64 x.q, .int .i64 x.t, .slice A n c], .int .i64 i] w fun e w' => e = .returned (.int .i64 (batchC x i)) ∧ Below w.heap.size w w' := by
  obtain ⟨R, hR⟩ : ∃ R, batchC x i = R := ⟨_, rfl⟩
  rw [hR]
  have hh := Lib.hid hR
  clear hR
  by_cases h0 : 0 ≤ i
  · by_cases h1 : i < x.r
    · go_enter Try.func14, Try.ntmps14
      go_wp2
      go_ret
      exact ⟨by rw [← hh.out, batchC, if_pos ⟨h0, h1⟩]; rfl, (by repeat (first | exact Below.refl _ _ | assumption | apply below_drewN' | apply Below.drew | refine Below.alloc ?_ (by first | omega | (simp; done) | (simp; omega)) _ | refine Below.setCell ?_ (by first | omega | (simp; done) | (simp; omega)) _))⟩
    · by_cases h2 : i = x.r
      · have e1 : (i == x.r) = true := by rw [beq_iff_eq]; exact h2
        go_enter Try.func14, Try.ntmps14
        go_wp2
        go_ret
        exact ⟨by rw [← hh.out, batchC, if_neg (by omega), if_pos h2]; rfl, (by repeat (first | exact Below.refl _ _ | assumption | apply below_drewN' | apply Below.drew | refine Below.alloc ?_ (by first | omega | (simp; done) | (simp; omega)) _ | refine Below.setCell ?_ (by first | omega | (simp; done) | (simp; omega)) _))⟩
      · have e1 : (i == x.r) = false := by rw [beq_eq_false_iff_ne]; exact h2
        go_enter Try.func14, Try.ntmps14
        go_wp2
        go_ret
        exact ⟨by rw [← hh.out, batchC, if_neg (by omega), if_neg h2]; rfl, (by repeat (first | exact Below.refl _ _ | assumption | apply below_drewN' | apply Below.drew | refine Below.alloc ?_ (by first | omega | (simp; done) | (simp; omega)) _ | refine Below.setCell ?_ (by first | omega | (simp; done) | (simp; omega)) _))⟩
  · by_cases h2 : i = x.r
    · have e1 : (i == x.r) = true := by rw [beq_iff_eq]; exact h2
      go_enter Try.func14, Try.ntmps14
      go_wp2
      go_ret
      exact ⟨by rw [← hh.out, batchC, if_neg (by omega), if_pos h2]; rfl, (by repeat (first | exact Below.refl _ _ | assumption | apply below_drewN' | apply Below.drew | refine Below.alloc ?_ (by first | omega | (simp; done) | (simp; omega)) _ | refine Below.setCell ?_ (by first | omega | (simp; done) | (simp; omega)) _))⟩
    · have e1 : (i == x.r) = false := by rw [beq_eq_false_iff_ne]; exact h2
      go_enter Try.func14, Try.ntmps14
      go_wp2
      go_ret
      exact ⟨by rw [← hh.out, batchC, if_neg (by omega), if_neg h2]; rfl, (by repeat (first | exact Below.refl _ _ | assumption | apply below_drewN' | apply Below.drew | refine Below.alloc ?_ (by first | omega | (simp; done) | (simp; omega)) _ | refine Below.setCell ?_ (by first | omega | (simp; done) | (simp; omega)) _))⟩
end Go.Proofs.Ytdmjiaicgbcodaa
