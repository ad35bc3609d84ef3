/- Contracts of package lay: where the areas begin. -/
import Derived.Test.YtdmjiaicgbcodaaLayC
import Derived.Test.YtdmjiaicgbcodaaFree
namespace Go.Proofs.Ytdmjiaicgbcodaa
open Go.ChangeShapes Go.WideShapes Go.ChangeAt Go.RowKit
open Go.ChangeMaps (open_string shut_string)
set_option linter.unusedVariables false
set_option linter.unusedSimpArgs false

theorem cellsC_range {x : Cfg} (h : x.B) (l : Int) (h0 : 1 ≤ l) : 1 ≤ cellsC x l ∧ cellsC x l ≤ l := by
  have a : 0 ≤ (l - 1) / (x.z * 38) := Int.ediv_nonneg (by omega) (by have := h.z; omega)
  have b : (l - 1) / (x.z * 38) ≤ l - 1 := Int.ediv_le_self _ (by omega)
  unfold cellsC
  omega
theorem lay_loglen (x : Cfg) (A : Option Addr) (n c : Nat) (w : World) : Calls Try.prog 42 #[.agg #[.int .i64 x.h, .int .i64 x.z, .int .i64 x.b, .int .i64 x.r, .int .i64 x.d, .int .i64 x.e, .int .i64 x.s, .int .i64 x.p, .int .i64 x.q, .int .i64 x.t, .slice A n c]] w fun e w' => e = .returned (.int .i64 12) ∧ Below w.heap.size w w' := by
  go_enter Try.func42, Try.ntmps42
  go_wp2
  go_ret
  exact ⟨rfl, (by repeat (first | exact Below.refl _ _ | assumption | apply below_drewN' | apply Below.drew | refine Below.alloc ?_ (by first | omega | (simp; done) | (simp; omega)) _ | refine Below.setCell ?_ (by first | omega | (simp; done) | (simp; omega)) _))⟩
def stashC (x : Cfg) : Int := 1 + x.s * 38
theorem lay_stash (x : Cfg) (A : Option Addr) (n c : Nat) (w : World) (h : x.B) : Calls Try.prog 82 #[.agg #[.int .i64 x.h, .int .i64 x.z, .int .i64 x.b, .int .i64 x.r, .int .i64 x.d, .int .i64 x.e, .int .i64 x.s, .int .i64 x.p, .int .i64 x.q, .int .i64 x.t, .slice A n c]] w fun e w' => e = .returned (.int .i64 (stashC x)) ∧ Below w.heap.size w w' := by
  have hs := h.s
  clear h
  go_enter Try.func82, Try.ntmps82
  go_wp2
  go_ret
  exact ⟨rfl, (by repeat (first | exact Below.refl _ _ | assumption | apply below_drewN' | apply Below.drew | refine Below.alloc ?_ (by first | omega | (simp; done) | (simp; omega)) _ | refine Below.setCell ?_ (by first | omega | (simp; done) | (simp; omega)) _))⟩
def clogLenC (x : Cfg) : Int := 6 + 42 * x.t
theorem lay_cloglen (x : Cfg) (A : Option Addr) (n c : Nat) (w : World) (h : x.B) : Calls Try.prog 47 #[.agg #[.int .i64 x.h, .int .i64 x.z, .int .i64 x.b, .int .i64 x.r, .int .i64 x.d, .int .i64 x.e, .int .i64 x.s, .int .i64 x.p, .int .i64 x.q, .int .i64 x.t, .slice A n c]] w fun e w' => e = .returned (.int .i64 (clogLenC x)) ∧ Below w.heap.size w w' := by
  have hs := h.t
  clear h
  go_enter Try.func47, Try.ntmps47
  go_wp2
  go_ret
  exact ⟨rfl, (by repeat (first | exact Below.refl _ _ | assumption | apply below_drewN' | apply Below.drew | refine Below.alloc ?_ (by first | omega | (simp; done) | (simp; omega)) _ | refine Below.setCell ?_ (by first | omega | (simp; done) | (simp; omega)) _))⟩

def clogsC (x : Cfg) : Int := 2 + slotsC x * cellsC x 12
theorem clogsC_range {x : Cfg} (h : x.B) : 3 ≤ clogsC x ∧ clogsC x ≤ 482 ∧ 1 ≤ slotsC x * cellsC x 12 ∧ slotsC x * cellsC x 12 ≤ 480 := by
  have a := slotsC_range h
  have b := cellsC_range h 12 (by omega)
  have c : 1 * 1 ≤ slotsC x * cellsC x 12 := Int.mul_le_mul (by omega) (by omega) (by omega) (by omega)
  have d : slotsC x * cellsC x 12 ≤ 40 * 12 := Int.mul_le_mul (by omega) (by omega) (by omega) (by omega)
  unfold clogsC
  omega
set_option maxHeartbeats 1000000 in
set_option maxRecDepth 100000 in
theorem lay_clogs (x : Cfg) (A : Option Addr) (n c : Nat) (w : World) (h : x.B) : Calls Try.prog 70 #[.agg #[.int .i64 x.h, .int .i64 x.z, .int .i64 x.b, .int .i64 x.r, .int .i64 x.d, .int .i64 x.e, .int .i64 x.s, .int .i64 x.p, .int .i64 x.q, .int .i64 x.t, .slice A n c]] w fun e w' => e = .returned (.int .i64 (clogsC x)) ∧ Below w.heap.size w w' := by
  have HS := Lib.hid (fun w => lay_slots x A n c w h)
  have HL := Lib.hid (fun w => lay_loglen x A n c w)
  have HC := Lib.hid (fun w => lay_cells x A n c 12 w h (by omega) (by omega))
  have r := clogsC_range h
  unfold clogsC at *
  clear h
  generalize slotsC x = s at *
  generalize cellsC x 12 = k at *
  have w1 : IntKind.i64.wrap (s * k) = s * k := IntWalk.i64_in _ (by omega)
  have w2 : IntKind.i64.wrap (2 + s * k) = 2 + s * k := IntWalk.i64_in _ (by omega)
  have hX0 := Blk.new w #[.int .i64 x.h, .int .i64 x.z, .int .i64 x.b, .int .i64 x.r, .int .i64 x.d, .int .i64 x.e, .int .i64 x.s, .int .i64 x.p, .int .i64 x.q, .int .i64 x.t, .slice A n c] 28
  have bb : Below w.heap.size w (w.alloc (.cells #[.int .i64 x.h, .int .i64 x.z, .int .i64 x.b, .int .i64 x.r, .int .i64 x.d, .int .i64 x.e, .int .i64 x.s, .int .i64 x.p, .int .i64 x.q, .int .i64 x.t, .slice A n c] 28)) := (by repeat (first | exact Below.refl _ _ | assumption | apply below_drewN' | apply Below.drew | refine Below.alloc ?_ (by first | omega | (simp; done) | (simp; omega)) _ | refine Below.setCell ?_ (by first | omega | (simp; done) | (simp; omega)) _))
  go_enter Try.func70, Try.ntmps70
  go_wp2_with fail
  generalize w.alloc (.cells #[.int .i64 x.h, .int .i64 x.z, .int .i64 x.b, .int .i64 x.r, .int .i64 x.d, .int .i64 x.e, .int .i64 x.s, .int .i64 x.p, .int .i64 x.q, .int .i64 x.t, .slice A n c] 28) = W1 at *
  have hX := hX0
  clear hX0
  have hXlt := hX.lt
  have keep := fun {w' w'' : World} (h : Below W1.heap.size W1 w') (hb : Below w'.heap.size w' w'') => bnext h hb
  have hvo := Free.val
  refine Free.wp_facts (M := [0, 1, 0, 0, 11, 31, 63, 127, 255]) (D := [[], [(0, 3)], [], [], [(3, 6)], [(2, 5), (4, 7)], [(1, 4), (5, 8)], [(6, 9)], [(7, 10)]]) (outs := [8]) (soles := []) (E := [(0, 3, false), (1, 4, false), (2, 5, false), (3, 6, false), (4, 7, false), (5, 8, false), (6, 9, false), (7, 10, false), (8, 2, true)]) (N := 11) (S := (fun w' => Below W1.heap.size W1 w')) [Free.Fact.is ?_, Free.Fact.is ?_, Free.Fact.is ?_, Free.Fact.is ?_, Free.Fact.is ?_, Free.Fact.is ?_, Free.Fact.is ?_, Free.Fact.is ?_, Free.Fact.is ?_] (by kernel_rfl) (by kernel_rfl) rfl ((Below.refl _ _).drew) ?_ ?_
  rotate_left 9
  refine Free.cons ?_ ?_
  · intro w' hS; intro K hK; have a0 := (hX.below hS hXlt).cell 0 (v := .int .i64 x.h) rfl; have a1 := (hX.below hS hXlt).cell 1 (v := .int .i64 x.z) rfl; have a2 := (hX.below hS hXlt).cell 2 (v := .int .i64 x.b) rfl; have a3 := (hX.below hS hXlt).cell 3 (v := .int .i64 x.r) rfl; have a4 := (hX.below hS hXlt).cell 4 (v := .int .i64 x.d) rfl; have a5 := (hX.below hS hXlt).cell 5 (v := .int .i64 x.e) rfl; have a6 := (hX.below hS hXlt).cell 6 (v := .int .i64 x.s) rfl; have a7 := (hX.below hS hXlt).cell 7 (v := .int .i64 x.p) rfl; have a8 := (hX.below hS hXlt).cell 8 (v := .int .i64 x.q) rfl; have a9 := (hX.below hS hXlt).cell 9 (v := .int .i64 x.t) rfl; have a10 := (hX.below hS hXlt).cell 10 (v := .slice A n c) rfl; first | (refine Free.run_yes (by rfl) ?_; go_simp; refine Free.o hK hS ?_; exact rfl) | (refine Free.run_no (by rfl) (Free.o hK hS ?_); exact rfl)
  refine Free.cons ?_ ?_
  · intro w' hS; (rintro _ rfl); intro K hK; have a0 := (hX.below hS hXlt).cell 0 (v := .int .i64 x.h) rfl; have a1 := (hX.below hS hXlt).cell 1 (v := .int .i64 x.z) rfl; have a2 := (hX.below hS hXlt).cell 2 (v := .int .i64 x.b) rfl; have a3 := (hX.below hS hXlt).cell 3 (v := .int .i64 x.r) rfl; have a4 := (hX.below hS hXlt).cell 4 (v := .int .i64 x.d) rfl; have a5 := (hX.below hS hXlt).cell 5 (v := .int .i64 x.e) rfl; have a6 := (hX.below hS hXlt).cell 6 (v := .int .i64 x.s) rfl; have a7 := (hX.below hS hXlt).cell 7 (v := .int .i64 x.p) rfl; have a8 := (hX.below hS hXlt).cell 8 (v := .int .i64 x.q) rfl; have a9 := (hX.below hS hXlt).cell 9 (v := .int .i64 x.t) rfl; have a10 := (hX.below hS hXlt).cell 10 (v := .slice A n c) rfl; first | (refine Free.run_yes (by rfl) ?_; go_simp; (first | (go_at_call 18; refine (HS.out _).mono ?_; rintro e w' ⟨rfl, hb⟩) | (go_at_call 42; refine (HL.out _).mono ?_; rintro e w' ⟨rfl, hb⟩) | (go_at_call 79; refine (HC.out _).mono ?_; rintro e w' ⟨rfl, hb⟩)); go_simp; refine Free.c hK (keep hS hb) hb ?_; exact rfl) | (refine Free.run_no (by rfl) (Free.o hK hS ?_); exact rfl)
  refine Free.cons ?_ ?_
  · intro w' hS; intro K hK; have a0 := (hX.below hS hXlt).cell 0 (v := .int .i64 x.h) rfl; have a1 := (hX.below hS hXlt).cell 1 (v := .int .i64 x.z) rfl; have a2 := (hX.below hS hXlt).cell 2 (v := .int .i64 x.b) rfl; have a3 := (hX.below hS hXlt).cell 3 (v := .int .i64 x.r) rfl; have a4 := (hX.below hS hXlt).cell 4 (v := .int .i64 x.d) rfl; have a5 := (hX.below hS hXlt).cell 5 (v := .int .i64 x.e) rfl; have a6 := (hX.below hS hXlt).cell 6 (v := .int .i64 x.s) rfl; have a7 := (hX.below hS hXlt).cell 7 (v := .int .i64 x.p) rfl; have a8 := (hX.below hS hXlt).cell 8 (v := .int .i64 x.q) rfl; have a9 := (hX.below hS hXlt).cell 9 (v := .int .i64 x.t) rfl; have a10 := (hX.below hS hXlt).cell 10 (v := .slice A n c) rfl; first | (refine Free.run_yes (by rfl) ?_; go_simp; refine Free.o hK hS ?_; exact rfl) | (refine Free.run_no (by rfl) (Free.o hK hS ?_); exact rfl)
  refine Free.cons ?_ ?_
  · intro w' hS; intro K hK; have a0 := (hX.below hS hXlt).cell 0 (v := .int .i64 x.h) rfl; have a1 := (hX.below hS hXlt).cell 1 (v := .int .i64 x.z) rfl; have a2 := (hX.below hS hXlt).cell 2 (v := .int .i64 x.b) rfl; have a3 := (hX.below hS hXlt).cell 3 (v := .int .i64 x.r) rfl; have a4 := (hX.below hS hXlt).cell 4 (v := .int .i64 x.d) rfl; have a5 := (hX.below hS hXlt).cell 5 (v := .int .i64 x.e) rfl; have a6 := (hX.below hS hXlt).cell 6 (v := .int .i64 x.s) rfl; have a7 := (hX.below hS hXlt).cell 7 (v := .int .i64 x.p) rfl; have a8 := (hX.below hS hXlt).cell 8 (v := .int .i64 x.q) rfl; have a9 := (hX.below hS hXlt).cell 9 (v := .int .i64 x.t) rfl; have a10 := (hX.below hS hXlt).cell 10 (v := .slice A n c) rfl; first | (refine Free.run_yes (by rfl) ?_; go_simp; refine Free.o hK hS ?_; exact rfl) | (refine Free.run_no (by rfl) (Free.o hK hS ?_); exact rfl)
  refine Free.cons ?_ ?_
  · intro w' hS; (rintro _ rfl); intro K hK; have a0 := (hX.below hS hXlt).cell 0 (v := .int .i64 x.h) rfl; have a1 := (hX.below hS hXlt).cell 1 (v := .int .i64 x.z) rfl; have a2 := (hX.below hS hXlt).cell 2 (v := .int .i64 x.b) rfl; have a3 := (hX.below hS hXlt).cell 3 (v := .int .i64 x.r) rfl; have a4 := (hX.below hS hXlt).cell 4 (v := .int .i64 x.d) rfl; have a5 := (hX.below hS hXlt).cell 5 (v := .int .i64 x.e) rfl; have a6 := (hX.below hS hXlt).cell 6 (v := .int .i64 x.s) rfl; have a7 := (hX.below hS hXlt).cell 7 (v := .int .i64 x.p) rfl; have a8 := (hX.below hS hXlt).cell 8 (v := .int .i64 x.q) rfl; have a9 := (hX.below hS hXlt).cell 9 (v := .int .i64 x.t) rfl; have a10 := (hX.below hS hXlt).cell 10 (v := .slice A n c) rfl; first | (refine Free.run_yes (by rfl) ?_; go_simp; (first | (go_at_call 18; refine (HS.out _).mono ?_; rintro e w' ⟨rfl, hb⟩) | (go_at_call 42; refine (HL.out _).mono ?_; rintro e w' ⟨rfl, hb⟩) | (go_at_call 79; refine (HC.out _).mono ?_; rintro e w' ⟨rfl, hb⟩)); go_simp; refine Free.c hK (keep hS hb) hb ?_; exact rfl) | (refine Free.run_no (by rfl) (Free.o hK hS ?_); exact rfl)
  refine Free.cons ?_ ?_
  · intro w' hS; (rintro _ rfl); (rintro _ rfl); intro K hK; have a0 := (hX.below hS hXlt).cell 0 (v := .int .i64 x.h) rfl; have a1 := (hX.below hS hXlt).cell 1 (v := .int .i64 x.z) rfl; have a2 := (hX.below hS hXlt).cell 2 (v := .int .i64 x.b) rfl; have a3 := (hX.below hS hXlt).cell 3 (v := .int .i64 x.r) rfl; have a4 := (hX.below hS hXlt).cell 4 (v := .int .i64 x.d) rfl; have a5 := (hX.below hS hXlt).cell 5 (v := .int .i64 x.e) rfl; have a6 := (hX.below hS hXlt).cell 6 (v := .int .i64 x.s) rfl; have a7 := (hX.below hS hXlt).cell 7 (v := .int .i64 x.p) rfl; have a8 := (hX.below hS hXlt).cell 8 (v := .int .i64 x.q) rfl; have a9 := (hX.below hS hXlt).cell 9 (v := .int .i64 x.t) rfl; have a10 := (hX.below hS hXlt).cell 10 (v := .slice A n c) rfl; first | (refine Free.run_yes (by rfl) ?_; go_simp; (first | (go_at_call 18; refine (HS.out _).mono ?_; rintro e w' ⟨rfl, hb⟩) | (go_at_call 42; refine (HL.out _).mono ?_; rintro e w' ⟨rfl, hb⟩) | (go_at_call 79; refine (HC.out _).mono ?_; rintro e w' ⟨rfl, hb⟩)); go_simp; refine Free.c hK (keep hS hb) hb ?_; exact rfl) | (refine Free.run_no (by rfl) (Free.o hK hS ?_); exact rfl)
  refine Free.cons ?_ ?_
  · intro w' hS; (rintro _ rfl); (rintro _ rfl); intro K hK; have a0 := (hX.below hS hXlt).cell 0 (v := .int .i64 x.h) rfl; have a1 := (hX.below hS hXlt).cell 1 (v := .int .i64 x.z) rfl; have a2 := (hX.below hS hXlt).cell 2 (v := .int .i64 x.b) rfl; have a3 := (hX.below hS hXlt).cell 3 (v := .int .i64 x.r) rfl; have a4 := (hX.below hS hXlt).cell 4 (v := .int .i64 x.d) rfl; have a5 := (hX.below hS hXlt).cell 5 (v := .int .i64 x.e) rfl; have a6 := (hX.below hS hXlt).cell 6 (v := .int .i64 x.s) rfl; have a7 := (hX.below hS hXlt).cell 7 (v := .int .i64 x.p) rfl; have a8 := (hX.below hS hXlt).cell 8 (v := .int .i64 x.q) rfl; have a9 := (hX.below hS hXlt).cell 9 (v := .int .i64 x.t) rfl; have a10 := (hX.below hS hXlt).cell 10 (v := .slice A n c) rfl; first | (refine Free.run_yes (by rfl) ?_; go_simp; refine Free.o hK hS ?_; exact rfl) | (refine Free.run_no (by rfl) (Free.o hK hS ?_); exact rfl)
  refine Free.cons ?_ ?_
  · intro w' hS; (rintro _ rfl); intro K hK; have a0 := (hX.below hS hXlt).cell 0 (v := .int .i64 x.h) rfl; have a1 := (hX.below hS hXlt).cell 1 (v := .int .i64 x.z) rfl; have a2 := (hX.below hS hXlt).cell 2 (v := .int .i64 x.b) rfl; have a3 := (hX.below hS hXlt).cell 3 (v := .int .i64 x.r) rfl; have a4 := (hX.below hS hXlt).cell 4 (v := .int .i64 x.d) rfl; have a5 := (hX.below hS hXlt).cell 5 (v := .int .i64 x.e) rfl; have a6 := (hX.below hS hXlt).cell 6 (v := .int .i64 x.s) rfl; have a7 := (hX.below hS hXlt).cell 7 (v := .int .i64 x.p) rfl; have a8 := (hX.below hS hXlt).cell 8 (v := .int .i64 x.q) rfl; have a9 := (hX.below hS hXlt).cell 9 (v := .int .i64 x.t) rfl; have a10 := (hX.below hS hXlt).cell 10 (v := .slice A n c) rfl; first | (refine Free.run_yes (by rfl) ?_; go_simp; refine Free.o hK hS ?_; exact rfl) | (refine Free.run_no (by rfl) (Free.o hK hS ?_); exact rfl)
  refine Free.cons ?_ ?_
  · intro w' hS; (rintro _ rfl); intro K hK; have a0 := (hX.below hS hXlt).cell 0 (v := .int .i64 x.h) rfl; have a1 := (hX.below hS hXlt).cell 1 (v := .int .i64 x.z) rfl; have a2 := (hX.below hS hXlt).cell 2 (v := .int .i64 x.b) rfl; have a3 := (hX.below hS hXlt).cell 3 (v := .int .i64 x.r) rfl; have a4 := (hX.below hS hXlt).cell 4 (v := .int .i64 x.d) rfl; have a5 := (hX.below hS hXlt).cell 5 (v := .int .i64 x.e) rfl; have a6 := (hX.below hS hXlt).cell 6 (v := .int .i64 x.s) rfl; have a7 := (hX.below hS hXlt).cell 7 (v := .int .i64 x.p) rfl; have a8 := (hX.below hS hXlt).cell 8 (v := .int .i64 x.q) rfl; have a9 := (hX.below hS hXlt).cell 9 (v := .int .i64 x.t) rfl; have a10 := (hX.below hS hXlt).cell 10 (v := .slice A n c) rfl; first | (refine Free.run_yes (by rfl) ?_; go_simp; refine Free.o hK hS ?_; exact rfl) | (refine Free.run_no (by rfl) (Free.o hK hS ?_); exact rfl)
  exact Free.nil
  clear hvo
  intro w' hS; intro v0; intro v1; intro v2; intro v3; intro v4; intro v5; intro v6; intro v7; (rintro _ rfl); (try simp only [Act.put, List.setIfInBounds_toArray, List.set_cons_zero, List.set_cons_succ]); refine Free.toldE_nil ?_
  go_wp2
  go_ret
  exact ⟨rfl, bnext bb hS⟩
end Go.Proofs.Ytdmjiaicgbcodaa
