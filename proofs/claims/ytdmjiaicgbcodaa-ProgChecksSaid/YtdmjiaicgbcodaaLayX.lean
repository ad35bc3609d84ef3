/- The document of chapter 13: areas. -/
import Derived.Test.YtdmjiaicgbcodaaLayW
namespace Go.Proofs.Ytdmjiaicgbcodaa
open Go.ChangeShapes Go.WideShapes Go.ChangeAt Go.RowKit
open Go.ChangeMaps (open_string shut_string)
set_option linter.unusedVariables false
set_option linter.unusedSimpArgs false

theorem arr_at (u0 u1 u2 u3 u4 u5 : Int) (w : World) : (Instr.index 70 (.agg #[.int .i64 u0, .int .i64 u1, .int .i64 u2, .int .i64 u3, .int .i64 u4, .int .i64 u5]) (.int .i64 0)).run Try.prog w = .ok (.int .i64 u0) w ∧ (Instr.index 70 (.agg #[.int .i64 u0, .int .i64 u1, .int .i64 u2, .int .i64 u3, .int .i64 u4, .int .i64 u5]) (.int .i64 1)).run Try.prog w = .ok (.int .i64 u1) w ∧ (Instr.index 70 (.agg #[.int .i64 u0, .int .i64 u1, .int .i64 u2, .int .i64 u3, .int .i64 u4, .int .i64 u5]) (.int .i64 2)).run Try.prog w = .ok (.int .i64 u2) w ∧ (Instr.index 70 (.agg #[.int .i64 u0, .int .i64 u1, .int .i64 u2, .int .i64 u3, .int .i64 u4, .int .i64 u5]) (.int .i64 3)).run Try.prog w = .ok (.int .i64 u3) w ∧ (Instr.index 70 (.agg #[.int .i64 u0, .int .i64 u1, .int .i64 u2, .int .i64 u3, .int .i64 u4, .int .i64 u5]) (.int .i64 4)).run Try.prog w = .ok (.int .i64 u4) w ∧ (Instr.index 70 (.agg #[.int .i64 u0, .int .i64 u1, .int .i64 u2, .int .i64 u3, .int .i64 u4, .int .i64 u5]) (.int .i64 5)).run Try.prog w = .ok (.int .i64 u5) w := ⟨rfl, rfl, rfl, rfl, rfl, rfl⟩

def fullA (x : Cfg) (q : Int) : Int × Int := if q < 0 then (0, 0) else fullC x q
def deltaA (x : Cfg) (q : Int) : Int × Int := if q < 0 then (0, 0) else deltaC x q
def checkA (x : Cfg) (q : Int) : Int × Int := if q < 0 then (0, 0) else checkC x q
def clogA (x : Cfg) (q : Int) : Int × Int := if q < 0 then (0, 0) else clogC x q

set_option maxHeartbeats 1000000 in
set_option maxRecDepth 100000 in
theorem ref_log (x : Cfg) (A : Option Addr) (n c : Nat) (i : Int) (w : World) (h : x.B) :
    Calls Try.prog 50 #[.agg #[.int .i64 x.h, .int .i64 x.z, .int .i64 x.b, .int .i64 x.r, .int .i64 x.d, .int .i64 x.e, .int .i64 x.s, .int .i64 x.p, .int .i64 x.q, .int .i64 x.t, .slice A n c], .int .i64 i] w fun e w' => e = .returned (.agg #[.int .i64 ((logC x i).1), .int .i64 ((logC x i).2)]) ∧ Below w.heap.size w w' := by
  have HS := Lib.hid (fun w => ref_slots x A n c w h)
  have HC := Lib.hid (fun w => ref_cells x A n c 12 w h (by omega) (by omega))
  have HT := Lib.hid (fun w => ref_starts x A n c w h)
  have ix := fun w => arr_at 2 (clogsC x) (deltasC x) (fullsC x) (bucketsC x) (totalC x) w
  have r := slotsC_range h
  have rk := cellsC_range h 12 (by omega)
  unfold logC
  clear h
  generalize cellsC x 12 = k at *
  generalize slotsC x = s at *
  generalize clogsC x = t1 at *
  generalize deltasC x = t2 at *
  generalize fullsC x = t3 at *
  generalize bucketsC x = t4 at *
  generalize totalC x = t5 at *
  have ix0 := fun w => (ix w).1
  clear ix
  have bb : Below w.heap.size w ((w.alloc (.cells #[.int .i64 x.h, .int .i64 x.z, .int .i64 x.b, .int .i64 x.r, .int .i64 x.d, .int .i64 x.e, .int .i64 x.s, .int .i64 x.p, .int .i64 x.q, .int .i64 x.t, .slice A n c] 24)).alloc (.cells #[.int .i64 0, .int .i64 0] 56)) := (by repeat (first | exact Below.refl _ _ | assumption | apply below_drewN' | apply Below.drew | refine Below.alloc ?_ (by first | omega | (simp; done) | (simp; omega)) _ | refine Below.setCell ?_ (by first | omega | (simp; done) | (simp; omega)) _))
  have hr0 := Blk.new2 w (.cells #[.int .i64 x.h, .int .i64 x.z, .int .i64 x.b, .int .i64 x.r, .int .i64 x.d, .int .i64 x.e, .int .i64 x.s, .int .i64 x.p, .int .i64 x.q, .int .i64 x.t, .slice A n c] 24) #[.int .i64 0, .int .i64 0] 56
  have hx0 := (Blk.new w #[.int .i64 x.h, .int .i64 x.z, .int .i64 x.b, .int .i64 x.r, .int .i64 x.d, .int .i64 x.e, .int .i64 x.s, .int .i64 x.p, .int .i64 x.q, .int .i64 x.t, .slice A n c] 24).alloc (.cells #[.int .i64 0, .int .i64 0] 56)
  by_cases i0 : i < 0
  · rw [if_neg (by simp [inR]; omega)]
    go_enter Try.func50, Try.ntmps50
    go_wp2
    have z0 := hr0.cell 0 (v := .int .i64 0) rfl
    have z1 := hr0.cell 1 (v := .int .i64 0) rfl
    refine bodyPost_ret (v := .agg #[.int .i64 (0), .int .i64 (0)]) (by simp [results, Try.results50, go_sem, z0, z1]) rfl ⟨rfl, bb⟩
  · by_cases i1 : s ≤ i
    · rw [if_neg (by simp [inR]; omega)]
      go_enter Try.func50, Try.ntmps50
      go_wp2_with fail
      generalize (w.alloc (.cells #[.int .i64 x.h, .int .i64 x.z, .int .i64 x.b, .int .i64 x.r, .int .i64 x.d, .int .i64 x.e, .int .i64 x.s, .int .i64 x.p, .int .i64 x.q, .int .i64 x.t, .slice A n c] 24)).alloc (.cells #[.int .i64 0, .int .i64 0] 56) = W1 at *
      refine (HS.out _).mono ?_
      rintro e w3 ⟨rfl, e3⟩
      have hr := hr0.below e3 hr0.lt
      replace bb := bnext bb e3
      clear hr0 hx0 e3
      have c0 := hr.cell 0 (v := .int .i64 0) rfl
      have c1 := hr.cell 1 (v := .int .i64 0) rfl
      have g0 := hr.fz 0
      have g1 := hr.fz 1
      have hf := (hr.set 0 (.int .i64 (0))).set 1 (.int .i64 (0))
      go_wp2
      have bF : Below w.heap.size w ((w3.setCell ⟨w.heap.size + 1, 0, none⟩ (.int .i64 (0))).setCell ⟨w.heap.size + 1, 1, none⟩ (.int .i64 (0))) := (by repeat (first | exact Below.refl _ _ | assumption | apply below_drewN' | apply Below.drew | refine Below.alloc ?_ (by first | omega | (simp; done) | (simp; omega)) _ | refine Below.setCell ?_ (by first | omega | (simp; done) | (simp; omega)) _))
      generalize (w3.setCell ⟨w.heap.size + 1, 0, none⟩ (.int .i64 (0))).setCell ⟨w.heap.size + 1, 1, none⟩ (.int .i64 (0)) = WF at *
      have z0 := hf.cell 0 (v := .int .i64 (0)) rfl
      have z1 := hf.cell 1 (v := .int .i64 (0)) rfl
      refine bodyPost_ret (v := .agg #[.int .i64 (0), .int .i64 (0)]) (by simp [results, Try.results50, go_sem, z0, z1]) rfl ⟨rfl, bF⟩
    · rw [if_pos (by simp [inR]; omega)]
      have m0 : 0 ≤ i * k := Int.mul_nonneg (by omega) (by omega)
      have m1 : i * k ≤ 40 * 12 := Int.mul_le_mul (by omega) (by omega) (by omega) (by omega)
      have w1 : IntKind.i64.wrap (i * k) = i * k := IntWalk.i64_in _ (by omega)
      have w2 : IntKind.i64.wrap (2 + i * k) = 2 + i * k := IntWalk.i64_in _ (by omega)
      go_enter Try.func50, Try.ntmps50
      go_wp2_with fail
      generalize (w.alloc (.cells #[.int .i64 x.h, .int .i64 x.z, .int .i64 x.b, .int .i64 x.r, .int .i64 x.d, .int .i64 x.e, .int .i64 x.s, .int .i64 x.p, .int .i64 x.q, .int .i64 x.t, .slice A n c] 24)).alloc (.cells #[.int .i64 0, .int .i64 0] 56) = W1 at *
      refine (HS.out _).mono ?_
      rintro e w3 ⟨rfl, e3⟩
      have hr := hr0.below e3 hr0.lt
      have hX := hx0.below e3 hx0.lt
      replace bb := bnext bb e3
      clear hr0 hx0 e3
      have a0 := hX.cell 0 (v := .int .i64 x.h) rfl; have a1 := hX.cell 1 (v := .int .i64 x.z) rfl; have a2 := hX.cell 2 (v := .int .i64 x.b) rfl; have a3 := hX.cell 3 (v := .int .i64 x.r) rfl; have a4 := hX.cell 4 (v := .int .i64 x.d) rfl; have a5 := hX.cell 5 (v := .int .i64 x.e) rfl; have a6 := hX.cell 6 (v := .int .i64 x.s) rfl; have a7 := hX.cell 7 (v := .int .i64 x.p) rfl; have a8 := hX.cell 8 (v := .int .i64 x.q) rfl; have a9 := hX.cell 9 (v := .int .i64 x.t) rfl; have a10 := hX.cell 10 (v := .slice A n c) rfl
      go_wp2_with fail
      refine (HC.out _).mono ?_
      rintro e w4 ⟨rfl, e3⟩
      replace hr := hr.below e3 hr.lt
      replace hX := hX.below e3 hX.lt
      replace bb := bnext bb e3
      clear e3 a0 a1 a2 a3 a4 a5 a6 a7 a8 a9 a10
      have a0 := hX.cell 0 (v := .int .i64 x.h) rfl; have a1 := hX.cell 1 (v := .int .i64 x.z) rfl; have a2 := hX.cell 2 (v := .int .i64 x.b) rfl; have a3 := hX.cell 3 (v := .int .i64 x.r) rfl; have a4 := hX.cell 4 (v := .int .i64 x.d) rfl; have a5 := hX.cell 5 (v := .int .i64 x.e) rfl; have a6 := hX.cell 6 (v := .int .i64 x.s) rfl; have a7 := hX.cell 7 (v := .int .i64 x.p) rfl; have a8 := hX.cell 8 (v := .int .i64 x.q) rfl; have a9 := hX.cell 9 (v := .int .i64 x.t) rfl; have a10 := hX.cell 10 (v := .slice A n c) rfl
      go_wp2_with fail
      refine (HT.out _).mono ?_
      rintro e w5 ⟨rfl, e3⟩
      replace hr := hr.below e3 hr.lt
      replace bb := bnext bb e3
      clear e3 a0 a1 a2 a3 a4 a5 a6 a7 a8 a9 a10 hX
      have c0 := hr.cell 0 (v := .int .i64 0) rfl
      have c1 := hr.cell 1 (v := .int .i64 0) rfl
      have g0 := hr.fz 0
      have g1 := hr.fz 1
      have hf := (hr.set 0 (.int .i64 (2 + i * k))).set 1 (.int .i64 (k))
      go_wp2
      have bF : Below w.heap.size w ((w5.setCell ⟨w.heap.size + 1, 0, none⟩ (.int .i64 (2 + i * k))).setCell ⟨w.heap.size + 1, 1, none⟩ (.int .i64 (k))) := (by repeat (first | exact Below.refl _ _ | assumption | apply below_drewN' | apply Below.drew | refine Below.alloc ?_ (by first | omega | (simp; done) | (simp; omega)) _ | refine Below.setCell ?_ (by first | omega | (simp; done) | (simp; omega)) _))
      generalize (w5.setCell ⟨w.heap.size + 1, 0, none⟩ (.int .i64 (2 + i * k))).setCell ⟨w.heap.size + 1, 1, none⟩ (.int .i64 (k)) = WF at *
      have z0 := hf.cell 0 (v := .int .i64 (2 + i * k)) rfl
      have z1 := hf.cell 1 (v := .int .i64 (k)) rfl
      refine bodyPost_ret (v := .agg #[.int .i64 (2 + i * k), .int .i64 (k)]) (by simp [results, Try.results50, go_sem, z0, z1]) rfl ⟨rfl, bF⟩

set_option maxHeartbeats 1000000 in
set_option maxRecDepth 100000 in
theorem ref_clog (x : Cfg) (A : Option Addr) (n c : Nat) (q : Int) (w : World) (h : x.B) (q1 : q ≤ 4503599627370496) :
    Calls Try.prog 51 #[.agg #[.int .i64 x.h, .int .i64 x.z, .int .i64 x.b, .int .i64 x.r, .int .i64 x.d, .int .i64 x.e, .int .i64 x.s, .int .i64 x.p, .int .i64 x.q, .int .i64 x.t, .slice A n c], .int .i64 q] w fun e w' => e = .returned (.agg #[.int .i64 ((clogA x q).1), .int .i64 ((clogA x q).2)]) ∧ Below w.heap.size w w' := by
  have HL := Lib.hid (fun w => ref_cloglen x A n c w h)
  have l0 := clogLenC_range h
  have HC := Lib.hid (fun w => ref_cells x A n c (clogLenC x) w h l0.1 (by omega))
  have HT := Lib.hid (fun w => ref_starts x A n c w h)
  have ix := fun w => arr_at 2 (clogsC x) (deltasC x) (fullsC x) (bucketsC x) (totalC x) w
  have rs := clogsC_range h
  have rk := cellsC_range h _ l0.1
  have hp := h.p
  unfold clogA
  have bb : Below w.heap.size w ((w.alloc (.cells #[.int .i64 x.h, .int .i64 x.z, .int .i64 x.b, .int .i64 x.r, .int .i64 x.d, .int .i64 x.e, .int .i64 x.s, .int .i64 x.p, .int .i64 x.q, .int .i64 x.t, .slice A n c] 24)).alloc (.cells #[.int .i64 0, .int .i64 0] 56)) := (by repeat (first | exact Below.refl _ _ | assumption | apply below_drewN' | apply Below.drew | refine Below.alloc ?_ (by first | omega | (simp; done) | (simp; omega)) _ | refine Below.setCell ?_ (by first | omega | (simp; done) | (simp; omega)) _))
  have hr0 := Blk.new2 w (.cells #[.int .i64 x.h, .int .i64 x.z, .int .i64 x.b, .int .i64 x.r, .int .i64 x.d, .int .i64 x.e, .int .i64 x.s, .int .i64 x.p, .int .i64 x.q, .int .i64 x.t, .slice A n c] 24) #[.int .i64 0, .int .i64 0] 56
  have hx0 := (Blk.new w #[.int .i64 x.h, .int .i64 x.z, .int .i64 x.b, .int .i64 x.r, .int .i64 x.d, .int .i64 x.e, .int .i64 x.s, .int .i64 x.p, .int .i64 x.q, .int .i64 x.t, .slice A n c] 24).alloc (.cells #[.int .i64 0, .int .i64 0] 56)
  by_cases i0 : q < 0
  · rw [if_pos i0]
    clear h HL HC HT ix
    go_enter Try.func51, Try.ntmps51
    go_wp2
    have z0 := hr0.cell 0 (v := .int .i64 0) rfl
    have z1 := hr0.cell 1 (v := .int .i64 0) rfl
    refine bodyPost_ret (v := .agg #[.int .i64 (0), .int .i64 (0)]) (by simp [results, Try.results51, go_sem, z0, z1]) rfl ⟨rfl, bb⟩
  · rw [if_neg i0]
    have e2 : q.tmod 2 = q % 2 := Int.tmod_eq_emod_of_nonneg (by omega)
    have m0 : q % 2 = 0 ∨ q % 2 = 1 := by omega
    unfold clogC
    clear h
    generalize cellsC x (clogLenC x) = k at *
    generalize clogLenC x = m at *
    generalize clogsC x = t1 at *
    generalize deltasC x = t2 at *
    generalize fullsC x = t3 at *
    generalize bucketsC x = t4 at *
    generalize totalC x = t5 at *
    generalize q % 2 = r2 at *
    have m1 : 0 ≤ r2 * k ∧ r2 * k ≤ k := by rcases m0 with rfl | rfl <;> omega
    have w0 : IntKind.i64.wrap r2 = r2 := IntWalk.i64_in _ (by omega)
    have w1 : IntKind.i64.wrap (r2 * k) = r2 * k := IntWalk.i64_in _ (by omega)
    have w2 : IntKind.i64.wrap (t1 + r2 * k) = t1 + r2 * k := IntWalk.i64_in _ (by omega)
    have ix1 := fun w => (ix w).2.1
    clear ix
    go_enter Try.func51, Try.ntmps51
    go_wp2_with fail
    generalize (w.alloc (.cells #[.int .i64 x.h, .int .i64 x.z, .int .i64 x.b, .int .i64 x.r, .int .i64 x.d, .int .i64 x.e, .int .i64 x.s, .int .i64 x.p, .int .i64 x.q, .int .i64 x.t, .slice A n c] 24)).alloc (.cells #[.int .i64 0, .int .i64 0] 56) = W1 at *
    have keep := fun {w' w'' : World} (h : (fun w' => Blk w' w.heap.size #[.int .i64 x.h, .int .i64 x.z, .int .i64 x.b, .int .i64 x.r, .int .i64 x.d, .int .i64 x.e, .int .i64 x.s, .int .i64 x.p, .int .i64 x.q, .int .i64 x.t, .slice A n c] 24 ∧ Blk w' (w.heap.size + 1) #[.int .i64 0, .int .i64 0] 56 ∧ Below w.heap.size w w') w') (hb : Below w'.heap.size w' w'') => (⟨h.1.below hb h.1.lt, h.2.1.below hb h.2.1.lt, bnext h.2.2 hb⟩ : (fun w' => Blk w' w.heap.size #[.int .i64 x.h, .int .i64 x.z, .int .i64 x.b, .int .i64 x.r, .int .i64 x.d, .int .i64 x.e, .int .i64 x.s, .int .i64 x.p, .int .i64 x.q, .int .i64 x.t, .slice A n c] 24 ∧ Blk w' (w.heap.size + 1) #[.int .i64 0, .int .i64 0] 56 ∧ Below w.heap.size w w') w'')
    have hvo := Free.val
    refine Free.wp_facts (M := [0, 0, 2, 7, 15]) (D := [[], [], [(1, 10)], [(0, 9), (2, 11)], [(3, 12)]]) (outs := [4]) (soles := []) (E := [(0, 9, false), (1, 10, false), (2, 11, false), (3, 12, false), (4, 5, true)]) (N := 23) (S := (fun w' => Blk w' w.heap.size #[.int .i64 x.h, .int .i64 x.z, .int .i64 x.b, .int .i64 x.r, .int .i64 x.d, .int .i64 x.e, .int .i64 x.s, .int .i64 x.p, .int .i64 x.q, .int .i64 x.t, .slice A n c] 24 ∧ Blk w' (w.heap.size + 1) #[.int .i64 0, .int .i64 0] 56 ∧ Below w.heap.size w w')) [Free.Fact.is ?_, Free.Fact.is ?_, Free.Fact.is ?_, Free.Fact.is ?_, Free.Fact.is ?_] (by kernel_rfl) (by kernel_rfl) rfl (⟨hx0.drew, hr0.drew, bb.drew⟩) ?_ ?_
    rotate_left 5
    refine Free.cons ?_ ?_
    · intro w' hS; intro K hK; have hX := hS.1; have hXlt := hX.lt; have a0 := hX.cell 0 (v := .int .i64 x.h) rfl; have a1 := hX.cell 1 (v := .int .i64 x.z) rfl; have a2 := hX.cell 2 (v := .int .i64 x.b) rfl; have a3 := hX.cell 3 (v := .int .i64 x.r) rfl; have a4 := hX.cell 4 (v := .int .i64 x.d) rfl; have a5 := hX.cell 5 (v := .int .i64 x.e) rfl; have a6 := hX.cell 6 (v := .int .i64 x.s) rfl; have a7 := hX.cell 7 (v := .int .i64 x.p) rfl; have a8 := hX.cell 8 (v := .int .i64 x.q) rfl; have a9 := hX.cell 9 (v := .int .i64 x.t) rfl; have a10 := hX.cell 10 (v := .slice A n c) rfl; first | (refine Free.run_yes (by rfl) ?_; go_simp; refine Free.o hK hS ?_; exact rfl) | (refine Free.run_no (by rfl) (Free.o hK hS ?_); exact rfl)
    refine Free.cons ?_ ?_
    · intro w' hS; intro K hK; have hX := hS.1; have hXlt := hX.lt; have a0 := hX.cell 0 (v := .int .i64 x.h) rfl; have a1 := hX.cell 1 (v := .int .i64 x.z) rfl; have a2 := hX.cell 2 (v := .int .i64 x.b) rfl; have a3 := hX.cell 3 (v := .int .i64 x.r) rfl; have a4 := hX.cell 4 (v := .int .i64 x.d) rfl; have a5 := hX.cell 5 (v := .int .i64 x.e) rfl; have a6 := hX.cell 6 (v := .int .i64 x.s) rfl; have a7 := hX.cell 7 (v := .int .i64 x.p) rfl; have a8 := hX.cell 8 (v := .int .i64 x.q) rfl; have a9 := hX.cell 9 (v := .int .i64 x.t) rfl; have a10 := hX.cell 10 (v := .slice A n c) rfl; first | (refine Free.run_yes (by rfl) ?_; go_simp; refine Free.o hK hS ?_; exact rfl) | (refine Free.run_no (by rfl) (Free.o hK hS ?_); exact rfl)
    refine Free.cons ?_ ?_
    · intro w' hS; (rintro _ rfl); intro K hK; have hX := hS.1; have hXlt := hX.lt; have a0 := hX.cell 0 (v := .int .i64 x.h) rfl; have a1 := hX.cell 1 (v := .int .i64 x.z) rfl; have a2 := hX.cell 2 (v := .int .i64 x.b) rfl; have a3 := hX.cell 3 (v := .int .i64 x.r) rfl; have a4 := hX.cell 4 (v := .int .i64 x.d) rfl; have a5 := hX.cell 5 (v := .int .i64 x.e) rfl; have a6 := hX.cell 6 (v := .int .i64 x.s) rfl; have a7 := hX.cell 7 (v := .int .i64 x.p) rfl; have a8 := hX.cell 8 (v := .int .i64 x.q) rfl; have a9 := hX.cell 9 (v := .int .i64 x.t) rfl; have a10 := hX.cell 10 (v := .slice A n c) rfl; first | (refine Free.run_yes (by rfl) ?_; go_simp; (first | (go_at_call 48; refine (HL.out _).mono ?_; rintro e w' ⟨rfl, hb⟩) | (go_at_call 86; refine (HC.out _).mono ?_; rintro e w' ⟨rfl, hb⟩)); go_simp; refine Free.c hK (keep hS hb) hb ?_; exact rfl) | (refine Free.run_no (by rfl) (Free.o hK hS ?_); exact rfl)
    refine Free.cons ?_ ?_
    · intro w' hS; (rintro _ rfl); (rintro _ rfl); intro K hK; have hX := hS.1; have hXlt := hX.lt; have a0 := hX.cell 0 (v := .int .i64 x.h) rfl; have a1 := hX.cell 1 (v := .int .i64 x.z) rfl; have a2 := hX.cell 2 (v := .int .i64 x.b) rfl; have a3 := hX.cell 3 (v := .int .i64 x.r) rfl; have a4 := hX.cell 4 (v := .int .i64 x.d) rfl; have a5 := hX.cell 5 (v := .int .i64 x.e) rfl; have a6 := hX.cell 6 (v := .int .i64 x.s) rfl; have a7 := hX.cell 7 (v := .int .i64 x.p) rfl; have a8 := hX.cell 8 (v := .int .i64 x.q) rfl; have a9 := hX.cell 9 (v := .int .i64 x.t) rfl; have a10 := hX.cell 10 (v := .slice A n c) rfl; first | (refine Free.run_yes (by rfl) ?_; go_simp; (first | (go_at_call 48; refine (HL.out _).mono ?_; rintro e w' ⟨rfl, hb⟩) | (go_at_call 86; refine (HC.out _).mono ?_; rintro e w' ⟨rfl, hb⟩)); go_simp; refine Free.c hK (keep hS hb) hb ?_; exact rfl) | (refine Free.run_no (by rfl) (Free.o hK hS ?_); exact rfl)
    refine Free.cons ?_ ?_
    · intro w' hS; (rintro _ rfl); intro K hK; have hX := hS.1; have hXlt := hX.lt; have a0 := hX.cell 0 (v := .int .i64 x.h) rfl; have a1 := hX.cell 1 (v := .int .i64 x.z) rfl; have a2 := hX.cell 2 (v := .int .i64 x.b) rfl; have a3 := hX.cell 3 (v := .int .i64 x.r) rfl; have a4 := hX.cell 4 (v := .int .i64 x.d) rfl; have a5 := hX.cell 5 (v := .int .i64 x.e) rfl; have a6 := hX.cell 6 (v := .int .i64 x.s) rfl; have a7 := hX.cell 7 (v := .int .i64 x.p) rfl; have a8 := hX.cell 8 (v := .int .i64 x.q) rfl; have a9 := hX.cell 9 (v := .int .i64 x.t) rfl; have a10 := hX.cell 10 (v := .slice A n c) rfl; first | (refine Free.run_yes (by rfl) ?_; go_simp; refine Free.o hK hS ?_; exact rfl) | (refine Free.run_no (by rfl) (Free.o hK hS ?_); exact rfl)
    exact Free.nil
    clear hvo
    intro w' hS; intro v0; intro v1; intro v2; intro v3; (rintro _ rfl); (try simp only [Act.put, List.setIfInBounds_toArray, List.set_cons_zero, List.set_cons_succ]); refine Free.toldE_nil ?_
    clear keep
    have hX := hS.1
    have hr := hS.2.1
    replace bb := hS.2.2
    have hXlt := hX.lt
    clear hS hx0 hr0
    have a0 := hX.cell 0 (v := .int .i64 x.h) rfl; have a1 := hX.cell 1 (v := .int .i64 x.z) rfl; have a2 := hX.cell 2 (v := .int .i64 x.b) rfl; have a3 := hX.cell 3 (v := .int .i64 x.r) rfl; have a4 := hX.cell 4 (v := .int .i64 x.d) rfl; have a5 := hX.cell 5 (v := .int .i64 x.e) rfl; have a6 := hX.cell 6 (v := .int .i64 x.s) rfl; have a7 := hX.cell 7 (v := .int .i64 x.p) rfl; have a8 := hX.cell 8 (v := .int .i64 x.q) rfl; have a9 := hX.cell 9 (v := .int .i64 x.t) rfl; have a10 := hX.cell 10 (v := .slice A n c) rfl
    go_wp2_with fail
    refine (HT.out _).mono ?_
    rintro e w5 ⟨rfl, e3⟩
    replace hr := hr.below e3 hr.lt
    replace bb := bnext bb e3
    clear e3 a0 a1 a2 a3 a4 a5 a6 a7 a8 a9 a10 hX hXlt
    have c0 := hr.cell 0 (v := .int .i64 0) rfl
    have c1 := hr.cell 1 (v := .int .i64 0) rfl
    have g0 := hr.fz 0
    have g1 := hr.fz 1
    have hf := (hr.set 0 (.int .i64 (t1 + r2 * k))).set 1 (.int .i64 (k))
    go_wp2
    have bF : Below w.heap.size w ((w5.setCell ⟨w.heap.size + 1, 0, none⟩ (.int .i64 (t1 + r2 * k))).setCell ⟨w.heap.size + 1, 1, none⟩ (.int .i64 (k))) := (by repeat (first | exact Below.refl _ _ | assumption | apply below_drewN' | apply Below.drew | refine Below.alloc ?_ (by first | omega | (simp; done) | (simp; omega)) _ | refine Below.setCell ?_ (by first | omega | (simp; done) | (simp; omega)) _))
    generalize (w5.setCell ⟨w.heap.size + 1, 0, none⟩ (.int .i64 (t1 + r2 * k))).setCell ⟨w.heap.size + 1, 1, none⟩ (.int .i64 (k)) = WF at *
    have z0 := hf.cell 0 (v := .int .i64 (t1 + r2 * k)) rfl
    have z1 := hf.cell 1 (v := .int .i64 (k)) rfl
    refine bodyPost_ret (v := .agg #[.int .i64 (t1 + r2 * k), .int .i64 (k)]) (by simp [results, Try.results51, go_sem, z0, z1]) rfl ⟨rfl, bF⟩

set_option maxHeartbeats 1000000 in
set_option maxRecDepth 100000 in
theorem ref_full (x : Cfg) (A : Option Addr) (n c : Nat) (q : Int) (w : World) (h : x.B) (q1 : q ≤ 4503599627370496) :
    Calls Try.prog 53 #[.agg #[.int .i64 x.h, .int .i64 x.z, .int .i64 x.b, .int .i64 x.r, .int .i64 x.d, .int .i64 x.e, .int .i64 x.s, .int .i64 x.p, .int .i64 x.q, .int .i64 x.t, .slice A n c], .int .i64 q] w fun e w' => e = .returned (.agg #[.int .i64 ((fullA x q).1), .int .i64 ((fullA x q).2)]) ∧ Below w.heap.size w w' := by
  have HL := Lib.hid (fun w => ref_fulllen x A n c w h)
  have l0 := fullLenC_range h
  have HC := Lib.hid (fun w => ref_cells x A n c (fullLenC x) w h l0.1 (by omega))
  have HT := Lib.hid (fun w => ref_starts x A n c w h)
  have ix := fun w => arr_at 2 (clogsC x) (deltasC x) (fullsC x) (bucketsC x) (totalC x) w
  have rs := fullsC_range h
  have rk := cellsC_range h _ l0.1
  have hp := h.p
  unfold fullA
  have bb : Below w.heap.size w ((w.alloc (.cells #[.int .i64 x.h, .int .i64 x.z, .int .i64 x.b, .int .i64 x.r, .int .i64 x.d, .int .i64 x.e, .int .i64 x.s, .int .i64 x.p, .int .i64 x.q, .int .i64 x.t, .slice A n c] 24)).alloc (.cells #[.int .i64 0, .int .i64 0] 56)) := (by repeat (first | exact Below.refl _ _ | assumption | apply below_drewN' | apply Below.drew | refine Below.alloc ?_ (by first | omega | (simp; done) | (simp; omega)) _ | refine Below.setCell ?_ (by first | omega | (simp; done) | (simp; omega)) _))
  have hr0 := Blk.new2 w (.cells #[.int .i64 x.h, .int .i64 x.z, .int .i64 x.b, .int .i64 x.r, .int .i64 x.d, .int .i64 x.e, .int .i64 x.s, .int .i64 x.p, .int .i64 x.q, .int .i64 x.t, .slice A n c] 24) #[.int .i64 0, .int .i64 0] 56
  have hx0 := (Blk.new w #[.int .i64 x.h, .int .i64 x.z, .int .i64 x.b, .int .i64 x.r, .int .i64 x.d, .int .i64 x.e, .int .i64 x.s, .int .i64 x.p, .int .i64 x.q, .int .i64 x.t, .slice A n c] 24).alloc (.cells #[.int .i64 0, .int .i64 0] 56)
  by_cases i0 : q < 0
  · rw [if_pos i0]
    clear h HL HC HT ix
    go_enter Try.func53, Try.ntmps53
    go_wp2
    have z0 := hr0.cell 0 (v := .int .i64 0) rfl
    have z1 := hr0.cell 1 (v := .int .i64 0) rfl
    refine bodyPost_ret (v := .agg #[.int .i64 (0), .int .i64 (0)]) (by simp [results, Try.results53, go_sem, z0, z1]) rfl ⟨rfl, bb⟩
  · rw [if_neg i0]
    have e1 : q.tdiv x.p = q / x.p := Int.tdiv_eq_ediv_of_nonneg (by omega)
    have d0 : 0 ≤ q / x.p := Int.ediv_nonneg (by omega) (by omega)
    have d1 : q / x.p ≤ q := Int.ediv_le_self _ (by omega)
    have e2 : (q / x.p).tmod 2 = q / x.p % 2 := Int.tmod_eq_emod_of_nonneg d0
    have pn : ¬ x.p = 0 := by omega
    have m0 : q / x.p % 2 = 0 ∨ q / x.p % 2 = 1 := by omega
    unfold fullC
    clear h
    generalize cellsC x (fullLenC x) = k at *
    generalize fullLenC x = m at *
    replace rs := rs.2
    generalize clogsC x = t1 at *
    generalize deltasC x = t2 at *
    generalize fullsC x = t3 at *
    generalize bucketsC x = t4 at *
    generalize totalC x = t5 at *
    generalize q / x.p % 2 = r2 at *
    generalize q / x.p = d at *
    have m1 : 0 ≤ r2 * k ∧ r2 * k ≤ k := by rcases m0 with rfl | rfl <;> omega
    have w0 : IntKind.i64.wrap r2 = r2 := IntWalk.i64_in _ (by omega)
    have w00 : IntKind.i64.wrap d = d := IntWalk.i64_in _ (by omega)
    have w1 : IntKind.i64.wrap (r2 * k) = r2 * k := IntWalk.i64_in _ (by omega)
    have w2 : IntKind.i64.wrap (t3 + r2 * k) = t3 + r2 * k := IntWalk.i64_in _ (by omega)
    have ix1 := fun w => (ix w).2.2.2.1
    clear ix
    go_enter Try.func53, Try.ntmps53
    go_wp2_with fail
    generalize (w.alloc (.cells #[.int .i64 x.h, .int .i64 x.z, .int .i64 x.b, .int .i64 x.r, .int .i64 x.d, .int .i64 x.e, .int .i64 x.s, .int .i64 x.p, .int .i64 x.q, .int .i64 x.t, .slice A n c] 24)).alloc (.cells #[.int .i64 0, .int .i64 0] 56) = W1 at *
    have keep := fun {w' w'' : World} (h : (fun w' => Blk w' w.heap.size #[.int .i64 x.h, .int .i64 x.z, .int .i64 x.b, .int .i64 x.r, .int .i64 x.d, .int .i64 x.e, .int .i64 x.s, .int .i64 x.p, .int .i64 x.q, .int .i64 x.t, .slice A n c] 24 ∧ Blk w' (w.heap.size + 1) #[.int .i64 0, .int .i64 0] 56 ∧ Below w.heap.size w w') w') (hb : Below w'.heap.size w' w'') => (⟨h.1.below hb h.1.lt, h.2.1.below hb h.2.1.lt, bnext h.2.2 hb⟩ : (fun w' => Blk w' w.heap.size #[.int .i64 x.h, .int .i64 x.z, .int .i64 x.b, .int .i64 x.r, .int .i64 x.d, .int .i64 x.e, .int .i64 x.s, .int .i64 x.p, .int .i64 x.q, .int .i64 x.t, .slice A n c] 24 ∧ Blk w' (w.heap.size + 1) #[.int .i64 0, .int .i64 0] 56 ∧ Below w.heap.size w w') w'')
    have hvo := Free.val
    refine Free.wp_facts (M := [0, 0, 2, 7, 15]) (D := [[], [], [(1, 10)], [(0, 9), (2, 11)], [(3, 12)]]) (outs := [4]) (soles := []) (E := [(0, 9, false), (1, 10, false), (2, 11, false), (3, 12, false), (4, 5, true)]) (N := 26) (S := (fun w' => Blk w' w.heap.size #[.int .i64 x.h, .int .i64 x.z, .int .i64 x.b, .int .i64 x.r, .int .i64 x.d, .int .i64 x.e, .int .i64 x.s, .int .i64 x.p, .int .i64 x.q, .int .i64 x.t, .slice A n c] 24 ∧ Blk w' (w.heap.size + 1) #[.int .i64 0, .int .i64 0] 56 ∧ Below w.heap.size w w')) [Free.Fact.is ?_, Free.Fact.is ?_, Free.Fact.is ?_, Free.Fact.is ?_, Free.Fact.is ?_] (by kernel_rfl) (by kernel_rfl) rfl (⟨hx0.drew, hr0.drew, bb.drew⟩) ?_ ?_
    rotate_left 5
    refine Free.cons ?_ ?_
    · intro w' hS; intro K hK; have hX := hS.1; have hXlt := hX.lt; have a0 := hX.cell 0 (v := .int .i64 x.h) rfl; have a1 := hX.cell 1 (v := .int .i64 x.z) rfl; have a2 := hX.cell 2 (v := .int .i64 x.b) rfl; have a3 := hX.cell 3 (v := .int .i64 x.r) rfl; have a4 := hX.cell 4 (v := .int .i64 x.d) rfl; have a5 := hX.cell 5 (v := .int .i64 x.e) rfl; have a6 := hX.cell 6 (v := .int .i64 x.s) rfl; have a7 := hX.cell 7 (v := .int .i64 x.p) rfl; have a8 := hX.cell 8 (v := .int .i64 x.q) rfl; have a9 := hX.cell 9 (v := .int .i64 x.t) rfl; have a10 := hX.cell 10 (v := .slice A n c) rfl; first | (refine Free.run_yes (by rfl) ?_; go_simp; refine Free.o hK hS ?_; exact rfl) | (refine Free.run_no (by rfl) (Free.o hK hS ?_); exact rfl)
    refine Free.cons ?_ ?_
    · intro w' hS; intro K hK; have hX := hS.1; have hXlt := hX.lt; have a0 := hX.cell 0 (v := .int .i64 x.h) rfl; have a1 := hX.cell 1 (v := .int .i64 x.z) rfl; have a2 := hX.cell 2 (v := .int .i64 x.b) rfl; have a3 := hX.cell 3 (v := .int .i64 x.r) rfl; have a4 := hX.cell 4 (v := .int .i64 x.d) rfl; have a5 := hX.cell 5 (v := .int .i64 x.e) rfl; have a6 := hX.cell 6 (v := .int .i64 x.s) rfl; have a7 := hX.cell 7 (v := .int .i64 x.p) rfl; have a8 := hX.cell 8 (v := .int .i64 x.q) rfl; have a9 := hX.cell 9 (v := .int .i64 x.t) rfl; have a10 := hX.cell 10 (v := .slice A n c) rfl; first | (refine Free.run_yes (by rfl) ?_; go_simp; refine Free.o hK hS ?_; exact rfl) | (refine Free.run_no (by rfl) (Free.o hK hS ?_); exact rfl)
    refine Free.cons ?_ ?_
    · intro w' hS; (rintro _ rfl); intro K hK; have hX := hS.1; have hXlt := hX.lt; have a0 := hX.cell 0 (v := .int .i64 x.h) rfl; have a1 := hX.cell 1 (v := .int .i64 x.z) rfl; have a2 := hX.cell 2 (v := .int .i64 x.b) rfl; have a3 := hX.cell 3 (v := .int .i64 x.r) rfl; have a4 := hX.cell 4 (v := .int .i64 x.d) rfl; have a5 := hX.cell 5 (v := .int .i64 x.e) rfl; have a6 := hX.cell 6 (v := .int .i64 x.s) rfl; have a7 := hX.cell 7 (v := .int .i64 x.p) rfl; have a8 := hX.cell 8 (v := .int .i64 x.q) rfl; have a9 := hX.cell 9 (v := .int .i64 x.t) rfl; have a10 := hX.cell 10 (v := .slice A n c) rfl; first | (refine Free.run_yes (by rfl) ?_; go_simp; (first | (go_at_call 46; refine (HL.out _).mono ?_; rintro e w' ⟨rfl, hb⟩) | (go_at_call 86; refine (HC.out _).mono ?_; rintro e w' ⟨rfl, hb⟩)); go_simp; refine Free.c hK (keep hS hb) hb ?_; exact rfl) | (refine Free.run_no (by rfl) (Free.o hK hS ?_); exact rfl)
    refine Free.cons ?_ ?_
    · intro w' hS; (rintro _ rfl); (rintro _ rfl); intro K hK; have hX := hS.1; have hXlt := hX.lt; have a0 := hX.cell 0 (v := .int .i64 x.h) rfl; have a1 := hX.cell 1 (v := .int .i64 x.z) rfl; have a2 := hX.cell 2 (v := .int .i64 x.b) rfl; have a3 := hX.cell 3 (v := .int .i64 x.r) rfl; have a4 := hX.cell 4 (v := .int .i64 x.d) rfl; have a5 := hX.cell 5 (v := .int .i64 x.e) rfl; have a6 := hX.cell 6 (v := .int .i64 x.s) rfl; have a7 := hX.cell 7 (v := .int .i64 x.p) rfl; have a8 := hX.cell 8 (v := .int .i64 x.q) rfl; have a9 := hX.cell 9 (v := .int .i64 x.t) rfl; have a10 := hX.cell 10 (v := .slice A n c) rfl; first | (refine Free.run_yes (by rfl) ?_; go_simp; (first | (go_at_call 46; refine (HL.out _).mono ?_; rintro e w' ⟨rfl, hb⟩) | (go_at_call 86; refine (HC.out _).mono ?_; rintro e w' ⟨rfl, hb⟩)); go_simp; refine Free.c hK (keep hS hb) hb ?_; exact rfl) | (refine Free.run_no (by rfl) (Free.o hK hS ?_); exact rfl)
    refine Free.cons ?_ ?_
    · intro w' hS; (rintro _ rfl); intro K hK; have hX := hS.1; have hXlt := hX.lt; have a0 := hX.cell 0 (v := .int .i64 x.h) rfl; have a1 := hX.cell 1 (v := .int .i64 x.z) rfl; have a2 := hX.cell 2 (v := .int .i64 x.b) rfl; have a3 := hX.cell 3 (v := .int .i64 x.r) rfl; have a4 := hX.cell 4 (v := .int .i64 x.d) rfl; have a5 := hX.cell 5 (v := .int .i64 x.e) rfl; have a6 := hX.cell 6 (v := .int .i64 x.s) rfl; have a7 := hX.cell 7 (v := .int .i64 x.p) rfl; have a8 := hX.cell 8 (v := .int .i64 x.q) rfl; have a9 := hX.cell 9 (v := .int .i64 x.t) rfl; have a10 := hX.cell 10 (v := .slice A n c) rfl; first | (refine Free.run_yes (by rfl) ?_; go_simp; refine Free.o hK hS ?_; exact rfl) | (refine Free.run_no (by rfl) (Free.o hK hS ?_); exact rfl)
    exact Free.nil
    clear hvo
    intro w' hS; intro v0; intro v1; intro v2; intro v3; (rintro _ rfl); (try simp only [Act.put, List.setIfInBounds_toArray, List.set_cons_zero, List.set_cons_succ]); refine Free.toldE_nil ?_
    clear keep
    have hX := hS.1
    have hr := hS.2.1
    replace bb := hS.2.2
    have hXlt := hX.lt
    clear hS hx0 hr0
    have a0 := hX.cell 0 (v := .int .i64 x.h) rfl; have a1 := hX.cell 1 (v := .int .i64 x.z) rfl; have a2 := hX.cell 2 (v := .int .i64 x.b) rfl; have a3 := hX.cell 3 (v := .int .i64 x.r) rfl; have a4 := hX.cell 4 (v := .int .i64 x.d) rfl; have a5 := hX.cell 5 (v := .int .i64 x.e) rfl; have a6 := hX.cell 6 (v := .int .i64 x.s) rfl; have a7 := hX.cell 7 (v := .int .i64 x.p) rfl; have a8 := hX.cell 8 (v := .int .i64 x.q) rfl; have a9 := hX.cell 9 (v := .int .i64 x.t) rfl; have a10 := hX.cell 10 (v := .slice A n c) rfl
    go_wp2_with fail
    clear a0 a1 a2 a3 a4 a5 a6 a7 a8 a9 a10
    have keep := fun {w' w'' : World} (h : (fun w' => Blk w' w.heap.size #[.int .i64 x.h, .int .i64 x.z, .int .i64 x.b, .int .i64 x.r, .int .i64 x.d, .int .i64 x.e, .int .i64 x.s, .int .i64 x.p, .int .i64 x.q, .int .i64 x.t, .slice A n c] 24 ∧ (∃ u v, Blk w' (w.heap.size + 1) #[u, v] 56) ∧ Below w.heap.size w w') w') (hb : Below w'.heap.size w' w'') => (⟨h.1.below hb h.1.lt, (let ⟨u, v, h2⟩ := h.2.1; ⟨u, v, h2.below hb h2.lt⟩), bnext h.2.2 hb⟩ : (fun w' => Blk w' w.heap.size #[.int .i64 x.h, .int .i64 x.z, .int .i64 x.b, .int .i64 x.r, .int .i64 x.d, .int .i64 x.e, .int .i64 x.s, .int .i64 x.p, .int .i64 x.q, .int .i64 x.t, .slice A n c] 24 ∧ (∃ u v, Blk w' (w.heap.size + 1) #[u, v] 56) ∧ Below w.heap.size w w') w'')
    have hvo := Free.val
    refine Free.wp_factsW (M := [0, 1, 3, 0, 0, 16, 56, 120, 0, 504, 1023, 0, 4095, 8191]) (D := [[], [(0, 13)], [(1, 14)], [], [], [(4, 17)], [(3, 16), (5, 18)], [(6, 19)], [], [(7, 20), (8, 21)], [(2, 15), (9, 22)], [], [(10, 23), (11, 24)], [(12, 25)]]) (outs := [13]) (soles := [13]) (E := [(0, some 13, false), (1, some 14, false), (2, some 15, false), (3, some 16, false), (4, some 17, false), (5, some 18, false), (6, some 19, false), (7, some 20, false), (8, some 21, false), (9, some 22, false), (10, some 23, false), (11, some 24, false), (12, some 25, false), (13, none, true)]) (N := 26) (S := (fun w' => Blk w' w.heap.size #[.int .i64 x.h, .int .i64 x.z, .int .i64 x.b, .int .i64 x.r, .int .i64 x.d, .int .i64 x.e, .int .i64 x.s, .int .i64 x.p, .int .i64 x.q, .int .i64 x.t, .slice A n c] 24 ∧ (∃ u v, Blk w' (w.heap.size + 1) #[u, v] 56) ∧ Below w.heap.size w w')) [Free.Fact.is ?_, Free.Fact.is ?_, Free.Fact.is ?_, Free.Fact.is ?_, Free.Fact.is ?_, Free.Fact.is ?_, Free.Fact.is ?_, Free.Fact.is ?_, Free.Fact.is ?_, Free.Fact.is ?_, Free.Fact.is ?_, Free.Fact.is ?_, Free.Fact.is ?_, Free.Fact.blk (w.heap.size + 1) #[.int .i64 (t3 + r2 * k), .int .i64 k] 56] (by kernel_rfl) (by kernel_rfl) rfl (⟨hX.drew, ⟨_, _, hr.drew⟩, bb.drew⟩) ?_ ?_
    rotate_left 13
    refine Free.cons ?_ ?_
    · intro w' hS; intro K hK; have hX := hS.1; have hXlt := hX.lt; have a0 := hX.cell 0 (v := .int .i64 x.h) rfl; have a1 := hX.cell 1 (v := .int .i64 x.z) rfl; have a2 := hX.cell 2 (v := .int .i64 x.b) rfl; have a3 := hX.cell 3 (v := .int .i64 x.r) rfl; have a4 := hX.cell 4 (v := .int .i64 x.d) rfl; have a5 := hX.cell 5 (v := .int .i64 x.e) rfl; have a6 := hX.cell 6 (v := .int .i64 x.s) rfl; have a7 := hX.cell 7 (v := .int .i64 x.p) rfl; have a8 := hX.cell 8 (v := .int .i64 x.q) rfl; have a9 := hX.cell 9 (v := .int .i64 x.t) rfl; have a10 := hX.cell 10 (v := .slice A n c) rfl; first | (refine Free.run_yes (by rfl) ?_; go_simp; refine Free.o hK hS ?_; exact rfl) | (refine Free.run_no (by rfl) (Free.o hK hS ?_); exact rfl)
    refine Free.cons ?_ ?_
    · intro w' hS; (rintro _ rfl); intro K hK; have hX := hS.1; have hXlt := hX.lt; have a0 := hX.cell 0 (v := .int .i64 x.h) rfl; have a1 := hX.cell 1 (v := .int .i64 x.z) rfl; have a2 := hX.cell 2 (v := .int .i64 x.b) rfl; have a3 := hX.cell 3 (v := .int .i64 x.r) rfl; have a4 := hX.cell 4 (v := .int .i64 x.d) rfl; have a5 := hX.cell 5 (v := .int .i64 x.e) rfl; have a6 := hX.cell 6 (v := .int .i64 x.s) rfl; have a7 := hX.cell 7 (v := .int .i64 x.p) rfl; have a8 := hX.cell 8 (v := .int .i64 x.q) rfl; have a9 := hX.cell 9 (v := .int .i64 x.t) rfl; have a10 := hX.cell 10 (v := .slice A n c) rfl; first | (refine Free.run_yes (by rfl) ?_; go_simp; ((go_at_call 87; refine (HT.out _).mono ?_; rintro e w' ⟨rfl, hb⟩)); go_simp; refine Free.c hK (keep hS hb) hb ?_; exact rfl) | (refine Free.run_no (by rfl) (Free.o hK hS ?_); exact rfl)
    refine Free.cons ?_ ?_
    · intro w' hS; (rintro _ rfl); intro K hK; have hX := hS.1; have hXlt := hX.lt; have a0 := hX.cell 0 (v := .int .i64 x.h) rfl; have a1 := hX.cell 1 (v := .int .i64 x.z) rfl; have a2 := hX.cell 2 (v := .int .i64 x.b) rfl; have a3 := hX.cell 3 (v := .int .i64 x.r) rfl; have a4 := hX.cell 4 (v := .int .i64 x.d) rfl; have a5 := hX.cell 5 (v := .int .i64 x.e) rfl; have a6 := hX.cell 6 (v := .int .i64 x.s) rfl; have a7 := hX.cell 7 (v := .int .i64 x.p) rfl; have a8 := hX.cell 8 (v := .int .i64 x.q) rfl; have a9 := hX.cell 9 (v := .int .i64 x.t) rfl; have a10 := hX.cell 10 (v := .slice A n c) rfl; first | (refine Free.run_yes (by rfl) ?_; go_simp; refine Free.o hK hS ?_; exact rfl) | (refine Free.run_no (by rfl) (Free.o hK hS ?_); exact rfl)
    refine Free.cons ?_ ?_
    · intro w' hS; intro K hK; have hX := hS.1; have hXlt := hX.lt; have a0 := hX.cell 0 (v := .int .i64 x.h) rfl; have a1 := hX.cell 1 (v := .int .i64 x.z) rfl; have a2 := hX.cell 2 (v := .int .i64 x.b) rfl; have a3 := hX.cell 3 (v := .int .i64 x.r) rfl; have a4 := hX.cell 4 (v := .int .i64 x.d) rfl; have a5 := hX.cell 5 (v := .int .i64 x.e) rfl; have a6 := hX.cell 6 (v := .int .i64 x.s) rfl; have a7 := hX.cell 7 (v := .int .i64 x.p) rfl; have a8 := hX.cell 8 (v := .int .i64 x.q) rfl; have a9 := hX.cell 9 (v := .int .i64 x.t) rfl; have a10 := hX.cell 10 (v := .slice A n c) rfl; first | (refine Free.run_yes (by rfl) ?_; go_simp; refine Free.o hK hS ?_; exact rfl) | (refine Free.run_no (by rfl) (Free.o hK hS ?_); exact rfl)
    refine Free.cons ?_ ?_
    · intro w' hS; intro K hK; have hX := hS.1; have hXlt := hX.lt; have a0 := hX.cell 0 (v := .int .i64 x.h) rfl; have a1 := hX.cell 1 (v := .int .i64 x.z) rfl; have a2 := hX.cell 2 (v := .int .i64 x.b) rfl; have a3 := hX.cell 3 (v := .int .i64 x.r) rfl; have a4 := hX.cell 4 (v := .int .i64 x.d) rfl; have a5 := hX.cell 5 (v := .int .i64 x.e) rfl; have a6 := hX.cell 6 (v := .int .i64 x.s) rfl; have a7 := hX.cell 7 (v := .int .i64 x.p) rfl; have a8 := hX.cell 8 (v := .int .i64 x.q) rfl; have a9 := hX.cell 9 (v := .int .i64 x.t) rfl; have a10 := hX.cell 10 (v := .slice A n c) rfl; first | (refine Free.run_yes (by rfl) ?_; go_simp; refine Free.o hK hS ?_; exact rfl) | (refine Free.run_no (by rfl) (Free.o hK hS ?_); exact rfl)
    refine Free.cons ?_ ?_
    · intro w' hS; (rintro _ rfl); intro K hK; have hX := hS.1; have hXlt := hX.lt; have a0 := hX.cell 0 (v := .int .i64 x.h) rfl; have a1 := hX.cell 1 (v := .int .i64 x.z) rfl; have a2 := hX.cell 2 (v := .int .i64 x.b) rfl; have a3 := hX.cell 3 (v := .int .i64 x.r) rfl; have a4 := hX.cell 4 (v := .int .i64 x.d) rfl; have a5 := hX.cell 5 (v := .int .i64 x.e) rfl; have a6 := hX.cell 6 (v := .int .i64 x.s) rfl; have a7 := hX.cell 7 (v := .int .i64 x.p) rfl; have a8 := hX.cell 8 (v := .int .i64 x.q) rfl; have a9 := hX.cell 9 (v := .int .i64 x.t) rfl; have a10 := hX.cell 10 (v := .slice A n c) rfl; first | (refine Free.run_yes (by rfl) ?_; go_simp; refine Free.o hK hS ?_; exact rfl) | (refine Free.run_no (by rfl) (Free.o hK hS ?_); exact rfl)
    refine Free.cons ?_ ?_
    · intro w' hS; (rintro _ rfl); (rintro _ rfl); intro K hK; have hX := hS.1; have hXlt := hX.lt; have a0 := hX.cell 0 (v := .int .i64 x.h) rfl; have a1 := hX.cell 1 (v := .int .i64 x.z) rfl; have a2 := hX.cell 2 (v := .int .i64 x.b) rfl; have a3 := hX.cell 3 (v := .int .i64 x.r) rfl; have a4 := hX.cell 4 (v := .int .i64 x.d) rfl; have a5 := hX.cell 5 (v := .int .i64 x.e) rfl; have a6 := hX.cell 6 (v := .int .i64 x.s) rfl; have a7 := hX.cell 7 (v := .int .i64 x.p) rfl; have a8 := hX.cell 8 (v := .int .i64 x.q) rfl; have a9 := hX.cell 9 (v := .int .i64 x.t) rfl; have a10 := hX.cell 10 (v := .slice A n c) rfl; first | (refine Free.run_yes (by rfl) ?_; go_simp; refine Free.o hK hS ?_; exact rfl) | (refine Free.run_no (by rfl) (Free.o hK hS ?_); exact rfl)
    refine Free.cons ?_ ?_
    · intro w' hS; (rintro _ rfl); intro K hK; have hX := hS.1; have hXlt := hX.lt; have a0 := hX.cell 0 (v := .int .i64 x.h) rfl; have a1 := hX.cell 1 (v := .int .i64 x.z) rfl; have a2 := hX.cell 2 (v := .int .i64 x.b) rfl; have a3 := hX.cell 3 (v := .int .i64 x.r) rfl; have a4 := hX.cell 4 (v := .int .i64 x.d) rfl; have a5 := hX.cell 5 (v := .int .i64 x.e) rfl; have a6 := hX.cell 6 (v := .int .i64 x.s) rfl; have a7 := hX.cell 7 (v := .int .i64 x.p) rfl; have a8 := hX.cell 8 (v := .int .i64 x.q) rfl; have a9 := hX.cell 9 (v := .int .i64 x.t) rfl; have a10 := hX.cell 10 (v := .slice A n c) rfl; first | (refine Free.run_yes (by rfl) ?_; go_simp; refine Free.o hK hS ?_; exact rfl) | (refine Free.run_no (by rfl) (Free.o hK hS ?_); exact rfl)
    refine Free.cons ?_ ?_
    · intro w' hS; intro K hK; have hX := hS.1; have hXlt := hX.lt; have a0 := hX.cell 0 (v := .int .i64 x.h) rfl; have a1 := hX.cell 1 (v := .int .i64 x.z) rfl; have a2 := hX.cell 2 (v := .int .i64 x.b) rfl; have a3 := hX.cell 3 (v := .int .i64 x.r) rfl; have a4 := hX.cell 4 (v := .int .i64 x.d) rfl; have a5 := hX.cell 5 (v := .int .i64 x.e) rfl; have a6 := hX.cell 6 (v := .int .i64 x.s) rfl; have a7 := hX.cell 7 (v := .int .i64 x.p) rfl; have a8 := hX.cell 8 (v := .int .i64 x.q) rfl; have a9 := hX.cell 9 (v := .int .i64 x.t) rfl; have a10 := hX.cell 10 (v := .slice A n c) rfl; first | (refine Free.run_yes (by rfl) ?_; go_simp; refine Free.o hK hS ?_; exact rfl) | (refine Free.run_no (by rfl) (Free.o hK hS ?_); exact rfl)
    refine Free.cons ?_ ?_
    · intro w' hS; (rintro _ rfl); (rintro _ rfl); intro K hK; have hX := hS.1; have hXlt := hX.lt; have a0 := hX.cell 0 (v := .int .i64 x.h) rfl; have a1 := hX.cell 1 (v := .int .i64 x.z) rfl; have a2 := hX.cell 2 (v := .int .i64 x.b) rfl; have a3 := hX.cell 3 (v := .int .i64 x.r) rfl; have a4 := hX.cell 4 (v := .int .i64 x.d) rfl; have a5 := hX.cell 5 (v := .int .i64 x.e) rfl; have a6 := hX.cell 6 (v := .int .i64 x.s) rfl; have a7 := hX.cell 7 (v := .int .i64 x.p) rfl; have a8 := hX.cell 8 (v := .int .i64 x.q) rfl; have a9 := hX.cell 9 (v := .int .i64 x.t) rfl; have a10 := hX.cell 10 (v := .slice A n c) rfl; first | (refine Free.run_yes (by rfl) ?_; go_simp; refine Free.o hK hS ?_; exact rfl) | (refine Free.run_no (by rfl) (Free.o hK hS ?_); exact rfl)
    refine Free.cons ?_ ?_
    · intro w' hS; (rintro _ rfl); (rintro _ rfl); intro K hK; have hX := hS.1; have hXlt := hX.lt; have a0 := hX.cell 0 (v := .int .i64 x.h) rfl; have a1 := hX.cell 1 (v := .int .i64 x.z) rfl; have a2 := hX.cell 2 (v := .int .i64 x.b) rfl; have a3 := hX.cell 3 (v := .int .i64 x.r) rfl; have a4 := hX.cell 4 (v := .int .i64 x.d) rfl; have a5 := hX.cell 5 (v := .int .i64 x.e) rfl; have a6 := hX.cell 6 (v := .int .i64 x.s) rfl; have a7 := hX.cell 7 (v := .int .i64 x.p) rfl; have a8 := hX.cell 8 (v := .int .i64 x.q) rfl; have a9 := hX.cell 9 (v := .int .i64 x.t) rfl; have a10 := hX.cell 10 (v := .slice A n c) rfl; first | (refine Free.run_yes (by rfl) ?_; go_simp; refine Free.o hK hS ?_; exact rfl) | (refine Free.run_no (by rfl) (Free.o hK hS ?_); exact rfl)
    refine Free.cons ?_ ?_
    · intro w' hS; intro K hK; have hX := hS.1; have hXlt := hX.lt; have a0 := hX.cell 0 (v := .int .i64 x.h) rfl; have a1 := hX.cell 1 (v := .int .i64 x.z) rfl; have a2 := hX.cell 2 (v := .int .i64 x.b) rfl; have a3 := hX.cell 3 (v := .int .i64 x.r) rfl; have a4 := hX.cell 4 (v := .int .i64 x.d) rfl; have a5 := hX.cell 5 (v := .int .i64 x.e) rfl; have a6 := hX.cell 6 (v := .int .i64 x.s) rfl; have a7 := hX.cell 7 (v := .int .i64 x.p) rfl; have a8 := hX.cell 8 (v := .int .i64 x.q) rfl; have a9 := hX.cell 9 (v := .int .i64 x.t) rfl; have a10 := hX.cell 10 (v := .slice A n c) rfl; first | (refine Free.run_yes (by rfl) ?_; go_simp; refine Free.o hK hS ?_; exact rfl) | (refine Free.run_no (by rfl) (Free.o hK hS ?_); exact rfl)
    refine Free.cons ?_ ?_
    · intro w' hS; (rintro _ rfl); (rintro _ rfl); intro K hK; have hX := hS.1; have hXlt := hX.lt; have a0 := hX.cell 0 (v := .int .i64 x.h) rfl; have a1 := hX.cell 1 (v := .int .i64 x.z) rfl; have a2 := hX.cell 2 (v := .int .i64 x.b) rfl; have a3 := hX.cell 3 (v := .int .i64 x.r) rfl; have a4 := hX.cell 4 (v := .int .i64 x.d) rfl; have a5 := hX.cell 5 (v := .int .i64 x.e) rfl; have a6 := hX.cell 6 (v := .int .i64 x.s) rfl; have a7 := hX.cell 7 (v := .int .i64 x.p) rfl; have a8 := hX.cell 8 (v := .int .i64 x.q) rfl; have a9 := hX.cell 9 (v := .int .i64 x.t) rfl; have a10 := hX.cell 10 (v := .slice A n c) rfl; first | (refine Free.run_yes (by rfl) ?_; go_simp; refine Free.o hK hS ?_; exact rfl) | (refine Free.run_no (by rfl) (Free.o hK hS ?_); exact rfl)
    refine Free.cons ?_ ?_
    · intro w' hS; (rintro _ rfl); intro K hK; have hX := hS.1; have hXlt := hX.lt; have a0 := hX.cell 0 (v := .int .i64 x.h) rfl; have a1 := hX.cell 1 (v := .int .i64 x.z) rfl; have a2 := hX.cell 2 (v := .int .i64 x.b) rfl; have a3 := hX.cell 3 (v := .int .i64 x.r) rfl; have a4 := hX.cell 4 (v := .int .i64 x.d) rfl; have a5 := hX.cell 5 (v := .int .i64 x.e) rfl; have a6 := hX.cell 6 (v := .int .i64 x.s) rfl; have a7 := hX.cell 7 (v := .int .i64 x.p) rfl; have a8 := hX.cell 8 (v := .int .i64 x.q) rfl; have a9 := hX.cell 9 (v := .int .i64 x.t) rfl; have a10 := hX.cell 10 (v := .slice A n c) rfl; refine Free.run_yes (by rfl) ?_; (obtain ⟨hx1, ⟨u, v, hr⟩, hbl⟩ := hS; have c0 := hr.cell 0 (v := u) rfl; have c1 := hr.cell 1 (v := v) rfl; have g0 := hr.fz 0; have g1 := hr.fz 1; have hf := (hr.set 0 (.int .i64 (t3 + r2 * k))).set 1 (.int .i64 k); go_simp; refine hK.out _ _ hf ⟨(by repeat (first | assumption | apply Blk.drewN | apply Blk.drew | apply Blk.alloc | refine Blk.other ?_ (by first | omega | (simp; done) | (simp; omega)) _)), ⟨_, _, hf⟩, (by repeat (first | exact Below.refl _ _ | assumption | apply below_drewN' | apply Below.drew | refine Below.alloc ?_ (by first | omega | (simp; done) | (simp; omega)) _ | refine Below.setCell ?_ (by first | omega | (simp; done) | (simp; omega)) _))⟩ (.inl rfl))
    exact Free.nil
    clear hvo
    intro w' hS; intro v0; intro v1; intro v2; intro v3; intro v4; intro v5; intro v6; intro v7; intro v8; intro v9; intro v10; intro v11; intro v12; intro v13 h13; (try simp only [Act.put, List.setIfInBounds_toArray, List.set_cons_zero, List.set_cons_succ]); refine Free.toldW_nil ?_
    have hF : Blk w' (w.heap.size + 1) #[.int .i64 (t3 + r2 * k), .int .i64 k] 56 := h13
    have z0 := hF.cell 0 (v := .int .i64 (t3 + r2 * k)) rfl
    have z1 := hF.cell 1 (v := .int .i64 k) rfl
    go_wp2
    refine bodyPost_ret (v := .agg #[.int .i64 (t3 + r2 * k), .int .i64 (k)]) (by simp [results, Try.results53, go_sem, z0, z1]) rfl ⟨rfl, hS.2.2⟩

set_option maxHeartbeats 1000000 in
set_option maxRecDepth 100000 in
theorem ref_delta (x : Cfg) (A : Option Addr) (n c : Nat) (q : Int) (w : World) (h : x.B) (q1 : q ≤ 4503599627370496) :
    Calls Try.prog 52 #[.agg #[.int .i64 x.h, .int .i64 x.z, .int .i64 x.b, .int .i64 x.r, .int .i64 x.d, .int .i64 x.e, .int .i64 x.s, .int .i64 x.p, .int .i64 x.q, .int .i64 x.t, .slice A n c], .int .i64 q] w fun e w' => e = .returned (.agg #[.int .i64 ((deltaA x q).1), .int .i64 ((deltaA x q).2)]) ∧ Below w.heap.size w w' := by
  have HL := Lib.hid (fun w => ref_deltalen x A n c w h)
  have l0 := deltaLenC_range h
  have HC := Lib.hid (fun w => ref_cells x A n c (deltaLenC x) w h l0.1 (by omega))
  have HT := Lib.hid (fun w => ref_starts x A n c w h)
  have ix := fun w => arr_at 2 (clogsC x) (deltasC x) (fullsC x) (bucketsC x) (totalC x) w
  have rs := deltasC_range h
  have rk := cellsC_range h _ l0.1
  have hp := h.p
  unfold deltaA
  have bb : Below w.heap.size w ((w.alloc (.cells #[.int .i64 x.h, .int .i64 x.z, .int .i64 x.b, .int .i64 x.r, .int .i64 x.d, .int .i64 x.e, .int .i64 x.s, .int .i64 x.p, .int .i64 x.q, .int .i64 x.t, .slice A n c] 24)).alloc (.cells #[.int .i64 0, .int .i64 0] 56)) := (by repeat (first | exact Below.refl _ _ | assumption | apply below_drewN' | apply Below.drew | refine Below.alloc ?_ (by first | omega | (simp; done) | (simp; omega)) _ | refine Below.setCell ?_ (by first | omega | (simp; done) | (simp; omega)) _))
  have hr0 := Blk.new2 w (.cells #[.int .i64 x.h, .int .i64 x.z, .int .i64 x.b, .int .i64 x.r, .int .i64 x.d, .int .i64 x.e, .int .i64 x.s, .int .i64 x.p, .int .i64 x.q, .int .i64 x.t, .slice A n c] 24) #[.int .i64 0, .int .i64 0] 56
  have hx0 := (Blk.new w #[.int .i64 x.h, .int .i64 x.z, .int .i64 x.b, .int .i64 x.r, .int .i64 x.d, .int .i64 x.e, .int .i64 x.s, .int .i64 x.p, .int .i64 x.q, .int .i64 x.t, .slice A n c] 24).alloc (.cells #[.int .i64 0, .int .i64 0] 56)
  by_cases i0 : q < 0
  · rw [if_pos i0]
    clear h HL HC HT ix
    go_enter Try.func52, Try.ntmps52
    go_wp2
    have z0 := hr0.cell 0 (v := .int .i64 0) rfl
    have z1 := hr0.cell 1 (v := .int .i64 0) rfl
    refine bodyPost_ret (v := .agg #[.int .i64 (0), .int .i64 (0)]) (by simp [results, Try.results52, go_sem, z0, z1]) rfl ⟨rfl, bb⟩
  · rw [if_neg i0]
    have e1 : q.tdiv x.p = q / x.p := Int.tdiv_eq_ediv_of_nonneg (by omega)
    have d0 : 0 ≤ q / x.p := Int.ediv_nonneg (by omega) (by omega)
    have d1 : q / x.p ≤ q := Int.ediv_le_self _ (by omega)
    have e2 : (q / x.p).tmod 2 = q / x.p % 2 := Int.tmod_eq_emod_of_nonneg d0
    have pn : ¬ x.p = 0 := by omega
    have m0 : q / x.p % 2 = 0 ∨ q / x.p % 2 = 1 := by omega
    have er : q.tmod x.p = q % x.p := Int.tmod_eq_emod_of_nonneg (by omega)
    have n0 := Int.emod_nonneg q (show x.p ≠ 0 by omega)
    have n1 := Int.emod_lt_of_pos q (show 0 < x.p by omega)
    unfold deltaC
    clear h
    generalize cellsC x (deltaLenC x) = k at *
    generalize deltaLenC x = m at *
    generalize clogsC x = t1 at *
    generalize deltasC x = t2 at *
    generalize fullsC x = t3 at *
    generalize bucketsC x = t4 at *
    generalize totalC x = t5 at *
    by_cases hz : q % x.p = 0
    · rw [if_pos hz]
      rw [hz] at er
      clear HL HC HT ix
      go_enter Try.func52, Try.ntmps52
      go_wp2
      have z0 := hr0.cell 0 (v := .int .i64 0) rfl
      have z1 := hr0.cell 1 (v := .int .i64 0) rfl
      refine bodyPost_ret (v := .agg #[.int .i64 (0), .int .i64 (0)]) (by simp [results, Try.results52, go_sem, z0, z1]) rfl ⟨rfl, bb⟩
    · rw [if_neg hz]
      have zz : (q % x.p == 0) = false := by rw [beq_eq_false_iff_ne]; exact hz
      generalize q / x.p % 2 = r2 at *
      generalize q / x.p = d at *
      generalize q % x.p = rr at *
      have m1 : 0 ≤ r2 * (x.p - 1) ∧ r2 * (x.p - 1) ≤ 7 := by rcases m0 with rfl | rfl <;> omega
      have m2 : 0 ≤ (r2 * (x.p - 1) + rr - 1) * k := Int.mul_nonneg (by omega) (by omega)
      have m3 : (r2 * (x.p - 1) + rr - 1) * k ≤ 14 * 4000 := Int.mul_le_mul (by omega) (by omega) (by omega) (by omega)
      have w0 : IntKind.i64.wrap r2 = r2 := IntWalk.i64_in _ (by omega)
      have w00 : IntKind.i64.wrap d = d := IntWalk.i64_in _ (by omega)
      have w01 : IntKind.i64.wrap rr = rr := IntWalk.i64_in _ (by omega)
      have w4 : IntKind.i64.wrap (x.p - 1) = x.p - 1 := IntWalk.i64_in _ (by omega)
      have w5 : IntKind.i64.wrap (r2 * (x.p - 1)) = r2 * (x.p - 1) := IntWalk.i64_in _ (by omega)
      have w6 : IntKind.i64.wrap (r2 * (x.p - 1) + rr) = r2 * (x.p - 1) + rr := IntWalk.i64_in _ (by omega)
      have w7 : IntKind.i64.wrap (r2 * (x.p - 1) + rr - 1) = r2 * (x.p - 1) + rr - 1 := IntWalk.i64_in _ (by omega)
      have w8 : IntKind.i64.wrap ((r2 * (x.p - 1) + rr - 1) * k) = (r2 * (x.p - 1) + rr - 1) * k := IntWalk.i64_in _ (by omega)
      have w9 : IntKind.i64.wrap (t2 + (r2 * (x.p - 1) + rr - 1) * k) = t2 + (r2 * (x.p - 1) + rr - 1) * k := IntWalk.i64_in _ (by omega)
      have ix1 := fun w => (ix w).2.2.1
      clear ix
      go_enter Try.func52, Try.ntmps52
      go_wp2_with fail
      generalize (w.alloc (.cells #[.int .i64 x.h, .int .i64 x.z, .int .i64 x.b, .int .i64 x.r, .int .i64 x.d, .int .i64 x.e, .int .i64 x.s, .int .i64 x.p, .int .i64 x.q, .int .i64 x.t, .slice A n c] 24)).alloc (.cells #[.int .i64 0, .int .i64 0] 56) = W1 at *
      have keep := fun {w' w'' : World} (h : (fun w' => Blk w' w.heap.size #[.int .i64 x.h, .int .i64 x.z, .int .i64 x.b, .int .i64 x.r, .int .i64 x.d, .int .i64 x.e, .int .i64 x.s, .int .i64 x.p, .int .i64 x.q, .int .i64 x.t, .slice A n c] 24 ∧ Blk w' (w.heap.size + 1) #[.int .i64 0, .int .i64 0] 56 ∧ Below w.heap.size w w') w') (hb : Below w'.heap.size w' w'') => (⟨h.1.below hb h.1.lt, h.2.1.below hb h.2.1.lt, bnext h.2.2 hb⟩ : (fun w' => Blk w' w.heap.size #[.int .i64 x.h, .int .i64 x.z, .int .i64 x.b, .int .i64 x.r, .int .i64 x.d, .int .i64 x.e, .int .i64 x.s, .int .i64 x.p, .int .i64 x.q, .int .i64 x.t, .slice A n c] 24 ∧ Blk w' (w.heap.size + 1) #[.int .i64 0, .int .i64 0] 56 ∧ Below w.heap.size w w') w'')
      have hvo := Free.val
      refine Free.wp_facts (M := [0, 0, 2, 7, 15]) (D := [[], [], [(1, 17)], [(0, 16), (2, 18)], [(3, 19)]]) (outs := [4]) (soles := []) (E := [(0, 16, false), (1, 17, false), (2, 18, false), (3, 19, false), (4, 5, true)]) (N := 43) (S := (fun w' => Blk w' w.heap.size #[.int .i64 x.h, .int .i64 x.z, .int .i64 x.b, .int .i64 x.r, .int .i64 x.d, .int .i64 x.e, .int .i64 x.s, .int .i64 x.p, .int .i64 x.q, .int .i64 x.t, .slice A n c] 24 ∧ Blk w' (w.heap.size + 1) #[.int .i64 0, .int .i64 0] 56 ∧ Below w.heap.size w w')) [Free.Fact.is ?_, Free.Fact.is ?_, Free.Fact.is ?_, Free.Fact.is ?_, Free.Fact.is ?_] (by kernel_rfl) (by kernel_rfl) rfl (⟨hx0.drew, hr0.drew, bb.drew⟩) ?_ ?_
      rotate_left 5
      refine Free.cons ?_ ?_
      · intro w' hS; intro K hK; have hX := hS.1; have hXlt := hX.lt; have a0 := hX.cell 0 (v := .int .i64 x.h) rfl; have a1 := hX.cell 1 (v := .int .i64 x.z) rfl; have a2 := hX.cell 2 (v := .int .i64 x.b) rfl; have a3 := hX.cell 3 (v := .int .i64 x.r) rfl; have a4 := hX.cell 4 (v := .int .i64 x.d) rfl; have a5 := hX.cell 5 (v := .int .i64 x.e) rfl; have a6 := hX.cell 6 (v := .int .i64 x.s) rfl; have a7 := hX.cell 7 (v := .int .i64 x.p) rfl; have a8 := hX.cell 8 (v := .int .i64 x.q) rfl; have a9 := hX.cell 9 (v := .int .i64 x.t) rfl; have a10 := hX.cell 10 (v := .slice A n c) rfl; first | (refine Free.run_yes (by rfl) ?_; go_simp; refine Free.o hK hS ?_; exact rfl) | (refine Free.run_no (by rfl) (Free.o hK hS ?_); exact rfl)
      refine Free.cons ?_ ?_
      · intro w' hS; intro K hK; have hX := hS.1; have hXlt := hX.lt; have a0 := hX.cell 0 (v := .int .i64 x.h) rfl; have a1 := hX.cell 1 (v := .int .i64 x.z) rfl; have a2 := hX.cell 2 (v := .int .i64 x.b) rfl; have a3 := hX.cell 3 (v := .int .i64 x.r) rfl; have a4 := hX.cell 4 (v := .int .i64 x.d) rfl; have a5 := hX.cell 5 (v := .int .i64 x.e) rfl; have a6 := hX.cell 6 (v := .int .i64 x.s) rfl; have a7 := hX.cell 7 (v := .int .i64 x.p) rfl; have a8 := hX.cell 8 (v := .int .i64 x.q) rfl; have a9 := hX.cell 9 (v := .int .i64 x.t) rfl; have a10 := hX.cell 10 (v := .slice A n c) rfl; first | (refine Free.run_yes (by rfl) ?_; go_simp; refine Free.o hK hS ?_; exact rfl) | (refine Free.run_no (by rfl) (Free.o hK hS ?_); exact rfl)
      refine Free.cons ?_ ?_
      · intro w' hS; (rintro _ rfl); intro K hK; have hX := hS.1; have hXlt := hX.lt; have a0 := hX.cell 0 (v := .int .i64 x.h) rfl; have a1 := hX.cell 1 (v := .int .i64 x.z) rfl; have a2 := hX.cell 2 (v := .int .i64 x.b) rfl; have a3 := hX.cell 3 (v := .int .i64 x.r) rfl; have a4 := hX.cell 4 (v := .int .i64 x.d) rfl; have a5 := hX.cell 5 (v := .int .i64 x.e) rfl; have a6 := hX.cell 6 (v := .int .i64 x.s) rfl; have a7 := hX.cell 7 (v := .int .i64 x.p) rfl; have a8 := hX.cell 8 (v := .int .i64 x.q) rfl; have a9 := hX.cell 9 (v := .int .i64 x.t) rfl; have a10 := hX.cell 10 (v := .slice A n c) rfl; first | (refine Free.run_yes (by rfl) ?_; go_simp; (first | (go_at_call 44; refine (HL.out _).mono ?_; rintro e w' ⟨rfl, hb⟩) | (go_at_call 86; refine (HC.out _).mono ?_; rintro e w' ⟨rfl, hb⟩)); go_simp; refine Free.c hK (keep hS hb) hb ?_; exact rfl) | (refine Free.run_no (by rfl) (Free.o hK hS ?_); exact rfl)
      refine Free.cons ?_ ?_
      · intro w' hS; (rintro _ rfl); (rintro _ rfl); intro K hK; have hX := hS.1; have hXlt := hX.lt; have a0 := hX.cell 0 (v := .int .i64 x.h) rfl; have a1 := hX.cell 1 (v := .int .i64 x.z) rfl; have a2 := hX.cell 2 (v := .int .i64 x.b) rfl; have a3 := hX.cell 3 (v := .int .i64 x.r) rfl; have a4 := hX.cell 4 (v := .int .i64 x.d) rfl; have a5 := hX.cell 5 (v := .int .i64 x.e) rfl; have a6 := hX.cell 6 (v := .int .i64 x.s) rfl; have a7 := hX.cell 7 (v := .int .i64 x.p) rfl; have a8 := hX.cell 8 (v := .int .i64 x.q) rfl; have a9 := hX.cell 9 (v := .int .i64 x.t) rfl; have a10 := hX.cell 10 (v := .slice A n c) rfl; first | (refine Free.run_yes (by rfl) ?_; go_simp; (first | (go_at_call 44; refine (HL.out _).mono ?_; rintro e w' ⟨rfl, hb⟩) | (go_at_call 86; refine (HC.out _).mono ?_; rintro e w' ⟨rfl, hb⟩)); go_simp; refine Free.c hK (keep hS hb) hb ?_; exact rfl) | (refine Free.run_no (by rfl) (Free.o hK hS ?_); exact rfl)
      refine Free.cons ?_ ?_
      · intro w' hS; (rintro _ rfl); intro K hK; have hX := hS.1; have hXlt := hX.lt; have a0 := hX.cell 0 (v := .int .i64 x.h) rfl; have a1 := hX.cell 1 (v := .int .i64 x.z) rfl; have a2 := hX.cell 2 (v := .int .i64 x.b) rfl; have a3 := hX.cell 3 (v := .int .i64 x.r) rfl; have a4 := hX.cell 4 (v := .int .i64 x.d) rfl; have a5 := hX.cell 5 (v := .int .i64 x.e) rfl; have a6 := hX.cell 6 (v := .int .i64 x.s) rfl; have a7 := hX.cell 7 (v := .int .i64 x.p) rfl; have a8 := hX.cell 8 (v := .int .i64 x.q) rfl; have a9 := hX.cell 9 (v := .int .i64 x.t) rfl; have a10 := hX.cell 10 (v := .slice A n c) rfl; first | (refine Free.run_yes (by rfl) ?_; go_simp; refine Free.o hK hS ?_; exact rfl) | (refine Free.run_no (by rfl) (Free.o hK hS ?_); exact rfl)
      exact Free.nil
      clear hvo
      intro w' hS; intro v0; intro v1; intro v2; intro v3; (rintro _ rfl); (try simp only [Act.put, List.setIfInBounds_toArray, List.set_cons_zero, List.set_cons_succ]); refine Free.toldE_nil ?_
      clear keep
      have hX := hS.1
      have hr := hS.2.1
      replace bb := hS.2.2
      have hXlt := hX.lt
      clear hS hx0 hr0
      have a0 := hX.cell 0 (v := .int .i64 x.h) rfl; have a1 := hX.cell 1 (v := .int .i64 x.z) rfl; have a2 := hX.cell 2 (v := .int .i64 x.b) rfl; have a3 := hX.cell 3 (v := .int .i64 x.r) rfl; have a4 := hX.cell 4 (v := .int .i64 x.d) rfl; have a5 := hX.cell 5 (v := .int .i64 x.e) rfl; have a6 := hX.cell 6 (v := .int .i64 x.s) rfl; have a7 := hX.cell 7 (v := .int .i64 x.p) rfl; have a8 := hX.cell 8 (v := .int .i64 x.q) rfl; have a9 := hX.cell 9 (v := .int .i64 x.t) rfl; have a10 := hX.cell 10 (v := .slice A n c) rfl
      go_wp2_with fail
      clear a0 a1 a2 a3 a4 a5 a6 a7 a8 a9 a10
      have keep := fun {w' w'' : World} (h : (fun w' => Blk w' w.heap.size #[.int .i64 x.h, .int .i64 x.z, .int .i64 x.b, .int .i64 x.r, .int .i64 x.d, .int .i64 x.e, .int .i64 x.s, .int .i64 x.p, .int .i64 x.q, .int .i64 x.t, .slice A n c] 24 ∧ (∃ u v, Blk w' (w.heap.size + 1) #[u, v] 56) ∧ Below w.heap.size w w') w') (hb : Below w'.heap.size w' w'') => (⟨h.1.below hb h.1.lt, (let ⟨u, v, h2⟩ := h.2.1; ⟨u, v, h2.below hb h2.lt⟩), bnext h.2.2 hb⟩ : (fun w' => Blk w' w.heap.size #[.int .i64 x.h, .int .i64 x.z, .int .i64 x.b, .int .i64 x.r, .int .i64 x.d, .int .i64 x.e, .int .i64 x.s, .int .i64 x.p, .int .i64 x.q, .int .i64 x.t, .slice A n c] 24 ∧ (∃ u v, Blk w' (w.heap.size + 1) #[u, v] 56) ∧ Below w.heap.size w w') w'')
      have hvo := Free.val
      refine Free.wp_factsW (M := [0, 1, 3, 0, 0, 16, 56, 120, 0, 256, 768, 2040, 0, 0, 8192, 28672, 65528, 131064, 0, 524280, 1048575, 0, 4194303, 8388607]) (D := [[], [(0, 20)], [(1, 21)], [], [], [(4, 24)], [(3, 23), (5, 25)], [(6, 26)], [], [(8, 28)], [(9, 29)], [(7, 27), (10, 30)], [], [], [(13, 33)], [(12, 32), (14, 34)], [(11, 31), (15, 35)], [(16, 36)], [], [(17, 37), (18, 38)], [(2, 22), (19, 39)], [], [(20, 40), (21, 41)], [(22, 42)]]) (outs := [23]) (soles := [23]) (E := [(0, some 20, false), (1, some 21, false), (2, some 22, false), (3, some 23, false), (4, some 24, false), (5, some 25, false), (6, some 26, false), (7, some 27, false), (8, some 28, false), (9, some 29, false), (10, some 30, false), (11, some 31, false), (12, some 32, false), (13, some 33, false), (14, some 34, false), (15, some 35, false), (16, some 36, false), (17, some 37, false), (18, some 38, false), (19, some 39, false), (20, some 40, false), (21, some 41, false), (22, some 42, false), (23, none, true)]) (N := 43) (S := (fun w' => Blk w' w.heap.size #[.int .i64 x.h, .int .i64 x.z, .int .i64 x.b, .int .i64 x.r, .int .i64 x.d, .int .i64 x.e, .int .i64 x.s, .int .i64 x.p, .int .i64 x.q, .int .i64 x.t, .slice A n c] 24 ∧ (∃ u v, Blk w' (w.heap.size + 1) #[u, v] 56) ∧ Below w.heap.size w w')) [Free.Fact.is ?_, Free.Fact.is ?_, Free.Fact.is ?_, Free.Fact.is ?_, Free.Fact.is ?_, Free.Fact.is ?_, Free.Fact.is ?_, Free.Fact.is ?_, Free.Fact.is ?_, Free.Fact.is ?_, Free.Fact.is ?_, Free.Fact.is ?_, Free.Fact.is ?_, Free.Fact.is ?_, Free.Fact.is ?_, Free.Fact.is ?_, Free.Fact.is ?_, Free.Fact.is ?_, Free.Fact.is ?_, Free.Fact.is ?_, Free.Fact.is ?_, Free.Fact.is ?_, Free.Fact.is ?_, Free.Fact.blk (w.heap.size + 1) #[.int .i64 (t2 + (r2 * (x.p - 1) + rr - 1) * k), .int .i64 k] 56] (by kernel_rfl) (by kernel_rfl) rfl (⟨hX.drew, ⟨_, _, hr.drew⟩, bb.drew⟩) ?_ ?_
      rotate_left 23
      refine Free.cons ?_ ?_
      · intro w' hS; intro K hK; have hX := hS.1; have hXlt := hX.lt; have a0 := hX.cell 0 (v := .int .i64 x.h) rfl; have a1 := hX.cell 1 (v := .int .i64 x.z) rfl; have a2 := hX.cell 2 (v := .int .i64 x.b) rfl; have a3 := hX.cell 3 (v := .int .i64 x.r) rfl; have a4 := hX.cell 4 (v := .int .i64 x.d) rfl; have a5 := hX.cell 5 (v := .int .i64 x.e) rfl; have a6 := hX.cell 6 (v := .int .i64 x.s) rfl; have a7 := hX.cell 7 (v := .int .i64 x.p) rfl; have a8 := hX.cell 8 (v := .int .i64 x.q) rfl; have a9 := hX.cell 9 (v := .int .i64 x.t) rfl; have a10 := hX.cell 10 (v := .slice A n c) rfl; first | (refine Free.run_yes (by rfl) ?_; go_simp; refine Free.o hK hS ?_; exact rfl) | (refine Free.run_no (by rfl) (Free.o hK hS ?_); exact rfl)
      refine Free.cons ?_ ?_
      · intro w' hS; (rintro _ rfl); intro K hK; have hX := hS.1; have hXlt := hX.lt; have a0 := hX.cell 0 (v := .int .i64 x.h) rfl; have a1 := hX.cell 1 (v := .int .i64 x.z) rfl; have a2 := hX.cell 2 (v := .int .i64 x.b) rfl; have a3 := hX.cell 3 (v := .int .i64 x.r) rfl; have a4 := hX.cell 4 (v := .int .i64 x.d) rfl; have a5 := hX.cell 5 (v := .int .i64 x.e) rfl; have a6 := hX.cell 6 (v := .int .i64 x.s) rfl; have a7 := hX.cell 7 (v := .int .i64 x.p) rfl; have a8 := hX.cell 8 (v := .int .i64 x.q) rfl; have a9 := hX.cell 9 (v := .int .i64 x.t) rfl; have a10 := hX.cell 10 (v := .slice A n c) rfl; first | (refine Free.run_yes (by rfl) ?_; go_simp; ((go_at_call 87; refine (HT.out _).mono ?_; rintro e w' ⟨rfl, hb⟩)); go_simp; refine Free.c hK (keep hS hb) hb ?_; exact rfl) | (refine Free.run_no (by rfl) (Free.o hK hS ?_); exact rfl)
      refine Free.cons ?_ ?_
      · intro w' hS; (rintro _ rfl); intro K hK; have hX := hS.1; have hXlt := hX.lt; have a0 := hX.cell 0 (v := .int .i64 x.h) rfl; have a1 := hX.cell 1 (v := .int .i64 x.z) rfl; have a2 := hX.cell 2 (v := .int .i64 x.b) rfl; have a3 := hX.cell 3 (v := .int .i64 x.r) rfl; have a4 := hX.cell 4 (v := .int .i64 x.d) rfl; have a5 := hX.cell 5 (v := .int .i64 x.e) rfl; have a6 := hX.cell 6 (v := .int .i64 x.s) rfl; have a7 := hX.cell 7 (v := .int .i64 x.p) rfl; have a8 := hX.cell 8 (v := .int .i64 x.q) rfl; have a9 := hX.cell 9 (v := .int .i64 x.t) rfl; have a10 := hX.cell 10 (v := .slice A n c) rfl; first | (refine Free.run_yes (by rfl) ?_; go_simp; refine Free.o hK hS ?_; exact rfl) | (refine Free.run_no (by rfl) (Free.o hK hS ?_); exact rfl)
      refine Free.cons ?_ ?_
      · intro w' hS; intro K hK; have hX := hS.1; have hXlt := hX.lt; have a0 := hX.cell 0 (v := .int .i64 x.h) rfl; have a1 := hX.cell 1 (v := .int .i64 x.z) rfl; have a2 := hX.cell 2 (v := .int .i64 x.b) rfl; have a3 := hX.cell 3 (v := .int .i64 x.r) rfl; have a4 := hX.cell 4 (v := .int .i64 x.d) rfl; have a5 := hX.cell 5 (v := .int .i64 x.e) rfl; have a6 := hX.cell 6 (v := .int .i64 x.s) rfl; have a7 := hX.cell 7 (v := .int .i64 x.p) rfl; have a8 := hX.cell 8 (v := .int .i64 x.q) rfl; have a9 := hX.cell 9 (v := .int .i64 x.t) rfl; have a10 := hX.cell 10 (v := .slice A n c) rfl; first | (refine Free.run_yes (by rfl) ?_; go_simp; refine Free.o hK hS ?_; exact rfl) | (refine Free.run_no (by rfl) (Free.o hK hS ?_); exact rfl)
      refine Free.cons ?_ ?_
      · intro w' hS; intro K hK; have hX := hS.1; have hXlt := hX.lt; have a0 := hX.cell 0 (v := .int .i64 x.h) rfl; have a1 := hX.cell 1 (v := .int .i64 x.z) rfl; have a2 := hX.cell 2 (v := .int .i64 x.b) rfl; have a3 := hX.cell 3 (v := .int .i64 x.r) rfl; have a4 := hX.cell 4 (v := .int .i64 x.d) rfl; have a5 := hX.cell 5 (v := .int .i64 x.e) rfl; have a6 := hX.cell 6 (v := .int .i64 x.s) rfl; have a7 := hX.cell 7 (v := .int .i64 x.p) rfl; have a8 := hX.cell 8 (v := .int .i64 x.q) rfl; have a9 := hX.cell 9 (v := .int .i64 x.t) rfl; have a10 := hX.cell 10 (v := .slice A n c) rfl; first | (refine Free.run_yes (by rfl) ?_; go_simp; refine Free.o hK hS ?_; exact rfl) | (refine Free.run_no (by rfl) (Free.o hK hS ?_); exact rfl)
      refine Free.cons ?_ ?_
      · intro w' hS; (rintro _ rfl); intro K hK; have hX := hS.1; have hXlt := hX.lt; have a0 := hX.cell 0 (v := .int .i64 x.h) rfl; have a1 := hX.cell 1 (v := .int .i64 x.z) rfl; have a2 := hX.cell 2 (v := .int .i64 x.b) rfl; have a3 := hX.cell 3 (v := .int .i64 x.r) rfl; have a4 := hX.cell 4 (v := .int .i64 x.d) rfl; have a5 := hX.cell 5 (v := .int .i64 x.e) rfl; have a6 := hX.cell 6 (v := .int .i64 x.s) rfl; have a7 := hX.cell 7 (v := .int .i64 x.p) rfl; have a8 := hX.cell 8 (v := .int .i64 x.q) rfl; have a9 := hX.cell 9 (v := .int .i64 x.t) rfl; have a10 := hX.cell 10 (v := .slice A n c) rfl; first | (refine Free.run_yes (by rfl) ?_; go_simp; refine Free.o hK hS ?_; exact rfl) | (refine Free.run_no (by rfl) (Free.o hK hS ?_); exact rfl)
      refine Free.cons ?_ ?_
      · intro w' hS; (rintro _ rfl); (rintro _ rfl); intro K hK; have hX := hS.1; have hXlt := hX.lt; have a0 := hX.cell 0 (v := .int .i64 x.h) rfl; have a1 := hX.cell 1 (v := .int .i64 x.z) rfl; have a2 := hX.cell 2 (v := .int .i64 x.b) rfl; have a3 := hX.cell 3 (v := .int .i64 x.r) rfl; have a4 := hX.cell 4 (v := .int .i64 x.d) rfl; have a5 := hX.cell 5 (v := .int .i64 x.e) rfl; have a6 := hX.cell 6 (v := .int .i64 x.s) rfl; have a7 := hX.cell 7 (v := .int .i64 x.p) rfl; have a8 := hX.cell 8 (v := .int .i64 x.q) rfl; have a9 := hX.cell 9 (v := .int .i64 x.t) rfl; have a10 := hX.cell 10 (v := .slice A n c) rfl; first | (refine Free.run_yes (by rfl) ?_; go_simp; refine Free.o hK hS ?_; exact rfl) | (refine Free.run_no (by rfl) (Free.o hK hS ?_); exact rfl)
      refine Free.cons ?_ ?_
      · intro w' hS; (rintro _ rfl); intro K hK; have hX := hS.1; have hXlt := hX.lt; have a0 := hX.cell 0 (v := .int .i64 x.h) rfl; have a1 := hX.cell 1 (v := .int .i64 x.z) rfl; have a2 := hX.cell 2 (v := .int .i64 x.b) rfl; have a3 := hX.cell 3 (v := .int .i64 x.r) rfl; have a4 := hX.cell 4 (v := .int .i64 x.d) rfl; have a5 := hX.cell 5 (v := .int .i64 x.e) rfl; have a6 := hX.cell 6 (v := .int .i64 x.s) rfl; have a7 := hX.cell 7 (v := .int .i64 x.p) rfl; have a8 := hX.cell 8 (v := .int .i64 x.q) rfl; have a9 := hX.cell 9 (v := .int .i64 x.t) rfl; have a10 := hX.cell 10 (v := .slice A n c) rfl; first | (refine Free.run_yes (by rfl) ?_; go_simp; refine Free.o hK hS ?_; exact rfl) | (refine Free.run_no (by rfl) (Free.o hK hS ?_); exact rfl)
      refine Free.cons ?_ ?_
      · intro w' hS; intro K hK; have hX := hS.1; have hXlt := hX.lt; have a0 := hX.cell 0 (v := .int .i64 x.h) rfl; have a1 := hX.cell 1 (v := .int .i64 x.z) rfl; have a2 := hX.cell 2 (v := .int .i64 x.b) rfl; have a3 := hX.cell 3 (v := .int .i64 x.r) rfl; have a4 := hX.cell 4 (v := .int .i64 x.d) rfl; have a5 := hX.cell 5 (v := .int .i64 x.e) rfl; have a6 := hX.cell 6 (v := .int .i64 x.s) rfl; have a7 := hX.cell 7 (v := .int .i64 x.p) rfl; have a8 := hX.cell 8 (v := .int .i64 x.q) rfl; have a9 := hX.cell 9 (v := .int .i64 x.t) rfl; have a10 := hX.cell 10 (v := .slice A n c) rfl; first | (refine Free.run_yes (by rfl) ?_; go_simp; refine Free.o hK hS ?_; exact rfl) | (refine Free.run_no (by rfl) (Free.o hK hS ?_); exact rfl)
      refine Free.cons ?_ ?_
      · intro w' hS; (rintro _ rfl); intro K hK; have hX := hS.1; have hXlt := hX.lt; have a0 := hX.cell 0 (v := .int .i64 x.h) rfl; have a1 := hX.cell 1 (v := .int .i64 x.z) rfl; have a2 := hX.cell 2 (v := .int .i64 x.b) rfl; have a3 := hX.cell 3 (v := .int .i64 x.r) rfl; have a4 := hX.cell 4 (v := .int .i64 x.d) rfl; have a5 := hX.cell 5 (v := .int .i64 x.e) rfl; have a6 := hX.cell 6 (v := .int .i64 x.s) rfl; have a7 := hX.cell 7 (v := .int .i64 x.p) rfl; have a8 := hX.cell 8 (v := .int .i64 x.q) rfl; have a9 := hX.cell 9 (v := .int .i64 x.t) rfl; have a10 := hX.cell 10 (v := .slice A n c) rfl; first | (refine Free.run_yes (by rfl) ?_; go_simp; refine Free.o hK hS ?_; exact rfl) | (refine Free.run_no (by rfl) (Free.o hK hS ?_); exact rfl)
      refine Free.cons ?_ ?_
      · intro w' hS; (rintro _ rfl); intro K hK; have hX := hS.1; have hXlt := hX.lt; have a0 := hX.cell 0 (v := .int .i64 x.h) rfl; have a1 := hX.cell 1 (v := .int .i64 x.z) rfl; have a2 := hX.cell 2 (v := .int .i64 x.b) rfl; have a3 := hX.cell 3 (v := .int .i64 x.r) rfl; have a4 := hX.cell 4 (v := .int .i64 x.d) rfl; have a5 := hX.cell 5 (v := .int .i64 x.e) rfl; have a6 := hX.cell 6 (v := .int .i64 x.s) rfl; have a7 := hX.cell 7 (v := .int .i64 x.p) rfl; have a8 := hX.cell 8 (v := .int .i64 x.q) rfl; have a9 := hX.cell 9 (v := .int .i64 x.t) rfl; have a10 := hX.cell 10 (v := .slice A n c) rfl; first | (refine Free.run_yes (by rfl) ?_; go_simp; refine Free.o hK hS ?_; exact rfl) | (refine Free.run_no (by rfl) (Free.o hK hS ?_); exact rfl)
      refine Free.cons ?_ ?_
      · intro w' hS; (rintro _ rfl); (rintro _ rfl); intro K hK; have hX := hS.1; have hXlt := hX.lt; have a0 := hX.cell 0 (v := .int .i64 x.h) rfl; have a1 := hX.cell 1 (v := .int .i64 x.z) rfl; have a2 := hX.cell 2 (v := .int .i64 x.b) rfl; have a3 := hX.cell 3 (v := .int .i64 x.r) rfl; have a4 := hX.cell 4 (v := .int .i64 x.d) rfl; have a5 := hX.cell 5 (v := .int .i64 x.e) rfl; have a6 := hX.cell 6 (v := .int .i64 x.s) rfl; have a7 := hX.cell 7 (v := .int .i64 x.p) rfl; have a8 := hX.cell 8 (v := .int .i64 x.q) rfl; have a9 := hX.cell 9 (v := .int .i64 x.t) rfl; have a10 := hX.cell 10 (v := .slice A n c) rfl; first | (refine Free.run_yes (by rfl) ?_; go_simp; refine Free.o hK hS ?_; exact rfl) | (refine Free.run_no (by rfl) (Free.o hK hS ?_); exact rfl)
      refine Free.cons ?_ ?_
      · intro w' hS; intro K hK; have hX := hS.1; have hXlt := hX.lt; have a0 := hX.cell 0 (v := .int .i64 x.h) rfl; have a1 := hX.cell 1 (v := .int .i64 x.z) rfl; have a2 := hX.cell 2 (v := .int .i64 x.b) rfl; have a3 := hX.cell 3 (v := .int .i64 x.r) rfl; have a4 := hX.cell 4 (v := .int .i64 x.d) rfl; have a5 := hX.cell 5 (v := .int .i64 x.e) rfl; have a6 := hX.cell 6 (v := .int .i64 x.s) rfl; have a7 := hX.cell 7 (v := .int .i64 x.p) rfl; have a8 := hX.cell 8 (v := .int .i64 x.q) rfl; have a9 := hX.cell 9 (v := .int .i64 x.t) rfl; have a10 := hX.cell 10 (v := .slice A n c) rfl; first | (refine Free.run_yes (by rfl) ?_; go_simp; refine Free.o hK hS ?_; exact rfl) | (refine Free.run_no (by rfl) (Free.o hK hS ?_); exact rfl)
      refine Free.cons ?_ ?_
      · intro w' hS; intro K hK; have hX := hS.1; have hXlt := hX.lt; have a0 := hX.cell 0 (v := .int .i64 x.h) rfl; have a1 := hX.cell 1 (v := .int .i64 x.z) rfl; have a2 := hX.cell 2 (v := .int .i64 x.b) rfl; have a3 := hX.cell 3 (v := .int .i64 x.r) rfl; have a4 := hX.cell 4 (v := .int .i64 x.d) rfl; have a5 := hX.cell 5 (v := .int .i64 x.e) rfl; have a6 := hX.cell 6 (v := .int .i64 x.s) rfl; have a7 := hX.cell 7 (v := .int .i64 x.p) rfl; have a8 := hX.cell 8 (v := .int .i64 x.q) rfl; have a9 := hX.cell 9 (v := .int .i64 x.t) rfl; have a10 := hX.cell 10 (v := .slice A n c) rfl; first | (refine Free.run_yes (by rfl) ?_; go_simp; refine Free.o hK hS ?_; exact rfl) | (refine Free.run_no (by rfl) (Free.o hK hS ?_); exact rfl)
      refine Free.cons ?_ ?_
      · intro w' hS; (rintro _ rfl); intro K hK; have hX := hS.1; have hXlt := hX.lt; have a0 := hX.cell 0 (v := .int .i64 x.h) rfl; have a1 := hX.cell 1 (v := .int .i64 x.z) rfl; have a2 := hX.cell 2 (v := .int .i64 x.b) rfl; have a3 := hX.cell 3 (v := .int .i64 x.r) rfl; have a4 := hX.cell 4 (v := .int .i64 x.d) rfl; have a5 := hX.cell 5 (v := .int .i64 x.e) rfl; have a6 := hX.cell 6 (v := .int .i64 x.s) rfl; have a7 := hX.cell 7 (v := .int .i64 x.p) rfl; have a8 := hX.cell 8 (v := .int .i64 x.q) rfl; have a9 := hX.cell 9 (v := .int .i64 x.t) rfl; have a10 := hX.cell 10 (v := .slice A n c) rfl; first | (refine Free.run_yes (by rfl) ?_; go_simp; refine Free.o hK hS ?_; exact rfl) | (refine Free.run_no (by rfl) (Free.o hK hS ?_); exact rfl)
      refine Free.cons ?_ ?_
      · intro w' hS; (rintro _ rfl); (rintro _ rfl); intro K hK; have hX := hS.1; have hXlt := hX.lt; have a0 := hX.cell 0 (v := .int .i64 x.h) rfl; have a1 := hX.cell 1 (v := .int .i64 x.z) rfl; have a2 := hX.cell 2 (v := .int .i64 x.b) rfl; have a3 := hX.cell 3 (v := .int .i64 x.r) rfl; have a4 := hX.cell 4 (v := .int .i64 x.d) rfl; have a5 := hX.cell 5 (v := .int .i64 x.e) rfl; have a6 := hX.cell 6 (v := .int .i64 x.s) rfl; have a7 := hX.cell 7 (v := .int .i64 x.p) rfl; have a8 := hX.cell 8 (v := .int .i64 x.q) rfl; have a9 := hX.cell 9 (v := .int .i64 x.t) rfl; have a10 := hX.cell 10 (v := .slice A n c) rfl; first | (refine Free.run_yes (by rfl) ?_; go_simp; refine Free.o hK hS ?_; exact rfl) | (refine Free.run_no (by rfl) (Free.o hK hS ?_); exact rfl)
      refine Free.cons ?_ ?_
      · intro w' hS; (rintro _ rfl); (rintro _ rfl); intro K hK; have hX := hS.1; have hXlt := hX.lt; have a0 := hX.cell 0 (v := .int .i64 x.h) rfl; have a1 := hX.cell 1 (v := .int .i64 x.z) rfl; have a2 := hX.cell 2 (v := .int .i64 x.b) rfl; have a3 := hX.cell 3 (v := .int .i64 x.r) rfl; have a4 := hX.cell 4 (v := .int .i64 x.d) rfl; have a5 := hX.cell 5 (v := .int .i64 x.e) rfl; have a6 := hX.cell 6 (v := .int .i64 x.s) rfl; have a7 := hX.cell 7 (v := .int .i64 x.p) rfl; have a8 := hX.cell 8 (v := .int .i64 x.q) rfl; have a9 := hX.cell 9 (v := .int .i64 x.t) rfl; have a10 := hX.cell 10 (v := .slice A n c) rfl; first | (refine Free.run_yes (by rfl) ?_; go_simp; refine Free.o hK hS ?_; exact rfl) | (refine Free.run_no (by rfl) (Free.o hK hS ?_); exact rfl)
      refine Free.cons ?_ ?_
      · intro w' hS; (rintro _ rfl); intro K hK; have hX := hS.1; have hXlt := hX.lt; have a0 := hX.cell 0 (v := .int .i64 x.h) rfl; have a1 := hX.cell 1 (v := .int .i64 x.z) rfl; have a2 := hX.cell 2 (v := .int .i64 x.b) rfl; have a3 := hX.cell 3 (v := .int .i64 x.r) rfl; have a4 := hX.cell 4 (v := .int .i64 x.d) rfl; have a5 := hX.cell 5 (v := .int .i64 x.e) rfl; have a6 := hX.cell 6 (v := .int .i64 x.s) rfl; have a7 := hX.cell 7 (v := .int .i64 x.p) rfl; have a8 := hX.cell 8 (v := .int .i64 x.q) rfl; have a9 := hX.cell 9 (v := .int .i64 x.t) rfl; have a10 := hX.cell 10 (v := .slice A n c) rfl; first | (refine Free.run_yes (by rfl) ?_; go_simp; refine Free.o hK hS ?_; exact rfl) | (refine Free.run_no (by rfl) (Free.o hK hS ?_); exact rfl)
      refine Free.cons ?_ ?_
      · intro w' hS; intro K hK; have hX := hS.1; have hXlt := hX.lt; have a0 := hX.cell 0 (v := .int .i64 x.h) rfl; have a1 := hX.cell 1 (v := .int .i64 x.z) rfl; have a2 := hX.cell 2 (v := .int .i64 x.b) rfl; have a3 := hX.cell 3 (v := .int .i64 x.r) rfl; have a4 := hX.cell 4 (v := .int .i64 x.d) rfl; have a5 := hX.cell 5 (v := .int .i64 x.e) rfl; have a6 := hX.cell 6 (v := .int .i64 x.s) rfl; have a7 := hX.cell 7 (v := .int .i64 x.p) rfl; have a8 := hX.cell 8 (v := .int .i64 x.q) rfl; have a9 := hX.cell 9 (v := .int .i64 x.t) rfl; have a10 := hX.cell 10 (v := .slice A n c) rfl; first | (refine Free.run_yes (by rfl) ?_; go_simp; refine Free.o hK hS ?_; exact rfl) | (refine Free.run_no (by rfl) (Free.o hK hS ?_); exact rfl)
      refine Free.cons ?_ ?_
      · intro w' hS; (rintro _ rfl); (rintro _ rfl); intro K hK; have hX := hS.1; have hXlt := hX.lt; have a0 := hX.cell 0 (v := .int .i64 x.h) rfl; have a1 := hX.cell 1 (v := .int .i64 x.z) rfl; have a2 := hX.cell 2 (v := .int .i64 x.b) rfl; have a3 := hX.cell 3 (v := .int .i64 x.r) rfl; have a4 := hX.cell 4 (v := .int .i64 x.d) rfl; have a5 := hX.cell 5 (v := .int .i64 x.e) rfl; have a6 := hX.cell 6 (v := .int .i64 x.s) rfl; have a7 := hX.cell 7 (v := .int .i64 x.p) rfl; have a8 := hX.cell 8 (v := .int .i64 x.q) rfl; have a9 := hX.cell 9 (v := .int .i64 x.t) rfl; have a10 := hX.cell 10 (v := .slice A n c) rfl; first | (refine Free.run_yes (by rfl) ?_; go_simp; refine Free.o hK hS ?_; exact rfl) | (refine Free.run_no (by rfl) (Free.o hK hS ?_); exact rfl)
      refine Free.cons ?_ ?_
      · intro w' hS; (rintro _ rfl); (rintro _ rfl); intro K hK; have hX := hS.1; have hXlt := hX.lt; have a0 := hX.cell 0 (v := .int .i64 x.h) rfl; have a1 := hX.cell 1 (v := .int .i64 x.z) rfl; have a2 := hX.cell 2 (v := .int .i64 x.b) rfl; have a3 := hX.cell 3 (v := .int .i64 x.r) rfl; have a4 := hX.cell 4 (v := .int .i64 x.d) rfl; have a5 := hX.cell 5 (v := .int .i64 x.e) rfl; have a6 := hX.cell 6 (v := .int .i64 x.s) rfl; have a7 := hX.cell 7 (v := .int .i64 x.p) rfl; have a8 := hX.cell 8 (v := .int .i64 x.q) rfl; have a9 := hX.cell 9 (v := .int .i64 x.t) rfl; have a10 := hX.cell 10 (v := .slice A n c) rfl; first | (refine Free.run_yes (by rfl) ?_; go_simp; refine Free.o hK hS ?_; exact rfl) | (refine Free.run_no (by rfl) (Free.o hK hS ?_); exact rfl)
      refine Free.cons ?_ ?_
      · intro w' hS; intro K hK; have hX := hS.1; have hXlt := hX.lt; have a0 := hX.cell 0 (v := .int .i64 x.h) rfl; have a1 := hX.cell 1 (v := .int .i64 x.z) rfl; have a2 := hX.cell 2 (v := .int .i64 x.b) rfl; have a3 := hX.cell 3 (v := .int .i64 x.r) rfl; have a4 := hX.cell 4 (v := .int .i64 x.d) rfl; have a5 := hX.cell 5 (v := .int .i64 x.e) rfl; have a6 := hX.cell 6 (v := .int .i64 x.s) rfl; have a7 := hX.cell 7 (v := .int .i64 x.p) rfl; have a8 := hX.cell 8 (v := .int .i64 x.q) rfl; have a9 := hX.cell 9 (v := .int .i64 x.t) rfl; have a10 := hX.cell 10 (v := .slice A n c) rfl; first | (refine Free.run_yes (by rfl) ?_; go_simp; refine Free.o hK hS ?_; exact rfl) | (refine Free.run_no (by rfl) (Free.o hK hS ?_); exact rfl)
      refine Free.cons ?_ ?_
      · intro w' hS; (rintro _ rfl); (rintro _ rfl); intro K hK; have hX := hS.1; have hXlt := hX.lt; have a0 := hX.cell 0 (v := .int .i64 x.h) rfl; have a1 := hX.cell 1 (v := .int .i64 x.z) rfl; have a2 := hX.cell 2 (v := .int .i64 x.b) rfl; have a3 := hX.cell 3 (v := .int .i64 x.r) rfl; have a4 := hX.cell 4 (v := .int .i64 x.d) rfl; have a5 := hX.cell 5 (v := .int .i64 x.e) rfl; have a6 := hX.cell 6 (v := .int .i64 x.s) rfl; have a7 := hX.cell 7 (v := .int .i64 x.p) rfl; have a8 := hX.cell 8 (v := .int .i64 x.q) rfl; have a9 := hX.cell 9 (v := .int .i64 x.t) rfl; have a10 := hX.cell 10 (v := .slice A n c) rfl; first | (refine Free.run_yes (by rfl) ?_; go_simp; refine Free.o hK hS ?_; exact rfl) | (refine Free.run_no (by rfl) (Free.o hK hS ?_); exact rfl)
      refine Free.cons ?_ ?_
      · intro w' hS; (rintro _ rfl); intro K hK; have hX := hS.1; have hXlt := hX.lt; have a0 := hX.cell 0 (v := .int .i64 x.h) rfl; have a1 := hX.cell 1 (v := .int .i64 x.z) rfl; have a2 := hX.cell 2 (v := .int .i64 x.b) rfl; have a3 := hX.cell 3 (v := .int .i64 x.r) rfl; have a4 := hX.cell 4 (v := .int .i64 x.d) rfl; have a5 := hX.cell 5 (v := .int .i64 x.e) rfl; have a6 := hX.cell 6 (v := .int .i64 x.s) rfl; have a7 := hX.cell 7 (v := .int .i64 x.p) rfl; have a8 := hX.cell 8 (v := .int .i64 x.q) rfl; have a9 := hX.cell 9 (v := .int .i64 x.t) rfl; have a10 := hX.cell 10 (v := .slice A n c) rfl; refine Free.run_yes (by rfl) ?_; (obtain ⟨hx1, ⟨u, v, hr⟩, hbl⟩ := hS; have c0 := hr.cell 0 (v := u) rfl; have c1 := hr.cell 1 (v := v) rfl; have g0 := hr.fz 0; have g1 := hr.fz 1; have hf := (hr.set 0 (.int .i64 (t2 + (r2 * (x.p - 1) + rr - 1) * k))).set 1 (.int .i64 k); go_simp; refine hK.out _ _ hf ⟨(by repeat (first | assumption | apply Blk.drewN | apply Blk.drew | apply Blk.alloc | refine Blk.other ?_ (by first | omega | (simp; done) | (simp; omega)) _)), ⟨_, _, hf⟩, (by repeat (first | exact Below.refl _ _ | assumption | apply below_drewN' | apply Below.drew | refine Below.alloc ?_ (by first | omega | (simp; done) | (simp; omega)) _ | refine Below.setCell ?_ (by first | omega | (simp; done) | (simp; omega)) _))⟩ (.inl rfl))
      exact Free.nil
      clear hvo
      intro w' hS; intro v0; intro v1; intro v2; intro v3; intro v4; intro v5; intro v6; intro v7; intro v8; intro v9; intro v10; intro v11; intro v12; intro v13; intro v14; intro v15; intro v16; intro v17; intro v18; intro v19; intro v20; intro v21; intro v22; intro v23 h23; (try simp only [Act.put, List.setIfInBounds_toArray, List.set_cons_zero, List.set_cons_succ]); refine Free.toldW_nil ?_
      have hF : Blk w' (w.heap.size + 1) #[.int .i64 (t2 + (r2 * (x.p - 1) + rr - 1) * k), .int .i64 k] 56 := h23
      have z0 := hF.cell 0 (v := .int .i64 (t2 + (r2 * (x.p - 1) + rr - 1) * k)) rfl
      have z1 := hF.cell 1 (v := .int .i64 k) rfl
      go_wp2
      refine bodyPost_ret (v := .agg #[.int .i64 (t2 + (r2 * (x.p - 1) + rr - 1) * k), .int .i64 (k)]) (by simp [results, Try.results52, go_sem, z0, z1]) rfl ⟨rfl, hS.2.2⟩

set_option maxHeartbeats 1000000 in
set_option maxRecDepth 100000 in
theorem ref_check (x : Cfg) (A : Option Addr) (n c : Nat) (q : Int) (w : World) (h : x.B) (q1 : q ≤ 4503599627370496) :
    Calls Try.prog 54 #[.agg #[.int .i64 x.h, .int .i64 x.z, .int .i64 x.b, .int .i64 x.r, .int .i64 x.d, .int .i64 x.e, .int .i64 x.s, .int .i64 x.p, .int .i64 x.q, .int .i64 x.t, .slice A n c], .int .i64 q] w fun e w' => e = .returned (.agg #[.int .i64 ((checkA x q).1), .int .i64 ((checkA x q).2)]) ∧ Below w.heap.size w w' := by
  have HF := Lib.hid (fun w => ref_full x A n c q w h q1)
  have HD := Lib.hid (fun w => ref_delta x A n c q w h q1)
  have hp := h.p
  have pn : ¬ x.p = 0 := by omega
  unfold checkA checkC
  unfold fullA at HF
  unfold deltaA at HD
  clear h
  have bb : Below w.heap.size w ((w.alloc (.cells #[.int .i64 x.h, .int .i64 x.z, .int .i64 x.b, .int .i64 x.r, .int .i64 x.d, .int .i64 x.e, .int .i64 x.s, .int .i64 x.p, .int .i64 x.q, .int .i64 x.t, .slice A n c] 24)).alloc (.cells #[.int .i64 0, .int .i64 0] 56)) := (by repeat (first | exact Below.refl _ _ | assumption | apply below_drewN' | apply Below.drew | refine Below.alloc ?_ (by first | omega | (simp; done) | (simp; omega)) _ | refine Below.setCell ?_ (by first | omega | (simp; done) | (simp; omega)) _))
  have hr0 := Blk.new2 w (.cells #[.int .i64 x.h, .int .i64 x.z, .int .i64 x.b, .int .i64 x.r, .int .i64 x.d, .int .i64 x.e, .int .i64 x.s, .int .i64 x.p, .int .i64 x.q, .int .i64 x.t, .slice A n c] 24) #[.int .i64 0, .int .i64 0] 56
  have hx0 := (Blk.new w #[.int .i64 x.h, .int .i64 x.z, .int .i64 x.b, .int .i64 x.r, .int .i64 x.d, .int .i64 x.e, .int .i64 x.s, .int .i64 x.p, .int .i64 x.q, .int .i64 x.t, .slice A n c] 24).alloc (.cells #[.int .i64 0, .int .i64 0] 56)
  by_cases i0 : q < 0
  · rw [if_pos i0]
    rw [if_pos i0] at HD
    clear HF
    go_enter Try.func54, Try.ntmps54
    go_wp2_with fail
    generalize (w.alloc (.cells #[.int .i64 x.h, .int .i64 x.z, .int .i64 x.b, .int .i64 x.r, .int .i64 x.d, .int .i64 x.e, .int .i64 x.s, .int .i64 x.p, .int .i64 x.q, .int .i64 x.t, .slice A n c] 24)).alloc (.cells #[.int .i64 0, .int .i64 0] 56) = W1 at *
    refine (HD.out _).mono ?_
    rintro e w3 ⟨rfl, hb⟩
    have hr := hr0.below hb hr0.lt
    replace bb := bnext bb hb
    clear hr0 hx0 hb
    have c0 := hr.cell 0 (v := .int .i64 0) rfl
    have c1 := hr.cell 1 (v := .int .i64 0) rfl
    have g0 := hr.fz 0
    have g1 := hr.fz 1
    have hf := (hr.set 0 (.int .i64 (0))).set 1 (.int .i64 (0))
    go_wp2
    have bF : Below w.heap.size w ((w3.setCell ⟨w.heap.size + 1, 0, none⟩ (.int .i64 (0))).setCell ⟨w.heap.size + 1, 1, none⟩ (.int .i64 (0))) := (by repeat (first | exact Below.refl _ _ | assumption | apply below_drewN' | apply Below.drew | refine Below.alloc ?_ (by first | omega | (simp; done) | (simp; omega)) _ | refine Below.setCell ?_ (by first | omega | (simp; done) | (simp; omega)) _))
    generalize (w3.setCell ⟨w.heap.size + 1, 0, none⟩ (.int .i64 (0))).setCell ⟨w.heap.size + 1, 1, none⟩ (.int .i64 (0)) = WF at *
    have z0 := hf.cell 0 (v := .int .i64 (0)) rfl
    have z1 := hf.cell 1 (v := .int .i64 (0)) rfl
    refine bodyPost_ret (v := .agg #[.int .i64 (0), .int .i64 (0)]) (by simp [results, Try.results54, go_sem, z0, z1]) rfl ⟨rfl, bF⟩
  · rw [if_neg i0]
    rw [if_neg i0] at HF HD
    have er : q.tmod x.p = q % x.p := Int.tmod_eq_emod_of_nonneg (by omega)
    by_cases hz : q % x.p = 0
    · rw [if_pos hz]
      rw [hz] at er
      generalize (fullC x q).1 = u at *
      generalize (fullC x q).2 = v at *
      go_enter Try.func54, Try.ntmps54
      go_wp2_with fail
      generalize (w.alloc (.cells #[.int .i64 x.h, .int .i64 x.z, .int .i64 x.b, .int .i64 x.r, .int .i64 x.d, .int .i64 x.e, .int .i64 x.s, .int .i64 x.p, .int .i64 x.q, .int .i64 x.t, .slice A n c] 24)).alloc (.cells #[.int .i64 0, .int .i64 0] 56) = W1 at *
      refine (HF.out _).mono ?_
      rintro e w3 ⟨rfl, hb⟩
      have hr := hr0.below hb hr0.lt
      replace bb := bnext bb hb
      clear hr0 hx0 hb
      have c0 := hr.cell 0 (v := .int .i64 0) rfl
      have c1 := hr.cell 1 (v := .int .i64 0) rfl
      have g0 := hr.fz 0
      have g1 := hr.fz 1
      have hf := (hr.set 0 (.int .i64 (u))).set 1 (.int .i64 (v))
      go_wp2
      have bF : Below w.heap.size w ((w3.setCell ⟨w.heap.size + 1, 0, none⟩ (.int .i64 (u))).setCell ⟨w.heap.size + 1, 1, none⟩ (.int .i64 (v))) := (by repeat (first | exact Below.refl _ _ | assumption | apply below_drewN' | apply Below.drew | refine Below.alloc ?_ (by first | omega | (simp; done) | (simp; omega)) _ | refine Below.setCell ?_ (by first | omega | (simp; done) | (simp; omega)) _))
      generalize (w3.setCell ⟨w.heap.size + 1, 0, none⟩ (.int .i64 (u))).setCell ⟨w.heap.size + 1, 1, none⟩ (.int .i64 (v)) = WF at *
      have z0 := hf.cell 0 (v := .int .i64 (u)) rfl
      have z1 := hf.cell 1 (v := .int .i64 (v)) rfl
      refine bodyPost_ret (v := .agg #[.int .i64 (u), .int .i64 (v)]) (by simp [results, Try.results54, go_sem, z0, z1]) rfl ⟨rfl, bF⟩
    · rw [if_neg hz]
      have zz : (q % x.p == 0) = false := by rw [beq_eq_false_iff_ne]; exact hz
      generalize (deltaC x q).1 = u at *
      generalize (deltaC x q).2 = v at *
      go_enter Try.func54, Try.ntmps54
      go_wp2_with fail
      generalize (w.alloc (.cells #[.int .i64 x.h, .int .i64 x.z, .int .i64 x.b, .int .i64 x.r, .int .i64 x.d, .int .i64 x.e, .int .i64 x.s, .int .i64 x.p, .int .i64 x.q, .int .i64 x.t, .slice A n c] 24)).alloc (.cells #[.int .i64 0, .int .i64 0] 56) = W1 at *
      refine (HD.out _).mono ?_
      rintro e w3 ⟨rfl, hb⟩
      have hr := hr0.below hb hr0.lt
      replace bb := bnext bb hb
      clear hr0 hx0 hb
      have c0 := hr.cell 0 (v := .int .i64 0) rfl
      have c1 := hr.cell 1 (v := .int .i64 0) rfl
      have g0 := hr.fz 0
      have g1 := hr.fz 1
      have hf := (hr.set 0 (.int .i64 (u))).set 1 (.int .i64 (v))
      go_wp2
      have bF : Below w.heap.size w ((w3.setCell ⟨w.heap.size + 1, 0, none⟩ (.int .i64 (u))).setCell ⟨w.heap.size + 1, 1, none⟩ (.int .i64 (v))) := (by repeat (first | exact Below.refl _ _ | assumption | apply below_drewN' | apply Below.drew | refine Below.alloc ?_ (by first | omega | (simp; done) | (simp; omega)) _ | refine Below.setCell ?_ (by first | omega | (simp; done) | (simp; omega)) _))
      generalize (w3.setCell ⟨w.heap.size + 1, 0, none⟩ (.int .i64 (u))).setCell ⟨w.heap.size + 1, 1, none⟩ (.int .i64 (v)) = WF at *
      have z0 := hf.cell 0 (v := .int .i64 (u)) rfl
      have z1 := hf.cell 1 (v := .int .i64 (v)) rfl
      refine bodyPost_ret (v := .agg #[.int .i64 (u), .int .i64 (v)]) (by simp [results, Try.results54, go_sem, z0, z1]) rfl ⟨rfl, bF⟩
end Go.Proofs.Ytdmjiaicgbcodaa
