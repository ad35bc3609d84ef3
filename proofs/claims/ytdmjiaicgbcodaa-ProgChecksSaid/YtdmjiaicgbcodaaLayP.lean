/- Contracts of package lay: logs of slots, logs of commands; sums of operations. -/
import Derived.Test.YtdmjiaicgbcodaaLayI
namespace Go.Proofs.Ytdmjiaicgbcodaa
open Go.ChangeShapes Go.WideShapes Go.ChangeAt Go.RowKit
open Go.ChangeMaps (open_string shut_string)
set_option linter.unusedVariables false
set_option linter.unusedSimpArgs false

/-- The log of a slot; an epoch's log of commands. -/
def logC (x : Cfg) (i : Int) : Int × Int := if inR i 0 (slotsC x - 1) = true then (2 + i * cellsC x 12, cellsC x 12) else (0, 0)
def clogC (x : Cfg) (q : Int) : Int × Int := (clogsC x + q % 2 * cellsC x (clogLenC x), cellsC x (clogLenC x))

set_option maxHeartbeats 1000000 in
set_option maxRecDepth 100000 in
theorem lay_log (x : Cfg) (A : Option Addr) (n c : Nat) (i : Int) (w : World) (h : x.B) :
    Calls Try.prog 23 #[.agg #[.int .i64 x.h, .int .i64 x.z, .int .i64 x.b, .int .i64 x.r, .int .i64 x.d, .int .i64 x.e, .int .i64 x.s, .int .i64 x.p, .int .i64 x.q, .int .i64 x.t, .slice A n c], .int .i64 i] w fun e w' => e = .returned (.agg #[.int .i64 ((logC x i).1), .int .i64 ((logC x i).2)]) ∧ Below w.heap.size w w' := by
  have HS := Lib.hid (fun w => lay_slots x A n c w h)
  have HL := Lib.hid (fun w => lay_loglen x A n c w)
  have r := slotsC_range h
  unfold logC
  have HA := fun (i0 : 0 ≤ i) (i1 : i ≤ 1000) => Lib.hid (fun w => lay_area x A n c 2 i 12 w h (by omega) (by omega) i0 i1 (by omega) (by omega))
  clear h
  generalize hk : cellsC x 12 = k at *
  clear hk
  generalize slotsC x = s at *
  have w0 : IntKind.i64.wrap (s - 1) = s - 1 := IntWalk.i64_in _ (by omega)
  have bb : Below w.heap.size w ((w.alloc (.cells #[.int .i64 x.h, .int .i64 x.z, .int .i64 x.b, .int .i64 x.r, .int .i64 x.d, .int .i64 x.e, .int .i64 x.s, .int .i64 x.p, .int .i64 x.q, .int .i64 x.t, .slice A n c] 28)).alloc (.cells #[.int .i64 0, .int .i64 0] 34)) := (by repeat (first | exact Below.refl _ _ | assumption | apply below_drewN' | apply Below.drew | refine Below.alloc ?_ (by first | omega | (simp; done) | (simp; omega)) _ | refine Below.setCell ?_ (by first | omega | (simp; done) | (simp; omega)) _))
  have hr0 := Blk.new2 w (.cells #[.int .i64 x.h, .int .i64 x.z, .int .i64 x.b, .int .i64 x.r, .int .i64 x.d, .int .i64 x.e, .int .i64 x.s, .int .i64 x.p, .int .i64 x.q, .int .i64 x.t, .slice A n c] 28) #[.int .i64 0, .int .i64 0] 34
  have hx0 := (Blk.new w #[.int .i64 x.h, .int .i64 x.z, .int .i64 x.b, .int .i64 x.r, .int .i64 x.d, .int .i64 x.e, .int .i64 x.s, .int .i64 x.p, .int .i64 x.q, .int .i64 x.t, .slice A n c] 28).alloc (.cells #[.int .i64 0, .int .i64 0] 34)
  obtain ⟨b, hb⟩ : ∃ b, inR i 0 (s - 1) = b := ⟨_, rfl⟩
  have HW := Lib.hid (fun w => lay_within i 0 (s - 1) b w hb)
  rw [hb]
  cases b with
  | false =>
    rw [if_neg (by simp)]
    clear hb HA
    go_enter Try.func23, Try.ntmps23
    go_wp2_with fail
    generalize (w.alloc (.cells #[.int .i64 x.h, .int .i64 x.z, .int .i64 x.b, .int .i64 x.r, .int .i64 x.d, .int .i64 x.e, .int .i64 x.s, .int .i64 x.p, .int .i64 x.q, .int .i64 x.t, .slice A n c] 28)).alloc (.cells #[.int .i64 0, .int .i64 0] 34) = W1 at *
    refine (HS.out _).mono ?_
    rintro e w2 ⟨rfl, e2⟩
    have hr := hr0.below e2 hr0.lt
    replace bb := bnext bb e2
    clear hr0 hx0 e2
    go_wp2_with fail
    refine (HW.out _).mono ?_
    rintro e w3 ⟨rfl, e3⟩
    have hr := hr.below e3 hr.lt
    replace bb := bnext bb e3
    clear e3
    have c0 := hr.cell 0 (v := .int .i64 0) rfl
    have c1 := hr.cell 1 (v := .int .i64 0) rfl
    have g0 := hr.fz 0
    have g1 := hr.fz 1
    have hf := (hr.set 0 (.int .i64 0)).set 1 (.int .i64 0)
    go_wp2
    have bF : Below w.heap.size w ((w3.setCell ⟨w.heap.size + 1, 0, none⟩ (.int .i64 0)).setCell ⟨w.heap.size + 1, 1, none⟩ (.int .i64 0)) := (by repeat (first | exact Below.refl _ _ | assumption | apply below_drewN' | apply Below.drew | refine Below.alloc ?_ (by first | omega | (simp; done) | (simp; omega)) _ | refine Below.setCell ?_ (by first | omega | (simp; done) | (simp; omega)) _))
    generalize (w3.setCell ⟨w.heap.size + 1, 0, none⟩ (.int .i64 0)).setCell ⟨w.heap.size + 1, 1, none⟩ (.int .i64 0) = WF at *
    have z0 := hf.cell 0 (v := .int .i64 0) rfl
    have z1 := hf.cell 1 (v := .int .i64 0) rfl
    refine bodyPost_ret (v := .agg #[.int .i64 (0), .int .i64 (0)]) (by simp [results, Try.results23, go_sem, z0, z1]) rfl ⟨rfl, bF⟩
  | true =>
    rw [if_pos rfl]
    have hi := inR_true hb
    have HA := HA (by omega) (by omega)
    clear hb hi
    go_enter Try.func23, Try.ntmps23
    go_wp2_with fail
    generalize (w.alloc (.cells #[.int .i64 x.h, .int .i64 x.z, .int .i64 x.b, .int .i64 x.r, .int .i64 x.d, .int .i64 x.e, .int .i64 x.s, .int .i64 x.p, .int .i64 x.q, .int .i64 x.t, .slice A n c] 28)).alloc (.cells #[.int .i64 0, .int .i64 0] 34) = W1 at *
    refine (HS.out _).mono ?_
    rintro e w2 ⟨rfl, e2⟩
    have hr := hr0.below e2 hr0.lt
    have hX := hx0.below e2 hx0.lt
    replace bb := bnext bb e2
    clear hr0 hx0 e2
    go_wp2_with fail
    refine (HW.out _).mono ?_
    rintro e w3 ⟨rfl, e3⟩
    replace hr := hr.below e3 hr.lt
    replace hX := hX.below e3 hX.lt
    replace bb := bnext bb e3
    clear e3
    go_wp2_with fail
    have keep := fun {w' w'' : World} (h : Blk w' w.heap.size #[.int .i64 x.h, .int .i64 x.z, .int .i64 x.b, .int .i64 x.r, .int .i64 x.d, .int .i64 x.e, .int .i64 x.s, .int .i64 x.p, .int .i64 x.q, .int .i64 x.t, .slice A n c] 28 ∧ (∃ u v, Blk w' (w.heap.size + 1) #[u, v] 34) ∧ Below w.heap.size w w') (hb : Below w'.heap.size w' w'') => (⟨h.1.below hb h.1.lt, (let ⟨u, v, h2⟩ := h.2.1; ⟨u, v, h2.below hb h2.lt⟩), bnext h.2.2 hb⟩ : Blk w'' w.heap.size #[.int .i64 x.h, .int .i64 x.z, .int .i64 x.b, .int .i64 x.r, .int .i64 x.d, .int .i64 x.e, .int .i64 x.s, .int .i64 x.p, .int .i64 x.q, .int .i64 x.t, .slice A n c] 28 ∧ (∃ u v, Blk w'' (w.heap.size + 1) #[u, v] 34) ∧ Below w.heap.size w w'')
    have hvo := Free.val
    refine Free.wp_factsW (M := [0, 0, 0, 4, 15, 31]) (D := [[], [], [], [(2, 14)], [(0, 12), (1, 13), (3, 15)], [(4, 16)]]) (outs := [5]) (soles := [5]) (E := [(0, some 12, false), (1, some 13, false), (2, some 14, false), (3, some 15, false), (4, some 16, false), (5, none, true)]) (N := 17) (S := (fun w' => Blk w' w.heap.size #[.int .i64 x.h, .int .i64 x.z, .int .i64 x.b, .int .i64 x.r, .int .i64 x.d, .int .i64 x.e, .int .i64 x.s, .int .i64 x.p, .int .i64 x.q, .int .i64 x.t, .slice A n c] 28 ∧ (∃ u v, Blk w' (w.heap.size + 1) #[u, v] 34) ∧ Below w.heap.size w w')) [Free.Fact.is ?_, Free.Fact.is ?_, Free.Fact.is ?_, Free.Fact.is ?_, Free.Fact.is ?_, Free.Fact.blk (w.heap.size + 1) #[.int .i64 (2 + i * k), .int .i64 k] 34] (by kernel_rfl) (by kernel_rfl) rfl (⟨hX.drew, ⟨_, _, hr.drew⟩, bb.drew⟩) ?_ ?_
    rotate_left 5
    refine Free.cons ?_ ?_
    · intro w' hS; intro K hK; have hX := hS.1; have hXlt := hX.lt; have bR := Below.refl w'.heap.size w'; have a0 := (hX.below bR hXlt).cell 0 (v := .int .i64 x.h) rfl; have a1 := (hX.below bR hXlt).cell 1 (v := .int .i64 x.z) rfl; have a2 := (hX.below bR hXlt).cell 2 (v := .int .i64 x.b) rfl; have a3 := (hX.below bR hXlt).cell 3 (v := .int .i64 x.r) rfl; have a4 := (hX.below bR hXlt).cell 4 (v := .int .i64 x.d) rfl; have a5 := (hX.below bR hXlt).cell 5 (v := .int .i64 x.e) rfl; have a6 := (hX.below bR hXlt).cell 6 (v := .int .i64 x.s) rfl; have a7 := (hX.below bR hXlt).cell 7 (v := .int .i64 x.p) rfl; have a8 := (hX.below bR hXlt).cell 8 (v := .int .i64 x.q) rfl; have a9 := (hX.below bR hXlt).cell 9 (v := .int .i64 x.t) rfl; have a10 := (hX.below bR hXlt).cell 10 (v := .slice A n c) rfl; first | (refine Free.run_yes (by rfl) ?_; go_simp; refine Free.o hK hS ?_; exact rfl) | (refine Free.run_no (by rfl) (Free.o hK hS ?_); exact rfl)
    refine Free.cons ?_ ?_
    · intro w' hS; intro K hK; have hX := hS.1; have hXlt := hX.lt; have bR := Below.refl w'.heap.size w'; have a0 := (hX.below bR hXlt).cell 0 (v := .int .i64 x.h) rfl; have a1 := (hX.below bR hXlt).cell 1 (v := .int .i64 x.z) rfl; have a2 := (hX.below bR hXlt).cell 2 (v := .int .i64 x.b) rfl; have a3 := (hX.below bR hXlt).cell 3 (v := .int .i64 x.r) rfl; have a4 := (hX.below bR hXlt).cell 4 (v := .int .i64 x.d) rfl; have a5 := (hX.below bR hXlt).cell 5 (v := .int .i64 x.e) rfl; have a6 := (hX.below bR hXlt).cell 6 (v := .int .i64 x.s) rfl; have a7 := (hX.below bR hXlt).cell 7 (v := .int .i64 x.p) rfl; have a8 := (hX.below bR hXlt).cell 8 (v := .int .i64 x.q) rfl; have a9 := (hX.below bR hXlt).cell 9 (v := .int .i64 x.t) rfl; have a10 := (hX.below bR hXlt).cell 10 (v := .slice A n c) rfl; first | (refine Free.run_yes (by rfl) ?_; go_simp; refine Free.o hK hS ?_; exact rfl) | (refine Free.run_no (by rfl) (Free.o hK hS ?_); exact rfl)
    refine Free.cons ?_ ?_
    · intro w' hS; intro K hK; have hX := hS.1; have hXlt := hX.lt; have bR := Below.refl w'.heap.size w'; have a0 := (hX.below bR hXlt).cell 0 (v := .int .i64 x.h) rfl; have a1 := (hX.below bR hXlt).cell 1 (v := .int .i64 x.z) rfl; have a2 := (hX.below bR hXlt).cell 2 (v := .int .i64 x.b) rfl; have a3 := (hX.below bR hXlt).cell 3 (v := .int .i64 x.r) rfl; have a4 := (hX.below bR hXlt).cell 4 (v := .int .i64 x.d) rfl; have a5 := (hX.below bR hXlt).cell 5 (v := .int .i64 x.e) rfl; have a6 := (hX.below bR hXlt).cell 6 (v := .int .i64 x.s) rfl; have a7 := (hX.below bR hXlt).cell 7 (v := .int .i64 x.p) rfl; have a8 := (hX.below bR hXlt).cell 8 (v := .int .i64 x.q) rfl; have a9 := (hX.below bR hXlt).cell 9 (v := .int .i64 x.t) rfl; have a10 := (hX.below bR hXlt).cell 10 (v := .slice A n c) rfl; first | (refine Free.run_yes (by rfl) ?_; go_simp; refine Free.o hK hS ?_; exact rfl) | (refine Free.run_no (by rfl) (Free.o hK hS ?_); exact rfl)
    refine Free.cons ?_ ?_
    · intro w' hS; (rintro _ rfl); intro K hK; have hX := hS.1; have hXlt := hX.lt; have bR := Below.refl w'.heap.size w'; have a0 := (hX.below bR hXlt).cell 0 (v := .int .i64 x.h) rfl; have a1 := (hX.below bR hXlt).cell 1 (v := .int .i64 x.z) rfl; have a2 := (hX.below bR hXlt).cell 2 (v := .int .i64 x.b) rfl; have a3 := (hX.below bR hXlt).cell 3 (v := .int .i64 x.r) rfl; have a4 := (hX.below bR hXlt).cell 4 (v := .int .i64 x.d) rfl; have a5 := (hX.below bR hXlt).cell 5 (v := .int .i64 x.e) rfl; have a6 := (hX.below bR hXlt).cell 6 (v := .int .i64 x.s) rfl; have a7 := (hX.below bR hXlt).cell 7 (v := .int .i64 x.p) rfl; have a8 := (hX.below bR hXlt).cell 8 (v := .int .i64 x.q) rfl; have a9 := (hX.below bR hXlt).cell 9 (v := .int .i64 x.t) rfl; have a10 := (hX.below bR hXlt).cell 10 (v := .slice A n c) rfl; first | (refine Free.run_yes (by rfl) ?_; go_simp; (first | (go_at_call 42; refine (HL.out _).mono ?_; rintro e w' ⟨rfl, hb⟩) | (go_at_call 64; refine (HA.out _).mono ?_; rintro e w' ⟨rfl, hb⟩)); go_simp; refine Free.c hK (keep hS hb) hb ?_; exact rfl) | (refine Free.run_no (by rfl) (Free.o hK hS ?_); exact rfl)
    refine Free.cons ?_ ?_
    · intro w' hS; (rintro _ rfl); (rintro _ rfl); (rintro _ rfl); intro K hK; have hX := hS.1; have hXlt := hX.lt; have bR := Below.refl w'.heap.size w'; have a0 := (hX.below bR hXlt).cell 0 (v := .int .i64 x.h) rfl; have a1 := (hX.below bR hXlt).cell 1 (v := .int .i64 x.z) rfl; have a2 := (hX.below bR hXlt).cell 2 (v := .int .i64 x.b) rfl; have a3 := (hX.below bR hXlt).cell 3 (v := .int .i64 x.r) rfl; have a4 := (hX.below bR hXlt).cell 4 (v := .int .i64 x.d) rfl; have a5 := (hX.below bR hXlt).cell 5 (v := .int .i64 x.e) rfl; have a6 := (hX.below bR hXlt).cell 6 (v := .int .i64 x.s) rfl; have a7 := (hX.below bR hXlt).cell 7 (v := .int .i64 x.p) rfl; have a8 := (hX.below bR hXlt).cell 8 (v := .int .i64 x.q) rfl; have a9 := (hX.below bR hXlt).cell 9 (v := .int .i64 x.t) rfl; have a10 := (hX.below bR hXlt).cell 10 (v := .slice A n c) rfl; first | (refine Free.run_yes (by rfl) ?_; go_simp; (first | (go_at_call 42; refine (HL.out _).mono ?_; rintro e w' ⟨rfl, hb⟩) | (go_at_call 64; refine (HA.out _).mono ?_; rintro e w' ⟨rfl, hb⟩)); go_simp; refine Free.c hK (keep hS hb) hb ?_; exact rfl) | (refine Free.run_no (by rfl) (Free.o hK hS ?_); exact rfl)
    refine Free.cons ?_ ?_
    · intro w' hS; (rintro _ rfl); intro K hK; have hX := hS.1; have hXlt := hX.lt; have bR := Below.refl w'.heap.size w'; have a0 := (hX.below bR hXlt).cell 0 (v := .int .i64 x.h) rfl; have a1 := (hX.below bR hXlt).cell 1 (v := .int .i64 x.z) rfl; have a2 := (hX.below bR hXlt).cell 2 (v := .int .i64 x.b) rfl; have a3 := (hX.below bR hXlt).cell 3 (v := .int .i64 x.r) rfl; have a4 := (hX.below bR hXlt).cell 4 (v := .int .i64 x.d) rfl; have a5 := (hX.below bR hXlt).cell 5 (v := .int .i64 x.e) rfl; have a6 := (hX.below bR hXlt).cell 6 (v := .int .i64 x.s) rfl; have a7 := (hX.below bR hXlt).cell 7 (v := .int .i64 x.p) rfl; have a8 := (hX.below bR hXlt).cell 8 (v := .int .i64 x.q) rfl; have a9 := (hX.below bR hXlt).cell 9 (v := .int .i64 x.t) rfl; have a10 := (hX.below bR hXlt).cell 10 (v := .slice A n c) rfl; refine Free.run_yes (by rfl) ?_; (obtain ⟨hx1, ⟨u, v, hr⟩, hbl⟩ := hS; have c0 := hr.cell 0 (v := u) rfl; have c1 := hr.cell 1 (v := v) rfl; have g0 := hr.fz 0; have g1 := hr.fz 1; have hf := (hr.set 0 (.int .i64 (2 + i * k))).set 1 (.int .i64 k); go_simp; refine hK.out _ _ hf ⟨(by repeat (first | assumption | apply Blk.drewN | apply Blk.drew | apply Blk.alloc | refine Blk.other ?_ (by first | omega | (simp; done) | (simp; omega)) _)), ⟨_, _, hf⟩, (by repeat (first | exact Below.refl _ _ | assumption | apply below_drewN' | apply Below.drew | refine Below.alloc ?_ (by first | omega | (simp; done) | (simp; omega)) _ | refine Below.setCell ?_ (by first | omega | (simp; done) | (simp; omega)) _))⟩ (.inl rfl))
    exact Free.nil
    clear hvo
    intro w' hS; intro v0; intro v1; intro v2; intro v3; intro v4; intro v5 h5; (try simp only [Act.put, List.setIfInBounds_toArray, List.set_cons_zero, List.set_cons_succ]); refine Free.toldW_nil ?_
    have hF : Blk w' (w.heap.size + 1) #[.int .i64 (2 + i * k), .int .i64 k] 34 := h5
    have z0 := hF.cell 0 (v := .int .i64 (2 + i * k)) rfl
    have z1 := hF.cell 1 (v := .int .i64 k) rfl
    go_wp2
    refine bodyPost_ret (v := .agg #[.int .i64 (2 + i * k), .int .i64 (k)]) (by simp [results, Try.results23, go_sem, z0, z1]) rfl ⟨rfl, hS.2.2⟩

set_option maxHeartbeats 1000000 in
set_option maxRecDepth 100000 in
theorem lay_clog (x : Cfg) (A : Option Addr) (n c : Nat) (q : Int) (w : World) (h : x.B) (q0 : 0 ≤ q) (q1 : q ≤ 4503599627370496) :
    Calls Try.prog 24 #[.agg #[.int .i64 x.h, .int .i64 x.z, .int .i64 x.b, .int .i64 x.r, .int .i64 x.d, .int .i64 x.e, .int .i64 x.s, .int .i64 x.p, .int .i64 x.q, .int .i64 x.t, .slice A n c], .int .i64 q] w fun e w' => e = .returned (.agg #[.int .i64 ((clogC x q).1), .int .i64 ((clogC x q).2)]) ∧ Below w.heap.size w w' := by
  have HS := Lib.hid (fun w => lay_clogs x A n c w h)
  have HL := Lib.hid (fun w => lay_cloglen x A n c w h)
  have r := clogsC_range h
  have r1 := clogLenC_range h
  have e2 : q.tmod 2 = q % 2 := Int.tmod_eq_emod_of_nonneg q0
  have m0 : 0 ≤ q % 2 ∧ q % 2 ≤ 1 := by omega
  have HA := Lib.hid (fun w => lay_area x A n c (clogsC x) (q % 2) (clogLenC x) w h (by omega) (by omega) (by omega) (by omega) (by omega) (by omega))
  unfold clogC
  clear h
  generalize hk : cellsC x (clogLenC x) = k at *
  clear hk
  generalize clogLenC x = m at *
  generalize clogsC x = s at *
  generalize q % 2 = r2 at *
  have w2 : IntKind.i64.wrap r2 = r2 := IntWalk.i64_in _ (by omega)
  have bb : Below w.heap.size w ((w.alloc (.cells #[.int .i64 x.h, .int .i64 x.z, .int .i64 x.b, .int .i64 x.r, .int .i64 x.d, .int .i64 x.e, .int .i64 x.s, .int .i64 x.p, .int .i64 x.q, .int .i64 x.t, .slice A n c] 28)).alloc (.cells #[.int .i64 0, .int .i64 0] 34)) := (by repeat (first | exact Below.refl _ _ | assumption | apply below_drewN' | apply Below.drew | refine Below.alloc ?_ (by first | omega | (simp; done) | (simp; omega)) _ | refine Below.setCell ?_ (by first | omega | (simp; done) | (simp; omega)) _))
  have hr := Blk.new2 w (.cells #[.int .i64 x.h, .int .i64 x.z, .int .i64 x.b, .int .i64 x.r, .int .i64 x.d, .int .i64 x.e, .int .i64 x.s, .int .i64 x.p, .int .i64 x.q, .int .i64 x.t, .slice A n c] 28) #[.int .i64 0, .int .i64 0] 34
  have hX := (Blk.new w #[.int .i64 x.h, .int .i64 x.z, .int .i64 x.b, .int .i64 x.r, .int .i64 x.d, .int .i64 x.e, .int .i64 x.s, .int .i64 x.p, .int .i64 x.q, .int .i64 x.t, .slice A n c] 28).alloc (.cells #[.int .i64 0, .int .i64 0] 34)
  go_enter Try.func24, Try.ntmps24
  go_wp2_with fail
  generalize (w.alloc (.cells #[.int .i64 x.h, .int .i64 x.z, .int .i64 x.b, .int .i64 x.r, .int .i64 x.d, .int .i64 x.e, .int .i64 x.s, .int .i64 x.p, .int .i64 x.q, .int .i64 x.t, .slice A n c] 28)).alloc (.cells #[.int .i64 0, .int .i64 0] 34) = W1 at *
  have keep := fun {w' w'' : World} (h : Blk w' w.heap.size #[.int .i64 x.h, .int .i64 x.z, .int .i64 x.b, .int .i64 x.r, .int .i64 x.d, .int .i64 x.e, .int .i64 x.s, .int .i64 x.p, .int .i64 x.q, .int .i64 x.t, .slice A n c] 28 ∧ (∃ u v, Blk w' (w.heap.size + 1) #[u, v] 34) ∧ Below w.heap.size w w') (hb : Below w'.heap.size w' w'') => (⟨h.1.below hb h.1.lt, (let ⟨u, v, h2⟩ := h.2.1; ⟨u, v, h2.below hb h2.lt⟩), bnext h.2.2 hb⟩ : Blk w'' w.heap.size #[.int .i64 x.h, .int .i64 x.z, .int .i64 x.b, .int .i64 x.r, .int .i64 x.d, .int .i64 x.e, .int .i64 x.s, .int .i64 x.p, .int .i64 x.q, .int .i64 x.t, .slice A n c] 28 ∧ (∃ u v, Blk w'' (w.heap.size + 1) #[u, v] 34) ∧ Below w.heap.size w w'')
  have hvo := Free.val
  refine Free.wp_factsW (M := [0, 0, 2, 0, 8, 0, 38, 127, 255]) (D := [[], [], [(1, 9)], [], [(3, 11)], [], [(5, 13)], [(0, 8), (2, 10), (4, 12), (6, 14)], [(7, 15)]]) (outs := [8]) (soles := [8]) (E := [(0, some 8, false), (1, some 9, false), (2, some 10, false), (3, some 11, false), (4, some 12, false), (5, some 13, false), (6, some 14, false), (7, some 15, false), (8, none, true)]) (N := 16) (S := (fun w' => Blk w' w.heap.size #[.int .i64 x.h, .int .i64 x.z, .int .i64 x.b, .int .i64 x.r, .int .i64 x.d, .int .i64 x.e, .int .i64 x.s, .int .i64 x.p, .int .i64 x.q, .int .i64 x.t, .slice A n c] 28 ∧ (∃ u v, Blk w' (w.heap.size + 1) #[u, v] 34) ∧ Below w.heap.size w w')) [Free.Fact.is ?_, Free.Fact.is ?_, Free.Fact.is ?_, Free.Fact.is ?_, Free.Fact.is ?_, Free.Fact.is ?_, Free.Fact.is ?_, Free.Fact.is ?_, Free.Fact.blk (w.heap.size + 1) #[.int .i64 (s + r2 * k), .int .i64 k] 34] (by kernel_rfl) (by kernel_rfl) rfl (⟨hX.drew, ⟨_, _, hr.drew⟩, bb.drew⟩) ?_ ?_
  rotate_left 8
  refine Free.cons ?_ ?_
  · intro w' hS; intro K hK; have hX := hS.1; have hXlt := hX.lt; have bR := Below.refl w'.heap.size w'; have a0 := (hX.below bR hXlt).cell 0 (v := .int .i64 x.h) rfl; have a1 := (hX.below bR hXlt).cell 1 (v := .int .i64 x.z) rfl; have a2 := (hX.below bR hXlt).cell 2 (v := .int .i64 x.b) rfl; have a3 := (hX.below bR hXlt).cell 3 (v := .int .i64 x.r) rfl; have a4 := (hX.below bR hXlt).cell 4 (v := .int .i64 x.d) rfl; have a5 := (hX.below bR hXlt).cell 5 (v := .int .i64 x.e) rfl; have a6 := (hX.below bR hXlt).cell 6 (v := .int .i64 x.s) rfl; have a7 := (hX.below bR hXlt).cell 7 (v := .int .i64 x.p) rfl; have a8 := (hX.below bR hXlt).cell 8 (v := .int .i64 x.q) rfl; have a9 := (hX.below bR hXlt).cell 9 (v := .int .i64 x.t) rfl; have a10 := (hX.below bR hXlt).cell 10 (v := .slice A n c) rfl; first | (refine Free.run_yes (by rfl) ?_; go_simp; refine Free.o hK hS ?_; exact rfl) | (refine Free.run_no (by rfl) (Free.o hK hS ?_); exact rfl)
  refine Free.cons ?_ ?_
  · intro w' hS; intro K hK; have hX := hS.1; have hXlt := hX.lt; have bR := Below.refl w'.heap.size w'; have a0 := (hX.below bR hXlt).cell 0 (v := .int .i64 x.h) rfl; have a1 := (hX.below bR hXlt).cell 1 (v := .int .i64 x.z) rfl; have a2 := (hX.below bR hXlt).cell 2 (v := .int .i64 x.b) rfl; have a3 := (hX.below bR hXlt).cell 3 (v := .int .i64 x.r) rfl; have a4 := (hX.below bR hXlt).cell 4 (v := .int .i64 x.d) rfl; have a5 := (hX.below bR hXlt).cell 5 (v := .int .i64 x.e) rfl; have a6 := (hX.below bR hXlt).cell 6 (v := .int .i64 x.s) rfl; have a7 := (hX.below bR hXlt).cell 7 (v := .int .i64 x.p) rfl; have a8 := (hX.below bR hXlt).cell 8 (v := .int .i64 x.q) rfl; have a9 := (hX.below bR hXlt).cell 9 (v := .int .i64 x.t) rfl; have a10 := (hX.below bR hXlt).cell 10 (v := .slice A n c) rfl; first | (refine Free.run_yes (by rfl) ?_; go_simp; refine Free.o hK hS ?_; exact rfl) | (refine Free.run_no (by rfl) (Free.o hK hS ?_); exact rfl)
  refine Free.cons ?_ ?_
  · intro w' hS; (rintro _ rfl); intro K hK; have hX := hS.1; have hXlt := hX.lt; have bR := Below.refl w'.heap.size w'; have a0 := (hX.below bR hXlt).cell 0 (v := .int .i64 x.h) rfl; have a1 := (hX.below bR hXlt).cell 1 (v := .int .i64 x.z) rfl; have a2 := (hX.below bR hXlt).cell 2 (v := .int .i64 x.b) rfl; have a3 := (hX.below bR hXlt).cell 3 (v := .int .i64 x.r) rfl; have a4 := (hX.below bR hXlt).cell 4 (v := .int .i64 x.d) rfl; have a5 := (hX.below bR hXlt).cell 5 (v := .int .i64 x.e) rfl; have a6 := (hX.below bR hXlt).cell 6 (v := .int .i64 x.s) rfl; have a7 := (hX.below bR hXlt).cell 7 (v := .int .i64 x.p) rfl; have a8 := (hX.below bR hXlt).cell 8 (v := .int .i64 x.q) rfl; have a9 := (hX.below bR hXlt).cell 9 (v := .int .i64 x.t) rfl; have a10 := (hX.below bR hXlt).cell 10 (v := .slice A n c) rfl; first | (refine Free.run_yes (by rfl) ?_; go_simp; (first | (go_at_call 70; refine (HS.out _).mono ?_; rintro e w' ⟨rfl, hb⟩) | (go_at_call 47; refine (HL.out _).mono ?_; rintro e w' ⟨rfl, hb⟩) | (go_at_call 64; refine (HA.out _).mono ?_; rintro e w' ⟨rfl, hb⟩)); go_simp; refine Free.c hK (keep hS hb) hb ?_; exact rfl) | (refine Free.run_no (by rfl) (Free.o hK hS ?_); exact rfl)
  refine Free.cons ?_ ?_
  · intro w' hS; intro K hK; have hX := hS.1; have hXlt := hX.lt; have bR := Below.refl w'.heap.size w'; have a0 := (hX.below bR hXlt).cell 0 (v := .int .i64 x.h) rfl; have a1 := (hX.below bR hXlt).cell 1 (v := .int .i64 x.z) rfl; have a2 := (hX.below bR hXlt).cell 2 (v := .int .i64 x.b) rfl; have a3 := (hX.below bR hXlt).cell 3 (v := .int .i64 x.r) rfl; have a4 := (hX.below bR hXlt).cell 4 (v := .int .i64 x.d) rfl; have a5 := (hX.below bR hXlt).cell 5 (v := .int .i64 x.e) rfl; have a6 := (hX.below bR hXlt).cell 6 (v := .int .i64 x.s) rfl; have a7 := (hX.below bR hXlt).cell 7 (v := .int .i64 x.p) rfl; have a8 := (hX.below bR hXlt).cell 8 (v := .int .i64 x.q) rfl; have a9 := (hX.below bR hXlt).cell 9 (v := .int .i64 x.t) rfl; have a10 := (hX.below bR hXlt).cell 10 (v := .slice A n c) rfl; first | (refine Free.run_yes (by rfl) ?_; go_simp; refine Free.o hK hS ?_; exact rfl) | (refine Free.run_no (by rfl) (Free.o hK hS ?_); exact rfl)
  refine Free.cons ?_ ?_
  · intro w' hS; (rintro _ rfl); intro K hK; have hX := hS.1; have hXlt := hX.lt; have bR := Below.refl w'.heap.size w'; have a0 := (hX.below bR hXlt).cell 0 (v := .int .i64 x.h) rfl; have a1 := (hX.below bR hXlt).cell 1 (v := .int .i64 x.z) rfl; have a2 := (hX.below bR hXlt).cell 2 (v := .int .i64 x.b) rfl; have a3 := (hX.below bR hXlt).cell 3 (v := .int .i64 x.r) rfl; have a4 := (hX.below bR hXlt).cell 4 (v := .int .i64 x.d) rfl; have a5 := (hX.below bR hXlt).cell 5 (v := .int .i64 x.e) rfl; have a6 := (hX.below bR hXlt).cell 6 (v := .int .i64 x.s) rfl; have a7 := (hX.below bR hXlt).cell 7 (v := .int .i64 x.p) rfl; have a8 := (hX.below bR hXlt).cell 8 (v := .int .i64 x.q) rfl; have a9 := (hX.below bR hXlt).cell 9 (v := .int .i64 x.t) rfl; have a10 := (hX.below bR hXlt).cell 10 (v := .slice A n c) rfl; first | (refine Free.run_yes (by rfl) ?_; go_simp; refine Free.o hK hS ?_; exact rfl) | (refine Free.run_no (by rfl) (Free.o hK hS ?_); exact rfl)
  refine Free.cons ?_ ?_
  · intro w' hS; intro K hK; have hX := hS.1; have hXlt := hX.lt; have bR := Below.refl w'.heap.size w'; have a0 := (hX.below bR hXlt).cell 0 (v := .int .i64 x.h) rfl; have a1 := (hX.below bR hXlt).cell 1 (v := .int .i64 x.z) rfl; have a2 := (hX.below bR hXlt).cell 2 (v := .int .i64 x.b) rfl; have a3 := (hX.below bR hXlt).cell 3 (v := .int .i64 x.r) rfl; have a4 := (hX.below bR hXlt).cell 4 (v := .int .i64 x.d) rfl; have a5 := (hX.below bR hXlt).cell 5 (v := .int .i64 x.e) rfl; have a6 := (hX.below bR hXlt).cell 6 (v := .int .i64 x.s) rfl; have a7 := (hX.below bR hXlt).cell 7 (v := .int .i64 x.p) rfl; have a8 := (hX.below bR hXlt).cell 8 (v := .int .i64 x.q) rfl; have a9 := (hX.below bR hXlt).cell 9 (v := .int .i64 x.t) rfl; have a10 := (hX.below bR hXlt).cell 10 (v := .slice A n c) rfl; first | (refine Free.run_yes (by rfl) ?_; go_simp; refine Free.o hK hS ?_; exact rfl) | (refine Free.run_no (by rfl) (Free.o hK hS ?_); exact rfl)
  refine Free.cons ?_ ?_
  · intro w' hS; (rintro _ rfl); intro K hK; have hX := hS.1; have hXlt := hX.lt; have bR := Below.refl w'.heap.size w'; have a0 := (hX.below bR hXlt).cell 0 (v := .int .i64 x.h) rfl; have a1 := (hX.below bR hXlt).cell 1 (v := .int .i64 x.z) rfl; have a2 := (hX.below bR hXlt).cell 2 (v := .int .i64 x.b) rfl; have a3 := (hX.below bR hXlt).cell 3 (v := .int .i64 x.r) rfl; have a4 := (hX.below bR hXlt).cell 4 (v := .int .i64 x.d) rfl; have a5 := (hX.below bR hXlt).cell 5 (v := .int .i64 x.e) rfl; have a6 := (hX.below bR hXlt).cell 6 (v := .int .i64 x.s) rfl; have a7 := (hX.below bR hXlt).cell 7 (v := .int .i64 x.p) rfl; have a8 := (hX.below bR hXlt).cell 8 (v := .int .i64 x.q) rfl; have a9 := (hX.below bR hXlt).cell 9 (v := .int .i64 x.t) rfl; have a10 := (hX.below bR hXlt).cell 10 (v := .slice A n c) rfl; first | (refine Free.run_yes (by rfl) ?_; go_simp; (first | (go_at_call 70; refine (HS.out _).mono ?_; rintro e w' ⟨rfl, hb⟩) | (go_at_call 47; refine (HL.out _).mono ?_; rintro e w' ⟨rfl, hb⟩) | (go_at_call 64; refine (HA.out _).mono ?_; rintro e w' ⟨rfl, hb⟩)); go_simp; refine Free.c hK (keep hS hb) hb ?_; exact rfl) | (refine Free.run_no (by rfl) (Free.o hK hS ?_); exact rfl)
  refine Free.cons ?_ ?_
  · intro w' hS; (rintro _ rfl); (rintro _ rfl); (rintro _ rfl); (rintro _ rfl); intro K hK; have hX := hS.1; have hXlt := hX.lt; have bR := Below.refl w'.heap.size w'; have a0 := (hX.below bR hXlt).cell 0 (v := .int .i64 x.h) rfl; have a1 := (hX.below bR hXlt).cell 1 (v := .int .i64 x.z) rfl; have a2 := (hX.below bR hXlt).cell 2 (v := .int .i64 x.b) rfl; have a3 := (hX.below bR hXlt).cell 3 (v := .int .i64 x.r) rfl; have a4 := (hX.below bR hXlt).cell 4 (v := .int .i64 x.d) rfl; have a5 := (hX.below bR hXlt).cell 5 (v := .int .i64 x.e) rfl; have a6 := (hX.below bR hXlt).cell 6 (v := .int .i64 x.s) rfl; have a7 := (hX.below bR hXlt).cell 7 (v := .int .i64 x.p) rfl; have a8 := (hX.below bR hXlt).cell 8 (v := .int .i64 x.q) rfl; have a9 := (hX.below bR hXlt).cell 9 (v := .int .i64 x.t) rfl; have a10 := (hX.below bR hXlt).cell 10 (v := .slice A n c) rfl; first | (refine Free.run_yes (by rfl) ?_; go_simp; (first | (go_at_call 70; refine (HS.out _).mono ?_; rintro e w' ⟨rfl, hb⟩) | (go_at_call 47; refine (HL.out _).mono ?_; rintro e w' ⟨rfl, hb⟩) | (go_at_call 64; refine (HA.out _).mono ?_; rintro e w' ⟨rfl, hb⟩)); go_simp; refine Free.c hK (keep hS hb) hb ?_; exact rfl) | (refine Free.run_no (by rfl) (Free.o hK hS ?_); exact rfl)
  refine Free.cons ?_ ?_
  · intro w' hS; (rintro _ rfl); intro K hK; have hX := hS.1; have hXlt := hX.lt; have bR := Below.refl w'.heap.size w'; have a0 := (hX.below bR hXlt).cell 0 (v := .int .i64 x.h) rfl; have a1 := (hX.below bR hXlt).cell 1 (v := .int .i64 x.z) rfl; have a2 := (hX.below bR hXlt).cell 2 (v := .int .i64 x.b) rfl; have a3 := (hX.below bR hXlt).cell 3 (v := .int .i64 x.r) rfl; have a4 := (hX.below bR hXlt).cell 4 (v := .int .i64 x.d) rfl; have a5 := (hX.below bR hXlt).cell 5 (v := .int .i64 x.e) rfl; have a6 := (hX.below bR hXlt).cell 6 (v := .int .i64 x.s) rfl; have a7 := (hX.below bR hXlt).cell 7 (v := .int .i64 x.p) rfl; have a8 := (hX.below bR hXlt).cell 8 (v := .int .i64 x.q) rfl; have a9 := (hX.below bR hXlt).cell 9 (v := .int .i64 x.t) rfl; have a10 := (hX.below bR hXlt).cell 10 (v := .slice A n c) rfl; refine Free.run_yes (by rfl) ?_; (obtain ⟨hx1, ⟨u, v, hr⟩, hbl⟩ := hS; have c0 := hr.cell 0 (v := u) rfl; have c1 := hr.cell 1 (v := v) rfl; have g0 := hr.fz 0; have g1 := hr.fz 1; have hf := (hr.set 0 (.int .i64 (s + r2 * k))).set 1 (.int .i64 k); go_simp; refine hK.out _ _ hf ⟨(by repeat (first | assumption | apply Blk.drewN | apply Blk.drew | apply Blk.alloc | refine Blk.other ?_ (by first | omega | (simp; done) | (simp; omega)) _)), ⟨_, _, hf⟩, (by repeat (first | exact Below.refl _ _ | assumption | apply below_drewN' | apply Below.drew | refine Below.alloc ?_ (by first | omega | (simp; done) | (simp; omega)) _ | refine Below.setCell ?_ (by first | omega | (simp; done) | (simp; omega)) _))⟩ (.inl rfl))
  exact Free.nil
  clear hvo
  intro w' hS; intro v0; intro v1; intro v2; intro v3; intro v4; intro v5; intro v6; intro v7; intro v8 h8; (try simp only [Act.put, List.setIfInBounds_toArray, List.set_cons_zero, List.set_cons_succ]); refine Free.toldW_nil ?_
  have hF : Blk w' (w.heap.size + 1) #[.int .i64 (s + r2 * k), .int .i64 k] 34 := h8
  have z0 := hF.cell 0 (v := .int .i64 (s + r2 * k)) rfl
  have z1 := hF.cell 1 (v := .int .i64 k) rfl
  go_wp2
  refine bodyPost_ret (v := .agg #[.int .i64 (s + r2 * k), .int .i64 (k)]) (by simp [results, Try.results24, go_sem, z0, z1]) rfl ⟨rfl, hS.2.2⟩
end Go.Proofs.Ytdmjiaicgbcodaa
