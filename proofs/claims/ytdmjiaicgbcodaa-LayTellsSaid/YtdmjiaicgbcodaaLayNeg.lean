/- Package lay ahead of zero, and of a configuration that may not be. -/
import Derived.Test.YtdmjiaicgbcodaaLayY
import Derived.Test.YtdmjiaicgbcodaaLayK
namespace Go.Proofs.Ytdmjiaicgbcodaa
open Go.ChangeShapes Go.WideShapes Go.ChangeAt Go.RowKit
open Go.ChangeMaps (open_string shut_string)
set_option linter.unusedVariables false
set_option linter.unusedSimpArgs false

theorem lay_clog_neg (x : Cfg) (A : Option Addr) (n c : Nat) (q : Int) (w : World) (q0 : q < 0) : Calls Try.prog 24 #[.agg #[.int .i64 x.h, .int .i64 x.z, .int .i64 x.b, .int .i64 x.r, .int .i64 x.d, .int .i64 x.e, .int .i64 x.s, .int .i64 x.p, .int .i64 x.q, .int .i64 x.t, .slice A n c], .int .i64 q] w fun e w' => e = .returned (.agg #[.int .i64 (0), .int .i64 (0)]) ∧ Below w.heap.size w w' := by
  have bb : Below w.heap.size w ((w.alloc (.cells #[.int .i64 x.h, .int .i64 x.z, .int .i64 x.b, .int .i64 x.r, .int .i64 x.d, .int .i64 x.e, .int .i64 x.s, .int .i64 x.p, .int .i64 x.q, .int .i64 x.t, .slice A n c] 28)).alloc (.cells #[.int .i64 0, .int .i64 0] 34)) := (by repeat (first | exact Below.refl _ _ | assumption | apply below_drewN' | apply Below.drew | refine Below.alloc ?_ (by first | omega | (simp; done) | (simp; omega)) _ | refine Below.setCell ?_ (by first | omega | (simp; done) | (simp; omega)) _))
  have hr0 := Blk.new2 w (.cells #[.int .i64 x.h, .int .i64 x.z, .int .i64 x.b, .int .i64 x.r, .int .i64 x.d, .int .i64 x.e, .int .i64 x.s, .int .i64 x.p, .int .i64 x.q, .int .i64 x.t, .slice A n c] 28) #[.int .i64 0, .int .i64 0] 34
  have z0 := hr0.cell 0 (v := .int .i64 0) rfl
  have z1 := hr0.cell 1 (v := .int .i64 0) rfl
  go_enter Try.func24, Try.ntmps24
  go_wp2
  refine bodyPost_ret (v := .agg #[.int .i64 (0), .int .i64 (0)]) (by simp [results, Try.results24, go_sem, z0, z1]) rfl ⟨rfl, bb⟩
theorem lay_full_neg (x : Cfg) (A : Option Addr) (n c : Nat) (q : Int) (w : World) (q0 : q < 0) : Calls Try.prog 16 #[.agg #[.int .i64 x.h, .int .i64 x.z, .int .i64 x.b, .int .i64 x.r, .int .i64 x.d, .int .i64 x.e, .int .i64 x.s, .int .i64 x.p, .int .i64 x.q, .int .i64 x.t, .slice A n c], .int .i64 q] w fun e w' => e = .returned (.agg #[.int .i64 (0), .int .i64 (0)]) ∧ Below w.heap.size w w' := by
  have bb : Below w.heap.size w ((w.alloc (.cells #[.int .i64 x.h, .int .i64 x.z, .int .i64 x.b, .int .i64 x.r, .int .i64 x.d, .int .i64 x.e, .int .i64 x.s, .int .i64 x.p, .int .i64 x.q, .int .i64 x.t, .slice A n c] 28)).alloc (.cells #[.int .i64 0, .int .i64 0] 34)) := (by repeat (first | exact Below.refl _ _ | assumption | apply below_drewN' | apply Below.drew | refine Below.alloc ?_ (by first | omega | (simp; done) | (simp; omega)) _ | refine Below.setCell ?_ (by first | omega | (simp; done) | (simp; omega)) _))
  have hr0 := Blk.new2 w (.cells #[.int .i64 x.h, .int .i64 x.z, .int .i64 x.b, .int .i64 x.r, .int .i64 x.d, .int .i64 x.e, .int .i64 x.s, .int .i64 x.p, .int .i64 x.q, .int .i64 x.t, .slice A n c] 28) #[.int .i64 0, .int .i64 0] 34
  have z0 := hr0.cell 0 (v := .int .i64 0) rfl
  have z1 := hr0.cell 1 (v := .int .i64 0) rfl
  go_enter Try.func16, Try.ntmps16
  go_wp2
  refine bodyPost_ret (v := .agg #[.int .i64 (0), .int .i64 (0)]) (by simp [results, Try.results16, go_sem, z0, z1]) rfl ⟨rfl, bb⟩
theorem lay_delta_neg (x : Cfg) (A : Option Addr) (n c : Nat) (q : Int) (w : World) (q0 : q < 0) : Calls Try.prog 17 #[.agg #[.int .i64 x.h, .int .i64 x.z, .int .i64 x.b, .int .i64 x.r, .int .i64 x.d, .int .i64 x.e, .int .i64 x.s, .int .i64 x.p, .int .i64 x.q, .int .i64 x.t, .slice A n c], .int .i64 q] w fun e w' => e = .returned (.agg #[.int .i64 (0), .int .i64 (0)]) ∧ Below w.heap.size w w' := by
  have bb : Below w.heap.size w ((w.alloc (.cells #[.int .i64 x.h, .int .i64 x.z, .int .i64 x.b, .int .i64 x.r, .int .i64 x.d, .int .i64 x.e, .int .i64 x.s, .int .i64 x.p, .int .i64 x.q, .int .i64 x.t, .slice A n c] 28)).alloc (.cells #[.int .i64 0, .int .i64 0] 34)) := (by repeat (first | exact Below.refl _ _ | assumption | apply below_drewN' | apply Below.drew | refine Below.alloc ?_ (by first | omega | (simp; done) | (simp; omega)) _ | refine Below.setCell ?_ (by first | omega | (simp; done) | (simp; omega)) _))
  have hr0 := Blk.new2 w (.cells #[.int .i64 x.h, .int .i64 x.z, .int .i64 x.b, .int .i64 x.r, .int .i64 x.d, .int .i64 x.e, .int .i64 x.s, .int .i64 x.p, .int .i64 x.q, .int .i64 x.t, .slice A n c] 28) #[.int .i64 0, .int .i64 0] 34
  have z0 := hr0.cell 0 (v := .int .i64 0) rfl
  have z1 := hr0.cell 1 (v := .int .i64 0) rfl
  go_enter Try.func17, Try.ntmps17
  go_wp2
  refine bodyPost_ret (v := .agg #[.int .i64 (0), .int .i64 (0)]) (by simp [results, Try.results17, go_sem, z0, z1]) rfl ⟨rfl, bb⟩
theorem lay_clogA (x : Cfg) (A : Option Addr) (n c : Nat) (q : Int) (w : World) (h : x.B) (q1 : q ≤ 4503599627370496) : Calls Try.prog 24 #[.agg #[.int .i64 x.h, .int .i64 x.z, .int .i64 x.b, .int .i64 x.r, .int .i64 x.d, .int .i64 x.e, .int .i64 x.s, .int .i64 x.p, .int .i64 x.q, .int .i64 x.t, .slice A n c], .int .i64 q] w fun e w' => e = .returned (.agg #[.int .i64 ((clogA x q).1), .int .i64 ((clogA x q).2)]) ∧ Below w.heap.size w w' := by
  unfold clogA
  by_cases q0 : q < 0
  · rewrite [if_pos q0]; exact lay_clog_neg x A n c q w q0
  · rewrite [if_neg q0]; exact lay_clog x A n c q w h (by omega) q1
theorem lay_fullA (x : Cfg) (A : Option Addr) (n c : Nat) (q : Int) (w : World) (h : x.B) (q1 : q ≤ 4503599627370496) : Calls Try.prog 16 #[.agg #[.int .i64 x.h, .int .i64 x.z, .int .i64 x.b, .int .i64 x.r, .int .i64 x.d, .int .i64 x.e, .int .i64 x.s, .int .i64 x.p, .int .i64 x.q, .int .i64 x.t, .slice A n c], .int .i64 q] w fun e w' => e = .returned (.agg #[.int .i64 ((fullA x q).1), .int .i64 ((fullA x q).2)]) ∧ Below w.heap.size w w' := by
  unfold fullA
  by_cases q0 : q < 0
  · rewrite [if_pos q0]; exact lay_full_neg x A n c q w q0
  · rewrite [if_neg q0]; exact lay_full' x A n c q w h (by omega) q1
theorem lay_deltaA (x : Cfg) (A : Option Addr) (n c : Nat) (q : Int) (w : World) (h : x.B) (q1 : q ≤ 4503599627370496) : Calls Try.prog 17 #[.agg #[.int .i64 x.h, .int .i64 x.z, .int .i64 x.b, .int .i64 x.r, .int .i64 x.d, .int .i64 x.e, .int .i64 x.s, .int .i64 x.p, .int .i64 x.q, .int .i64 x.t, .slice A n c], .int .i64 q] w fun e w' => e = .returned (.agg #[.int .i64 ((deltaA x q).1), .int .i64 ((deltaA x q).2)]) ∧ Below w.heap.size w w' := by
  unfold deltaA
  by_cases q0 : q < 0
  · rewrite [if_pos q0]; exact lay_delta_neg x A n c q w q0
  · rewrite [if_neg q0]; exact lay_delta x A n c q w h (by omega) q1
set_option maxHeartbeats 1000000 in
set_option maxRecDepth 100000 in
theorem lay_check_neg (x : Cfg) (A : Option Addr) (n c : Nat) (q : Int) (w : World) (h : x.B) (q0 : q < 0) (q2 : -9223372036854775808 ≤ q) : Calls Try.prog 15 #[.agg #[.int .i64 x.h, .int .i64 x.z, .int .i64 x.b, .int .i64 x.r, .int .i64 x.d, .int .i64 x.e, .int .i64 x.s, .int .i64 x.p, .int .i64 x.q, .int .i64 x.t, .slice A n c], .int .i64 q] w fun e w' => e = .returned (.agg #[.int .i64 (0), .int .i64 (0)]) ∧ Below w.heap.size w w' := by
  have HF := Lib.hid (fun w => lay_full_neg x A n c q w q0)
  have HD := Lib.hid (fun w => lay_delta_neg x A n c q w q0)
  have hp := h.p
  have pn : ¬ x.p = 0 := by omega
  clear h
  have bb : Below w.heap.size w ((w.alloc (.cells #[.int .i64 x.h, .int .i64 x.z, .int .i64 x.b, .int .i64 x.r, .int .i64 x.d, .int .i64 x.e, .int .i64 x.s, .int .i64 x.p, .int .i64 x.q, .int .i64 x.t, .slice A n c] 28)).alloc (.cells #[.int .i64 0, .int .i64 0] 34)) := (by repeat (first | exact Below.refl _ _ | assumption | apply below_drewN' | apply Below.drew | refine Below.alloc ?_ (by first | omega | (simp; done) | (simp; omega)) _ | refine Below.setCell ?_ (by first | omega | (simp; done) | (simp; omega)) _))
  have hr0 := Blk.new2 w (.cells #[.int .i64 x.h, .int .i64 x.z, .int .i64 x.b, .int .i64 x.r, .int .i64 x.d, .int .i64 x.e, .int .i64 x.s, .int .i64 x.p, .int .i64 x.q, .int .i64 x.t, .slice A n c] 28) #[.int .i64 0, .int .i64 0] 34
  by_cases hz : q.tmod x.p = 0
  · go_enter Try.func15, Try.ntmps15
    go_wp2_with fail
    refine (HF.out _).mono ?_
    rintro e w3 ⟨rfl, hb⟩
    have hr := hr0.below hb hr0.lt
    replace bb := bnext bb hb
    clear hr0 hb
    have c0 := hr.cell 0 (v := .int .i64 0) rfl
    have c1 := hr.cell 1 (v := .int .i64 0) rfl
    have g0 := hr.fz 0
    have g1 := hr.fz 1
    have hf := (hr.set 0 (.int .i64 0)).set 1 (.int .i64 0)
    go_wp2
    have bF : Below w.heap.size w ((w3.setCell ⟨w.heap.size + 1, 0, none⟩ (.int .i64 0)).setCell ⟨w.heap.size + 1, 1, none⟩ (.int .i64 0)) := (by repeat (first | exact Below.refl _ _ | assumption | apply below_drewN' | apply Below.drew | refine Below.alloc ?_ (by first | omega | (simp; done) | (simp; omega)) _ | refine Below.setCell ?_ (by first | omega | (simp; done) | (simp; omega)) _))
    generalize (w3.setCell ⟨w.heap.size + 1, 0, none⟩ (.int .i64 0)).setCell ⟨w.heap.size + 1, 1, none⟩ (.int .i64 0) = WF at *
    have z0 := hf.cell 0 (v := .int .i64 0) rfl
    have z1 := hf.cell 1 (v := .int .i64 0) rfl
    refine bodyPost_ret (v := .agg #[.int .i64 (0), .int .i64 (0)]) (by simp [results, Try.results15, go_sem, z0, z1]) rfl ⟨rfl, bF⟩
  · have zz : (q.tmod x.p == 0) = false := by rw [beq_eq_false_iff_ne]; exact hz
    go_enter Try.func15, Try.ntmps15
    go_wp2_with fail
    refine (HD.out _).mono ?_
    rintro e w3 ⟨rfl, hb⟩
    have hr := hr0.below hb hr0.lt
    replace bb := bnext bb hb
    clear hr0 hb
    have c0 := hr.cell 0 (v := .int .i64 0) rfl
    have c1 := hr.cell 1 (v := .int .i64 0) rfl
    have g0 := hr.fz 0
    have g1 := hr.fz 1
    have hf := (hr.set 0 (.int .i64 0)).set 1 (.int .i64 0)
    go_wp2
    have bF : Below w.heap.size w ((w3.setCell ⟨w.heap.size + 1, 0, none⟩ (.int .i64 0)).setCell ⟨w.heap.size + 1, 1, none⟩ (.int .i64 0)) := (by repeat (first | exact Below.refl _ _ | assumption | apply below_drewN' | apply Below.drew | refine Below.alloc ?_ (by first | omega | (simp; done) | (simp; omega)) _ | refine Below.setCell ?_ (by first | omega | (simp; done) | (simp; omega)) _))
    generalize (w3.setCell ⟨w.heap.size + 1, 0, none⟩ (.int .i64 0)).setCell ⟨w.heap.size + 1, 1, none⟩ (.int .i64 0) = WF at *
    have z0 := hf.cell 0 (v := .int .i64 0) rfl
    have z1 := hf.cell 1 (v := .int .i64 0) rfl
    refine bodyPost_ret (v := .agg #[.int .i64 (0), .int .i64 (0)]) (by simp [results, Try.results15, go_sem, z0, z1]) rfl ⟨rfl, bF⟩
theorem lay_checkA (x : Cfg) (A : Option Addr) (n c : Nat) (q : Int) (w : World) (h : x.B) (q1 : q ≤ 4503599627370496) (q2 : -9223372036854775808 ≤ q) : Calls Try.prog 15 #[.agg #[.int .i64 x.h, .int .i64 x.z, .int .i64 x.b, .int .i64 x.r, .int .i64 x.d, .int .i64 x.e, .int .i64 x.s, .int .i64 x.p, .int .i64 x.q, .int .i64 x.t, .slice A n c], .int .i64 q] w fun e w' => e = .returned (.agg #[.int .i64 ((checkA x q).1), .int .i64 ((checkA x q).2)]) ∧ Below w.heap.size w w' := by
  unfold checkA
  by_cases q0 : q < 0
  · rewrite [if_pos q0]; exact lay_check_neg x A n c q w h q0 q2
  · rewrite [if_neg q0]; exact lay_check x A n c q w h (by omega) q1
theorem lay_tickA (x : Cfg) (A : Option Addr) (n c : Nat) (q : Int) (w : World) (h : x.B) (q1 : q ≤ 4503599627370496) : Calls Try.prog 34 #[.agg #[.int .i64 x.h, .int .i64 x.z, .int .i64 x.b, .int .i64 x.r, .int .i64 x.d, .int .i64 x.e, .int .i64 x.s, .int .i64 x.p, .int .i64 x.q, .int .i64 x.t, .slice A n c], .int .i64 q] w fun e w' => e = .returned (.int .i64 (tickA x q)) ∧ Below w.heap.size w w' := by
  unfold tickA
  by_cases q0 : q < 0
  · rewrite [if_pos q0]
    go_enter Try.func34, Try.ntmps34
    go_wp2
    go_ret
    exact ⟨rfl, (by repeat (first | exact Below.refl _ _ | assumption | apply below_drewN' | apply Below.drew | refine Below.alloc ?_ (by first | omega | (simp; done) | (simp; omega)) _ | refine Below.setCell ?_ (by first | omega | (simp; done) | (simp; omega)) _))⟩
  · rewrite [if_neg q0]; exact lay_tick x A n c q w h (by omega) q1
theorem lay_recovA (x : Cfg) (A : Option Addr) (n c : Nat) (q s : Int) (w : World) (h : x.B) (q1 : q ≤ 4503599627370000) (s1 : s ≤ 1048577) : Calls Try.prog 35 #[.agg #[.int .i64 x.h, .int .i64 x.z, .int .i64 x.b, .int .i64 x.r, .int .i64 x.d, .int .i64 x.e, .int .i64 x.s, .int .i64 x.p, .int .i64 x.q, .int .i64 x.t, .slice A n c], .int .i64 q, .int .i64 s] w fun e w' => e = .returned (.int .i64 (recovA x q s)) ∧ Below w.heap.size w w' := by
  unfold recovA
  by_cases q0 : q < 0
  · rewrite [if_pos (.inl q0)]
    go_enter Try.func35, Try.ntmps35
    go_wp2
    go_ret
    exact ⟨rfl, (by repeat (first | exact Below.refl _ _ | assumption | apply below_drewN' | apply Below.drew | refine Below.alloc ?_ (by first | omega | (simp; done) | (simp; omega)) _ | refine Below.setCell ?_ (by first | omega | (simp; done) | (simp; omega)) _))⟩
  · by_cases s0 : s < 0
    · rewrite [if_pos (.inr s0)]
      go_enter Try.func35, Try.ntmps35
      go_wp2
      go_ret
      exact ⟨rfl, (by repeat (first | exact Below.refl _ _ | assumption | apply below_drewN' | apply Below.drew | refine Below.alloc ?_ (by first | omega | (simp; done) | (simp; omega)) _ | refine Below.setCell ?_ (by first | omega | (simp; done) | (simp; omega)) _))⟩
    · rewrite [if_neg (by omega)]; exact lay_recov x A n c q s w h (by omega) q1 (by omega) s1
set_option maxHeartbeats 1000000 in
set_option maxRecDepth 100000 in
theorem lay_of_no (x : Cfg) (A : Option Addr) (n c : Nat) (Z : List (List Int)) (w : World) (h : RG w A n c Z) (hm : mayC x Z = false) :
    Calls Try.prog 13 #[.agg #[.int .i64 x.h, .int .i64 x.z, .int .i64 x.b, .int .i64 x.r, .int .i64 x.d, .int .i64 x.e, .int .i64 x.s, .int .i64 x.p, .int .i64 x.q, .int .i64 x.t, .slice A n c]] w fun e w' => e = .returned (.tuple #[.agg #[.int .i64 0, .int .i64 0, .int .i64 0, .int .i64 0, .int .i64 0, .int .i64 0, .int .i64 0, .int .i64 0, .int .i64 0, .int .i64 0, .slice none 0 0], .int .i64 1]) ∧ Below w.heap.size w w' := by
  have HM := Lib.hid (fun w h => hm ▸ lay_may x A n c Z w h)
  clear hm
  have bb : Below w.heap.size w ((w.alloc (.cells #[.int .i64 x.h, .int .i64 x.z, .int .i64 x.b, .int .i64 x.r, .int .i64 x.d, .int .i64 x.e, .int .i64 x.s, .int .i64 x.p, .int .i64 x.q, .int .i64 x.t, .slice A n c] 24)).alloc (.cells #[.int .i64 0, .int .i64 0, .int .i64 0, .int .i64 0, .int .i64 0, .int .i64 0, .int .i64 0, .int .i64 0, .int .i64 0, .int .i64 0, .slice none 0 0] 28)) := (by repeat (first | exact Below.refl _ _ | assumption | apply below_drewN' | apply Below.drew | refine Below.alloc ?_ (by first | omega | (simp; done) | (simp; omega)) _ | refine Below.setCell ?_ (by first | omega | (simp; done) | (simp; omega)) _))
  have hr0 := Blk.new2 w (.cells #[.int .i64 x.h, .int .i64 x.z, .int .i64 x.b, .int .i64 x.r, .int .i64 x.d, .int .i64 x.e, .int .i64 x.s, .int .i64 x.p, .int .i64 x.q, .int .i64 x.t, .slice A n c] 24) #[.int .i64 0, .int .i64 0, .int .i64 0, .int .i64 0, .int .i64 0, .int .i64 0, .int .i64 0, .int .i64 0, .int .i64 0, .int .i64 0, .slice none 0 0] 28
  have h1 := h.below bb
  go_enter Try.func13, Try.ntmps13
  go_wp2_with fail
  generalize (w.alloc (.cells #[.int .i64 x.h, .int .i64 x.z, .int .i64 x.b, .int .i64 x.r, .int .i64 x.d, .int .i64 x.e, .int .i64 x.s, .int .i64 x.p, .int .i64 x.q, .int .i64 x.t, .slice A n c] 24)).alloc (.cells #[.int .i64 0, .int .i64 0, .int .i64 0, .int .i64 0, .int .i64 0, .int .i64 0, .int .i64 0, .int .i64 0, .int .i64 0, .int .i64 0, .slice none 0 0] 28) = W1 at *
  refine (HM.out _ h1).mono ?_
  rintro e w3 ⟨rfl, hb⟩
  have hR := hr0.below hb hr0.lt
  have b3 := bnext bb hb
  clear hr0 bb hb h1
  have c0 := hR.cell 0 (v := .int .i64 0) rfl
  have c1 := hR.cell 1 (v := .int .i64 0) rfl
  have c2 := hR.cell 2 (v := .int .i64 0) rfl
  have c3 := hR.cell 3 (v := .int .i64 0) rfl
  have c4 := hR.cell 4 (v := .int .i64 0) rfl
  have c5 := hR.cell 5 (v := .int .i64 0) rfl
  have c6 := hR.cell 6 (v := .int .i64 0) rfl
  have c7 := hR.cell 7 (v := .int .i64 0) rfl
  have c8 := hR.cell 8 (v := .int .i64 0) rfl
  have c9 := hR.cell 9 (v := .int .i64 0) rfl
  have c10 := hR.cell 10 (v := .slice none 0 0) rfl
  have g0 := hR.fz 0
  have g1 := hR.fz 1
  have g2 := hR.fz 2
  have g3 := hR.fz 3
  have g4 := hR.fz 4
  have g5 := hR.fz 5
  have g6 := hR.fz 6
  have g7 := hR.fz 7
  have g8 := hR.fz 8
  have g9 := hR.fz 9
  have g10 := hR.fz 10
  go_wp2
  have hf := Blk.set11 hR (.int .i64 0) (.int .i64 0) (.int .i64 0) (.int .i64 0) (.int .i64 0) (.int .i64 0) (.int .i64 0) (.int .i64 0) (.int .i64 0) (.int .i64 0) (.slice none 0 0)
  have bF : Below w.heap.size w (((((((((((w3.setCell ⟨w.heap.size + 1, 0, none⟩ (.int .i64 0)).setCell ⟨w.heap.size + 1, 1, none⟩ (.int .i64 0)).setCell ⟨w.heap.size + 1, 2, none⟩ (.int .i64 0)).setCell ⟨w.heap.size + 1, 3, none⟩ (.int .i64 0)).setCell ⟨w.heap.size + 1, 4, none⟩ (.int .i64 0)).setCell ⟨w.heap.size + 1, 5, none⟩ (.int .i64 0)).setCell ⟨w.heap.size + 1, 6, none⟩ (.int .i64 0)).setCell ⟨w.heap.size + 1, 7, none⟩ (.int .i64 0)).setCell ⟨w.heap.size + 1, 8, none⟩ (.int .i64 0)).setCell ⟨w.heap.size + 1, 9, none⟩ (.int .i64 0)).setCell ⟨w.heap.size + 1, 10, none⟩ (.slice none 0 0)) := (((((((((((b3.setCell (p := ⟨w.heap.size + 1, 0, none⟩) (Nat.le_succ _) _).setCell (p := ⟨w.heap.size + 1, 1, none⟩) (Nat.le_succ _) _).setCell (p := ⟨w.heap.size + 1, 2, none⟩) (Nat.le_succ _) _).setCell (p := ⟨w.heap.size + 1, 3, none⟩) (Nat.le_succ _) _).setCell (p := ⟨w.heap.size + 1, 4, none⟩) (Nat.le_succ _) _).setCell (p := ⟨w.heap.size + 1, 5, none⟩) (Nat.le_succ _) _).setCell (p := ⟨w.heap.size + 1, 6, none⟩) (Nat.le_succ _) _).setCell (p := ⟨w.heap.size + 1, 7, none⟩) (Nat.le_succ _) _).setCell (p := ⟨w.heap.size + 1, 8, none⟩) (Nat.le_succ _) _).setCell (p := ⟨w.heap.size + 1, 9, none⟩) (Nat.le_succ _) _).setCell (p := ⟨w.heap.size + 1, 10, none⟩) (Nat.le_succ _) _)
  generalize (((((((((((w3.setCell ⟨w.heap.size + 1, 0, none⟩ (.int .i64 0)).setCell ⟨w.heap.size + 1, 1, none⟩ (.int .i64 0)).setCell ⟨w.heap.size + 1, 2, none⟩ (.int .i64 0)).setCell ⟨w.heap.size + 1, 3, none⟩ (.int .i64 0)).setCell ⟨w.heap.size + 1, 4, none⟩ (.int .i64 0)).setCell ⟨w.heap.size + 1, 5, none⟩ (.int .i64 0)).setCell ⟨w.heap.size + 1, 6, none⟩ (.int .i64 0)).setCell ⟨w.heap.size + 1, 7, none⟩ (.int .i64 0)).setCell ⟨w.heap.size + 1, 8, none⟩ (.int .i64 0)).setCell ⟨w.heap.size + 1, 9, none⟩ (.int .i64 0)).setCell ⟨w.heap.size + 1, 10, none⟩ (.slice none 0 0)) = WF at *
  clear c0 c1 c2 c3 c4 c5 c6 c7 c8 c9 c10 g0 g1 g2 g3 g4 g5 g6 g7 g8 g9 g10
  have z0 := hf.cell 0 (v := .int .i64 0) rfl
  have z1 := hf.cell 1 (v := .int .i64 0) rfl
  have z2 := hf.cell 2 (v := .int .i64 0) rfl
  have z3 := hf.cell 3 (v := .int .i64 0) rfl
  have z4 := hf.cell 4 (v := .int .i64 0) rfl
  have z5 := hf.cell 5 (v := .int .i64 0) rfl
  have z6 := hf.cell 6 (v := .int .i64 0) rfl
  have z7 := hf.cell 7 (v := .int .i64 0) rfl
  have z8 := hf.cell 8 (v := .int .i64 0) rfl
  have z9 := hf.cell 9 (v := .int .i64 0) rfl
  have z10 := hf.cell 10 (v := .slice none 0 0) rfl
  refine bodyPost_ret (v := .tuple #[.agg #[.int .i64 0, .int .i64 0, .int .i64 0, .int .i64 0, .int .i64 0, .int .i64 0, .int .i64 0, .int .i64 0, .int .i64 0, .int .i64 0, .slice none 0 0], .int .i64 1]) (by simp [results, Try.results13, go_sem, z0, z1, z2, z3, z4, z5, z6, z7, z8, z9, z10]) rfl ⟨rfl, bF⟩
end Go.Proofs.Ytdmjiaicgbcodaa
