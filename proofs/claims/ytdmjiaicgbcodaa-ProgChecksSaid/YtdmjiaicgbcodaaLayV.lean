/- The document of chapter 13: lengths. -/
import Derived.Test.YtdmjiaicgbcodaaLayR
namespace Go.Proofs.Ytdmjiaicgbcodaa
open Go.ChangeShapes Go.WideShapes Go.ChangeAt Go.RowKit
open Go.ChangeMaps (open_string shut_string)
set_option linter.unusedVariables false
set_option linter.unusedSimpArgs false

theorem ref_height (n : Int) (b : Bool) (w : World) (hb : inR n 0 6 = b) : Calls Try.prog 80 #[.int .i64 n] w fun e w' => e = .returned (.bool b) ∧ Below w.heap.size w w' := by
  have hh := Lib.hid hb
  clear hb
  by_cases h1 : 0 ≤ n
  · go_enter Try.func80, Try.ntmps80
    go_wp2
    go_ret
    exact ⟨by rw [← hh.out]; simp [inR, h1], (by repeat (first | exact Below.refl _ _ | assumption | apply below_drewN' | apply Below.drew | refine Below.alloc ?_ (by first | omega | (simp; done) | (simp; omega)) _ | refine Below.setCell ?_ (by first | omega | (simp; done) | (simp; omega)) _))⟩
  · go_enter Try.func80, Try.ntmps80
    go_wp2
    go_ret
    exact ⟨by rw [← hh.out, inR, decide_eq_false (by omega)]; rfl, (by repeat (first | exact Below.refl _ _ | assumption | apply below_drewN' | apply Below.drew | refine Below.alloc ?_ (by first | omega | (simp; done) | (simp; omega)) _ | refine Below.setCell ?_ (by first | omega | (simp; done) | (simp; omega)) _))⟩
theorem ref_buckets (h : Int) (w : World) (h0 : 0 ≤ h) (h1 : h ≤ 6) : Calls Try.prog 85 #[.int .i64 h] w fun e w' => e = .returned (.int .i64 (2 * leavesC h - 1)) ∧ Below w.heap.size w w' := by
  have HM := Lib.hid (fun w => ref_height h true w (by simp [inR]; omega))
  have r := leavesC_range' h h0 h1
  have wh : IntKind.u64.wrap h = h := by rw [IntKind.wrap_u64]; omega
  have hs1 : IntKind.i64.wrap (2 * 2 ^ h.toNat) = 2 * leavesC h := IntWalk.i64_in _ (by unfold leavesC at r; omega)
  have hs2 : RowKit.wrap64 (2 * 2 ^ h.toNat) = 2 * leavesC h := IntWalk.wrap64_in _ (by unfold leavesC at r; omega)
  generalize leavesC h = l at *
  have hs3 : IntKind.i64.wrap (2 * l - 1) = 2 * l - 1 := IntWalk.i64_in _ (by omega)
  have hs4 : RowKit.wrap64 (2 * l - 1) = 2 * l - 1 := IntWalk.wrap64_in _ (by omega)
  go_enter Try.func85, Try.ntmps85
  go_wp2_with fail
  refine (HM.out _).mono ?_
  rintro e w2 ⟨rfl, hb⟩
  go_wp2
  go_ret
  exact ⟨rfl, hb⟩
theorem ref_length (z : Int) (w : World) (h0 : 1 ≤ z) (h1 : z ≤ 4) : Calls Try.prog 81 #[.int .i64 z] w fun e w' => e = .returned (.int .i64 (z * 38)) ∧ Below w.heap.size w w' := by
  go_enter Try.func81, Try.ntmps81
  go_wp2
  go_ret
  exact ⟨rfl, (by repeat (first | exact Below.refl _ _ | assumption | apply below_drewN' | apply Below.drew | refine Below.alloc ?_ (by first | omega | (simp; done) | (simp; omega)) _ | refine Below.setCell ?_ (by first | omega | (simp; done) | (simp; omega)) _))⟩
theorem div_up (l s : Int) (hl : 1 ≤ l) (hs : 1 ≤ s) : (l - 1) / s + 1 = l / s + if 0 < l % s then 1 else 0 := by
  have e := Int.mul_ediv_add_emod l s
  have m0 := Int.emod_nonneg l (show s ≠ 0 by omega)
  have m1 := Int.emod_lt_of_pos l (show 0 < s by omega)
  split
  · have : l - 1 = l % s - 1 + l / s * s := by rw [Int.mul_comm] at e; omega
    rw [this, Int.add_mul_ediv_right _ _ (by omega), Int.ediv_eq_zero_of_lt (by omega) (by omega)]
    omega
  · have : l - 1 = s - 1 + (l / s - 1) * s := by rw [Int.mul_comm] at e; rw [Int.sub_mul, Int.one_mul]; omega
    rw [this, Int.add_mul_ediv_right _ _ (by omega), Int.ediv_eq_zero_of_lt (by omega) (by omega)]
    omega
theorem ref_cells2 (l s : Int) (w : World) (hl : 1 ≤ l) (hs : 1 ≤ s) (h2 : l ≤ 1099511627776) (h3 : s ≤ 1099511627776) : Calls Try.prog 98 #[.int .i64 l, .int .i64 s] w fun e w' => e = .returned (.int .i64 ((l - 1) / s + 1)) ∧ Below w.heap.size w w' := by
  have e1 : l.tdiv s = l / s := Int.tdiv_eq_ediv_of_nonneg (by omega)
  have e2 : l.tmod s = l % s := Int.tmod_eq_emod_of_nonneg (by omega)
  have d0 : 0 ≤ l / s := Int.ediv_nonneg (by omega) (by omega)
  have d1 : l / s ≤ l := Int.ediv_le_self _ (by omega)
  have pn : ¬ s = 0 := by omega
  have hd := div_up l s hl hs
  have m1 := Int.emod_lt_of_pos l (show 0 < s by omega)
  have m0 := Int.emod_nonneg l (show s ≠ 0 by omega)
  by_cases h4 : 0 < l % s
  · rw [if_pos h4] at hd
    rw [hd]
    clear hd
    generalize l / s = q at *
    generalize l % s = r at *
    go_enter Try.func98, Try.ntmps98
    go_wp2
    go_ret
    exact ⟨rfl, (by repeat (first | exact Below.refl _ _ | assumption | apply below_drewN' | apply Below.drew | refine Below.alloc ?_ (by first | omega | (simp; done) | (simp; omega)) _ | refine Below.setCell ?_ (by first | omega | (simp; done) | (simp; omega)) _))⟩
  · rw [if_neg h4, Int.add_zero] at hd
    rw [hd]
    clear hd
    generalize l / s = q at *
    generalize l % s = r at *
    go_enter Try.func98, Try.ntmps98
    go_wp2
    go_ret
    exact ⟨rfl, (by repeat (first | exact Below.refl _ _ | assumption | apply below_drewN' | apply Below.drew | refine Below.alloc ?_ (by first | omega | (simp; done) | (simp; omega)) _ | refine Below.setCell ?_ (by first | omega | (simp; done) | (simp; omega)) _))⟩
set_option maxHeartbeats 1000000 in
set_option maxRecDepth 100000 in
theorem ref_payload (x : Cfg) (A : Option Addr) (n c : Nat) (w : World) (h : x.B) : Calls Try.prog 38 #[.agg #[.int .i64 x.h, .int .i64 x.z, .int .i64 x.b, .int .i64 x.r, .int .i64 x.d, .int .i64 x.e, .int .i64 x.s, .int .i64 x.p, .int .i64 x.q, .int .i64 x.t, .slice A n c]] w fun e w' => e = .returned (.int .i64 (x.z * 38)) ∧ Below w.heap.size w w' := by
  have HP := Lib.hid (fun w => ref_length x.z w h.z.1 h.z.2)
  clear h
  have hX0 := Blk.new w #[.int .i64 x.h, .int .i64 x.z, .int .i64 x.b, .int .i64 x.r, .int .i64 x.d, .int .i64 x.e, .int .i64 x.s, .int .i64 x.p, .int .i64 x.q, .int .i64 x.t, .slice A n c] 24
  have bb : Below w.heap.size w (w.alloc (.cells #[.int .i64 x.h, .int .i64 x.z, .int .i64 x.b, .int .i64 x.r, .int .i64 x.d, .int .i64 x.e, .int .i64 x.s, .int .i64 x.p, .int .i64 x.q, .int .i64 x.t, .slice A n c] 24)) := (by repeat (first | exact Below.refl _ _ | assumption | apply below_drewN' | apply Below.drew | refine Below.alloc ?_ (by first | omega | (simp; done) | (simp; omega)) _ | refine Below.setCell ?_ (by first | omega | (simp; done) | (simp; omega)) _))
  have hX := hX0
  go_enter Try.func38, Try.ntmps38
  go_wp2_with fail
  refine (HP.out _).mono ?_
  rintro e w2 ⟨rfl, hb⟩
  go_wp2
  go_ret
  exact ⟨rfl, bnext bb hb⟩
set_option maxHeartbeats 1000000 in
set_option maxRecDepth 100000 in
theorem ref_cell (x : Cfg) (A : Option Addr) (n c : Nat) (w : World) (h : x.B) : Calls Try.prog 39 #[.agg #[.int .i64 x.h, .int .i64 x.z, .int .i64 x.b, .int .i64 x.r, .int .i64 x.d, .int .i64 x.e, .int .i64 x.s, .int .i64 x.p, .int .i64 x.q, .int .i64 x.t, .slice A n c]] w fun e w' => e = .returned (.int .i64 (cellC x)) ∧ Below w.heap.size w w' := by
  have HP := Lib.hid (fun w => ref_payload x A n c w h)
  have hz := h.z
  unfold cellC
  clear h
  have hX0 := Blk.new w #[.int .i64 x.h, .int .i64 x.z, .int .i64 x.b, .int .i64 x.r, .int .i64 x.d, .int .i64 x.e, .int .i64 x.s, .int .i64 x.p, .int .i64 x.q, .int .i64 x.t, .slice A n c] 24
  have bb : Below w.heap.size w (w.alloc (.cells #[.int .i64 x.h, .int .i64 x.z, .int .i64 x.b, .int .i64 x.r, .int .i64 x.d, .int .i64 x.e, .int .i64 x.s, .int .i64 x.p, .int .i64 x.q, .int .i64 x.t, .slice A n c] 24)) := (by repeat (first | exact Below.refl _ _ | assumption | apply below_drewN' | apply Below.drew | refine Below.alloc ?_ (by first | omega | (simp; done) | (simp; omega)) _ | refine Below.setCell ?_ (by first | omega | (simp; done) | (simp; omega)) _))
  go_enter Try.func39, Try.ntmps39
  go_wp2_with fail
  refine (HP.out _).mono ?_
  rintro e w2 ⟨rfl, hb⟩
  go_wp2
  go_ret
  exact ⟨rfl, bnext bb hb⟩
set_option maxHeartbeats 1000000 in
set_option maxRecDepth 100000 in
theorem ref_slots (x : Cfg) (A : Option Addr) (n c : Nat) (w : World) (h : x.B) : Calls Try.prog 40 #[.agg #[.int .i64 x.h, .int .i64 x.z, .int .i64 x.b, .int .i64 x.r, .int .i64 x.d, .int .i64 x.e, .int .i64 x.s, .int .i64 x.p, .int .i64 x.q, .int .i64 x.t, .slice A n c]] w fun e w' => e = .returned (.int .i64 (slotsC x)) ∧ Below w.heap.size w w' := by
  have hr := h.r
  have hd := h.d
  have he := h.e
  unfold slotsC
  have a : 0 ≤ x.r * x.d := Int.mul_nonneg (by omega) (by omega)
  have b : x.r * x.d ≤ 4 * 8 := Int.mul_le_mul (by omega) (by omega) (by omega) (by omega)
  clear h
  have w1 : IntKind.i64.wrap (x.r * x.d) = x.r * x.d := IntWalk.i64_in _ (by omega)
  have w2 : IntKind.i64.wrap (x.r * x.d + x.e) = x.r * x.d + x.e := IntWalk.i64_in _ (by omega)
  go_enter Try.func40, Try.ntmps40
  go_wp2
  go_ret
  exact ⟨rfl, (by repeat (first | exact Below.refl _ _ | assumption | apply below_drewN' | apply Below.drew | refine Below.alloc ?_ (by first | omega | (simp; done) | (simp; omega)) _ | refine Below.setCell ?_ (by first | omega | (simp; done) | (simp; omega)) _))⟩
theorem ref_batch (x : Cfg) (A : Option Addr) (n c : Nat) (i : Int) (w : World) : Calls Try.prog 41 #[.agg #[.int .i64 x.h, .int .i64 x.z, .int .i64 x.b, .int .i64 x.r, .int .i64 x.d, .int .i64 x.e, .int .i64 x.s, .int .i64 x.p, .int .i64 x.q, .int .i64 x.t, .slice A n c], .int .i64 i] w fun e w' => e = .returned (.int .i64 (batchC x i)) ∧ Below w.heap.size w w' := by
  obtain ⟨R, hR⟩ : ∃ R, batchC x i = R := ⟨_, rfl⟩
  rw [hR]
  have hh := Lib.hid hR
  clear hR
  by_cases h0 : 0 ≤ i
  · by_cases h1 : i < x.r
    · go_enter Try.func41, Try.ntmps41
      go_wp2
      go_ret
      exact ⟨by rw [← hh.out, batchC, if_pos ⟨h0, h1⟩]; rfl, (by repeat (first | exact Below.refl _ _ | assumption | apply below_drewN' | apply Below.drew | refine Below.alloc ?_ (by first | omega | (simp; done) | (simp; omega)) _ | refine Below.setCell ?_ (by first | omega | (simp; done) | (simp; omega)) _))⟩
    · by_cases h2 : i = x.r
      · have e1 : (i == x.r) = true := by rw [beq_iff_eq]; exact h2
        go_enter Try.func41, Try.ntmps41
        go_wp2
        go_ret
        exact ⟨by rw [← hh.out, batchC, if_neg (by omega), if_pos h2]; rfl, (by repeat (first | exact Below.refl _ _ | assumption | apply below_drewN' | apply Below.drew | refine Below.alloc ?_ (by first | omega | (simp; done) | (simp; omega)) _ | refine Below.setCell ?_ (by first | omega | (simp; done) | (simp; omega)) _))⟩
      · have e1 : (i == x.r) = false := by rw [beq_eq_false_iff_ne]; exact h2
        go_enter Try.func41, Try.ntmps41
        go_wp2
        go_ret
        exact ⟨by rw [← hh.out, batchC, if_neg (by omega), if_neg h2]; rfl, (by repeat (first | exact Below.refl _ _ | assumption | apply below_drewN' | apply Below.drew | refine Below.alloc ?_ (by first | omega | (simp; done) | (simp; omega)) _ | refine Below.setCell ?_ (by first | omega | (simp; done) | (simp; omega)) _))⟩
  · by_cases h2 : i = x.r
    · have e1 : (i == x.r) = true := by rw [beq_iff_eq]; exact h2
      go_enter Try.func41, Try.ntmps41
      go_wp2
      go_ret
      exact ⟨by rw [← hh.out, batchC, if_neg (by omega), if_pos h2]; rfl, (by repeat (first | exact Below.refl _ _ | assumption | apply below_drewN' | apply Below.drew | refine Below.alloc ?_ (by first | omega | (simp; done) | (simp; omega)) _ | refine Below.setCell ?_ (by first | omega | (simp; done) | (simp; omega)) _))⟩
    · have e1 : (i == x.r) = false := by rw [beq_eq_false_iff_ne]; exact h2
      go_enter Try.func41, Try.ntmps41
      go_wp2
      go_ret
      exact ⟨by rw [← hh.out, batchC, if_neg (by omega), if_neg h2]; rfl, (by repeat (first | exact Below.refl _ _ | assumption | apply below_drewN' | apply Below.drew | refine Below.alloc ?_ (by first | omega | (simp; done) | (simp; omega)) _ | refine Below.setCell ?_ (by first | omega | (simp; done) | (simp; omega)) _))⟩
set_option maxHeartbeats 1000000 in
set_option maxRecDepth 100000 in
theorem ref_stash (x : Cfg) (A : Option Addr) (n c : Nat) (w : World) (h : x.B) : Calls Try.prog 83 #[.agg #[.int .i64 x.h, .int .i64 x.z, .int .i64 x.b, .int .i64 x.r, .int .i64 x.d, .int .i64 x.e, .int .i64 x.s, .int .i64 x.p, .int .i64 x.q, .int .i64 x.t, .slice A n c]] w fun e w' => e = .returned (.int .i64 (stashC x)) ∧ Below w.heap.size w w' := by
  have hs := h.s
  unfold stashC
  clear h
  go_enter Try.func83, Try.ntmps83
  go_wp2
  go_ret
  exact ⟨rfl, (by repeat (first | exact Below.refl _ _ | assumption | apply below_drewN' | apply Below.drew | refine Below.alloc ?_ (by first | omega | (simp; done) | (simp; omega)) _ | refine Below.setCell ?_ (by first | omega | (simp; done) | (simp; omega)) _))⟩
set_option maxHeartbeats 1000000 in
set_option maxRecDepth 100000 in
theorem ref_cloglen (x : Cfg) (A : Option Addr) (n c : Nat) (w : World) (h : x.B) : Calls Try.prog 48 #[.agg #[.int .i64 x.h, .int .i64 x.z, .int .i64 x.b, .int .i64 x.r, .int .i64 x.d, .int .i64 x.e, .int .i64 x.s, .int .i64 x.p, .int .i64 x.q, .int .i64 x.t, .slice A n c]] w fun e w' => e = .returned (.int .i64 (clogLenC x)) ∧ Below w.heap.size w w' := by
  have hs := h.t
  unfold clogLenC
  clear h
  go_enter Try.func48, Try.ntmps48
  go_wp2
  go_ret
  exact ⟨rfl, (by repeat (first | exact Below.refl _ _ | assumption | apply below_drewN' | apply Below.drew | refine Below.alloc ?_ (by first | omega | (simp; done) | (simp; omega)) _ | refine Below.setCell ?_ (by first | omega | (simp; done) | (simp; omega)) _))⟩
set_option maxHeartbeats 1000000 in
set_option maxRecDepth 100000 in
theorem ref_deltalen (x : Cfg) (A : Option Addr) (n c : Nat) (w : World) (h : x.B) : Calls Try.prog 44 #[.agg #[.int .i64 x.h, .int .i64 x.z, .int .i64 x.b, .int .i64 x.r, .int .i64 x.d, .int .i64 x.e, .int .i64 x.s, .int .i64 x.p, .int .i64 x.q, .int .i64 x.t, .slice A n c]] w fun e w' => e = .returned (.int .i64 (deltaLenC x)) ∧ Below w.heap.size w w' := by
  have HS := Lib.hid (fun w => ref_slots x A n c w h)
  have HT := Lib.hid (fun w => ref_stash x A n c w h)
  have r := slotsC_range h
  have r2 := stashC_range h
  have he := h.e
  have hd : deltaLenC x = 12 + 7 * slotsC x + 1 + 1 + 12 * x.e + stashC x := by unfold deltaLenC; omega
  rw [hd]
  clear h hd
  generalize slotsC x = s at *
  generalize stashC x = k at *
  have w1 : IntKind.i64.wrap (7 * s) = 7 * s := IntWalk.i64_in _ (by omega)
  have w2 : IntKind.i64.wrap (12 + 7 * s) = 12 + 7 * s := IntWalk.i64_in _ (by omega)
  have w3 : IntKind.i64.wrap (12 + 7 * s + 1) = 12 + 7 * s + 1 := IntWalk.i64_in _ (by omega)
  have w4 : IntKind.i64.wrap (12 + 7 * s + 1 + 1) = 12 + 7 * s + 1 + 1 := IntWalk.i64_in _ (by omega)
  have w5 : IntKind.i64.wrap (12 + 7 * s + 1 + 1 + 12 * x.e) = 12 + 7 * s + 1 + 1 + 12 * x.e := IntWalk.i64_in _ (by omega)
  have w6 : IntKind.i64.wrap (12 + 7 * s + 1 + 1 + 12 * x.e + k) = 12 + 7 * s + 1 + 1 + 12 * x.e + k := IntWalk.i64_in _ (by omega)
  have w7 : IntKind.i64.wrap (12 * x.e) = 12 * x.e := IntWalk.i64_in _ (by omega)
  have hX0 := Blk.new w #[.int .i64 x.h, .int .i64 x.z, .int .i64 x.b, .int .i64 x.r, .int .i64 x.d, .int .i64 x.e, .int .i64 x.s, .int .i64 x.p, .int .i64 x.q, .int .i64 x.t, .slice A n c] 24
  have bb : Below w.heap.size w (w.alloc (.cells #[.int .i64 x.h, .int .i64 x.z, .int .i64 x.b, .int .i64 x.r, .int .i64 x.d, .int .i64 x.e, .int .i64 x.s, .int .i64 x.p, .int .i64 x.q, .int .i64 x.t, .slice A n c] 24)) := (by repeat (first | exact Below.refl _ _ | assumption | apply below_drewN' | apply Below.drew | refine Below.alloc ?_ (by first | omega | (simp; done) | (simp; omega)) _ | refine Below.setCell ?_ (by first | omega | (simp; done) | (simp; omega)) _))
  go_enter Try.func44, Try.ntmps44
  go_wp2_with fail
  generalize w.alloc (.cells #[.int .i64 x.h, .int .i64 x.z, .int .i64 x.b, .int .i64 x.r, .int .i64 x.d, .int .i64 x.e, .int .i64 x.s, .int .i64 x.p, .int .i64 x.q, .int .i64 x.t, .slice A n c] 24) = W1 at *
  have hX := hX0
  clear hX0
  have hXlt := hX.lt
  have keep := fun {w' w'' : World} (h : Below W1.heap.size W1 w') (hb : Below w'.heap.size w' w'') => bnext h hb
  have hvo := Free.val
  refine Free.wp_facts (M := [0, 1, 3, 7, 15, 31, 0, 64, 192, 511, 0, 1027, 4095, 8191]) (D := [[], [(0, 3)], [(1, 4)], [(2, 5)], [(3, 6)], [(4, 7)], [], [(6, 9)], [(7, 10)], [(5, 8), (8, 11)], [], [(10, 13)], [(9, 12), (11, 14)], [(12, 15)]]) (outs := [13]) (soles := []) (E := [(0, 3, false), (1, 4, false), (2, 5, false), (3, 6, false), (4, 7, false), (5, 8, false), (6, 9, false), (7, 10, false), (8, 11, false), (9, 12, false), (10, 13, false), (11, 14, false), (12, 15, false), (13, 2, true)]) (N := 16) (S := (fun w' => Below W1.heap.size W1 w')) [Free.Fact.is ?_, Free.Fact.is ?_, Free.Fact.is ?_, Free.Fact.is ?_, Free.Fact.is ?_, Free.Fact.is ?_, Free.Fact.is ?_, Free.Fact.is ?_, Free.Fact.is ?_, Free.Fact.is ?_, Free.Fact.is ?_, Free.Fact.is ?_, Free.Fact.is ?_, Free.Fact.is ?_] (by kernel_rfl) (by kernel_rfl) rfl ((Below.refl _ _).drew) ?_ ?_
  rotate_left 14
  refine Free.cons ?_ ?_
  · intro w' hS; intro K hK; have a0 := (hX.below hS hXlt).cell 0 (v := .int .i64 x.h) rfl; have a1 := (hX.below hS hXlt).cell 1 (v := .int .i64 x.z) rfl; have a2 := (hX.below hS hXlt).cell 2 (v := .int .i64 x.b) rfl; have a3 := (hX.below hS hXlt).cell 3 (v := .int .i64 x.r) rfl; have a4 := (hX.below hS hXlt).cell 4 (v := .int .i64 x.d) rfl; have a5 := (hX.below hS hXlt).cell 5 (v := .int .i64 x.e) rfl; have a6 := (hX.below hS hXlt).cell 6 (v := .int .i64 x.s) rfl; have a7 := (hX.below hS hXlt).cell 7 (v := .int .i64 x.p) rfl; have a8 := (hX.below hS hXlt).cell 8 (v := .int .i64 x.q) rfl; have a9 := (hX.below hS hXlt).cell 9 (v := .int .i64 x.t) rfl; have a10 := (hX.below hS hXlt).cell 10 (v := .slice A n c) rfl; first | (refine Free.run_yes (by rfl) ?_; go_simp; refine Free.o hK hS ?_; exact rfl) | (refine Free.run_no (by rfl) (Free.o hK hS ?_); exact rfl)
  refine Free.cons ?_ ?_
  · intro w' hS; (rintro _ rfl); intro K hK; have a0 := (hX.below hS hXlt).cell 0 (v := .int .i64 x.h) rfl; have a1 := (hX.below hS hXlt).cell 1 (v := .int .i64 x.z) rfl; have a2 := (hX.below hS hXlt).cell 2 (v := .int .i64 x.b) rfl; have a3 := (hX.below hS hXlt).cell 3 (v := .int .i64 x.r) rfl; have a4 := (hX.below hS hXlt).cell 4 (v := .int .i64 x.d) rfl; have a5 := (hX.below hS hXlt).cell 5 (v := .int .i64 x.e) rfl; have a6 := (hX.below hS hXlt).cell 6 (v := .int .i64 x.s) rfl; have a7 := (hX.below hS hXlt).cell 7 (v := .int .i64 x.p) rfl; have a8 := (hX.below hS hXlt).cell 8 (v := .int .i64 x.q) rfl; have a9 := (hX.below hS hXlt).cell 9 (v := .int .i64 x.t) rfl; have a10 := (hX.below hS hXlt).cell 10 (v := .slice A n c) rfl; first | (refine Free.run_yes (by rfl) ?_; go_simp; (first | (go_at_call 40; refine (HS.out _).mono ?_; rintro e w' ⟨rfl, hb⟩) | (go_at_call 83; refine (HT.out _).mono ?_; rintro e w' ⟨rfl, hb⟩)); go_simp; refine Free.c hK (keep hS hb) hb ?_; exact rfl) | (refine Free.run_no (by rfl) (Free.o hK hS ?_); exact rfl)
  refine Free.cons ?_ ?_
  · intro w' hS; (rintro _ rfl); intro K hK; have a0 := (hX.below hS hXlt).cell 0 (v := .int .i64 x.h) rfl; have a1 := (hX.below hS hXlt).cell 1 (v := .int .i64 x.z) rfl; have a2 := (hX.below hS hXlt).cell 2 (v := .int .i64 x.b) rfl; have a3 := (hX.below hS hXlt).cell 3 (v := .int .i64 x.r) rfl; have a4 := (hX.below hS hXlt).cell 4 (v := .int .i64 x.d) rfl; have a5 := (hX.below hS hXlt).cell 5 (v := .int .i64 x.e) rfl; have a6 := (hX.below hS hXlt).cell 6 (v := .int .i64 x.s) rfl; have a7 := (hX.below hS hXlt).cell 7 (v := .int .i64 x.p) rfl; have a8 := (hX.below hS hXlt).cell 8 (v := .int .i64 x.q) rfl; have a9 := (hX.below hS hXlt).cell 9 (v := .int .i64 x.t) rfl; have a10 := (hX.below hS hXlt).cell 10 (v := .slice A n c) rfl; first | (refine Free.run_yes (by rfl) ?_; go_simp; refine Free.o hK hS ?_; exact rfl) | (refine Free.run_no (by rfl) (Free.o hK hS ?_); exact rfl)
  refine Free.cons ?_ ?_
  · intro w' hS; (rintro _ rfl); intro K hK; have a0 := (hX.below hS hXlt).cell 0 (v := .int .i64 x.h) rfl; have a1 := (hX.below hS hXlt).cell 1 (v := .int .i64 x.z) rfl; have a2 := (hX.below hS hXlt).cell 2 (v := .int .i64 x.b) rfl; have a3 := (hX.below hS hXlt).cell 3 (v := .int .i64 x.r) rfl; have a4 := (hX.below hS hXlt).cell 4 (v := .int .i64 x.d) rfl; have a5 := (hX.below hS hXlt).cell 5 (v := .int .i64 x.e) rfl; have a6 := (hX.below hS hXlt).cell 6 (v := .int .i64 x.s) rfl; have a7 := (hX.below hS hXlt).cell 7 (v := .int .i64 x.p) rfl; have a8 := (hX.below hS hXlt).cell 8 (v := .int .i64 x.q) rfl; have a9 := (hX.below hS hXlt).cell 9 (v := .int .i64 x.t) rfl; have a10 := (hX.below hS hXlt).cell 10 (v := .slice A n c) rfl; first | (refine Free.run_yes (by rfl) ?_; go_simp; refine Free.o hK hS ?_; exact rfl) | (refine Free.run_no (by rfl) (Free.o hK hS ?_); exact rfl)
  refine Free.cons ?_ ?_
  · intro w' hS; (rintro _ rfl); intro K hK; have a0 := (hX.below hS hXlt).cell 0 (v := .int .i64 x.h) rfl; have a1 := (hX.below hS hXlt).cell 1 (v := .int .i64 x.z) rfl; have a2 := (hX.below hS hXlt).cell 2 (v := .int .i64 x.b) rfl; have a3 := (hX.below hS hXlt).cell 3 (v := .int .i64 x.r) rfl; have a4 := (hX.below hS hXlt).cell 4 (v := .int .i64 x.d) rfl; have a5 := (hX.below hS hXlt).cell 5 (v := .int .i64 x.e) rfl; have a6 := (hX.below hS hXlt).cell 6 (v := .int .i64 x.s) rfl; have a7 := (hX.below hS hXlt).cell 7 (v := .int .i64 x.p) rfl; have a8 := (hX.below hS hXlt).cell 8 (v := .int .i64 x.q) rfl; have a9 := (hX.below hS hXlt).cell 9 (v := .int .i64 x.t) rfl; have a10 := (hX.below hS hXlt).cell 10 (v := .slice A n c) rfl; first | (refine Free.run_yes (by rfl) ?_; go_simp; refine Free.o hK hS ?_; exact rfl) | (refine Free.run_no (by rfl) (Free.o hK hS ?_); exact rfl)
  refine Free.cons ?_ ?_
  · intro w' hS; (rintro _ rfl); intro K hK; have a0 := (hX.below hS hXlt).cell 0 (v := .int .i64 x.h) rfl; have a1 := (hX.below hS hXlt).cell 1 (v := .int .i64 x.z) rfl; have a2 := (hX.below hS hXlt).cell 2 (v := .int .i64 x.b) rfl; have a3 := (hX.below hS hXlt).cell 3 (v := .int .i64 x.r) rfl; have a4 := (hX.below hS hXlt).cell 4 (v := .int .i64 x.d) rfl; have a5 := (hX.below hS hXlt).cell 5 (v := .int .i64 x.e) rfl; have a6 := (hX.below hS hXlt).cell 6 (v := .int .i64 x.s) rfl; have a7 := (hX.below hS hXlt).cell 7 (v := .int .i64 x.p) rfl; have a8 := (hX.below hS hXlt).cell 8 (v := .int .i64 x.q) rfl; have a9 := (hX.below hS hXlt).cell 9 (v := .int .i64 x.t) rfl; have a10 := (hX.below hS hXlt).cell 10 (v := .slice A n c) rfl; first | (refine Free.run_yes (by rfl) ?_; go_simp; refine Free.o hK hS ?_; exact rfl) | (refine Free.run_no (by rfl) (Free.o hK hS ?_); exact rfl)
  refine Free.cons ?_ ?_
  · intro w' hS; intro K hK; have a0 := (hX.below hS hXlt).cell 0 (v := .int .i64 x.h) rfl; have a1 := (hX.below hS hXlt).cell 1 (v := .int .i64 x.z) rfl; have a2 := (hX.below hS hXlt).cell 2 (v := .int .i64 x.b) rfl; have a3 := (hX.below hS hXlt).cell 3 (v := .int .i64 x.r) rfl; have a4 := (hX.below hS hXlt).cell 4 (v := .int .i64 x.d) rfl; have a5 := (hX.below hS hXlt).cell 5 (v := .int .i64 x.e) rfl; have a6 := (hX.below hS hXlt).cell 6 (v := .int .i64 x.s) rfl; have a7 := (hX.below hS hXlt).cell 7 (v := .int .i64 x.p) rfl; have a8 := (hX.below hS hXlt).cell 8 (v := .int .i64 x.q) rfl; have a9 := (hX.below hS hXlt).cell 9 (v := .int .i64 x.t) rfl; have a10 := (hX.below hS hXlt).cell 10 (v := .slice A n c) rfl; first | (refine Free.run_yes (by rfl) ?_; go_simp; refine Free.o hK hS ?_; exact rfl) | (refine Free.run_no (by rfl) (Free.o hK hS ?_); exact rfl)
  refine Free.cons ?_ ?_
  · intro w' hS; (rintro _ rfl); intro K hK; have a0 := (hX.below hS hXlt).cell 0 (v := .int .i64 x.h) rfl; have a1 := (hX.below hS hXlt).cell 1 (v := .int .i64 x.z) rfl; have a2 := (hX.below hS hXlt).cell 2 (v := .int .i64 x.b) rfl; have a3 := (hX.below hS hXlt).cell 3 (v := .int .i64 x.r) rfl; have a4 := (hX.below hS hXlt).cell 4 (v := .int .i64 x.d) rfl; have a5 := (hX.below hS hXlt).cell 5 (v := .int .i64 x.e) rfl; have a6 := (hX.below hS hXlt).cell 6 (v := .int .i64 x.s) rfl; have a7 := (hX.below hS hXlt).cell 7 (v := .int .i64 x.p) rfl; have a8 := (hX.below hS hXlt).cell 8 (v := .int .i64 x.q) rfl; have a9 := (hX.below hS hXlt).cell 9 (v := .int .i64 x.t) rfl; have a10 := (hX.below hS hXlt).cell 10 (v := .slice A n c) rfl; first | (refine Free.run_yes (by rfl) ?_; go_simp; refine Free.o hK hS ?_; exact rfl) | (refine Free.run_no (by rfl) (Free.o hK hS ?_); exact rfl)
  refine Free.cons ?_ ?_
  · intro w' hS; (rintro _ rfl); intro K hK; have a0 := (hX.below hS hXlt).cell 0 (v := .int .i64 x.h) rfl; have a1 := (hX.below hS hXlt).cell 1 (v := .int .i64 x.z) rfl; have a2 := (hX.below hS hXlt).cell 2 (v := .int .i64 x.b) rfl; have a3 := (hX.below hS hXlt).cell 3 (v := .int .i64 x.r) rfl; have a4 := (hX.below hS hXlt).cell 4 (v := .int .i64 x.d) rfl; have a5 := (hX.below hS hXlt).cell 5 (v := .int .i64 x.e) rfl; have a6 := (hX.below hS hXlt).cell 6 (v := .int .i64 x.s) rfl; have a7 := (hX.below hS hXlt).cell 7 (v := .int .i64 x.p) rfl; have a8 := (hX.below hS hXlt).cell 8 (v := .int .i64 x.q) rfl; have a9 := (hX.below hS hXlt).cell 9 (v := .int .i64 x.t) rfl; have a10 := (hX.below hS hXlt).cell 10 (v := .slice A n c) rfl; first | (refine Free.run_yes (by rfl) ?_; go_simp; refine Free.o hK hS ?_; exact rfl) | (refine Free.run_no (by rfl) (Free.o hK hS ?_); exact rfl)
  refine Free.cons ?_ ?_
  · intro w' hS; (rintro _ rfl); (rintro _ rfl); intro K hK; have a0 := (hX.below hS hXlt).cell 0 (v := .int .i64 x.h) rfl; have a1 := (hX.below hS hXlt).cell 1 (v := .int .i64 x.z) rfl; have a2 := (hX.below hS hXlt).cell 2 (v := .int .i64 x.b) rfl; have a3 := (hX.below hS hXlt).cell 3 (v := .int .i64 x.r) rfl; have a4 := (hX.below hS hXlt).cell 4 (v := .int .i64 x.d) rfl; have a5 := (hX.below hS hXlt).cell 5 (v := .int .i64 x.e) rfl; have a6 := (hX.below hS hXlt).cell 6 (v := .int .i64 x.s) rfl; have a7 := (hX.below hS hXlt).cell 7 (v := .int .i64 x.p) rfl; have a8 := (hX.below hS hXlt).cell 8 (v := .int .i64 x.q) rfl; have a9 := (hX.below hS hXlt).cell 9 (v := .int .i64 x.t) rfl; have a10 := (hX.below hS hXlt).cell 10 (v := .slice A n c) rfl; first | (refine Free.run_yes (by rfl) ?_; go_simp; refine Free.o hK hS ?_; exact rfl) | (refine Free.run_no (by rfl) (Free.o hK hS ?_); exact rfl)
  refine Free.cons ?_ ?_
  · intro w' hS; intro K hK; have a0 := (hX.below hS hXlt).cell 0 (v := .int .i64 x.h) rfl; have a1 := (hX.below hS hXlt).cell 1 (v := .int .i64 x.z) rfl; have a2 := (hX.below hS hXlt).cell 2 (v := .int .i64 x.b) rfl; have a3 := (hX.below hS hXlt).cell 3 (v := .int .i64 x.r) rfl; have a4 := (hX.below hS hXlt).cell 4 (v := .int .i64 x.d) rfl; have a5 := (hX.below hS hXlt).cell 5 (v := .int .i64 x.e) rfl; have a6 := (hX.below hS hXlt).cell 6 (v := .int .i64 x.s) rfl; have a7 := (hX.below hS hXlt).cell 7 (v := .int .i64 x.p) rfl; have a8 := (hX.below hS hXlt).cell 8 (v := .int .i64 x.q) rfl; have a9 := (hX.below hS hXlt).cell 9 (v := .int .i64 x.t) rfl; have a10 := (hX.below hS hXlt).cell 10 (v := .slice A n c) rfl; first | (refine Free.run_yes (by rfl) ?_; go_simp; refine Free.o hK hS ?_; exact rfl) | (refine Free.run_no (by rfl) (Free.o hK hS ?_); exact rfl)
  refine Free.cons ?_ ?_
  · intro w' hS; (rintro _ rfl); intro K hK; have a0 := (hX.below hS hXlt).cell 0 (v := .int .i64 x.h) rfl; have a1 := (hX.below hS hXlt).cell 1 (v := .int .i64 x.z) rfl; have a2 := (hX.below hS hXlt).cell 2 (v := .int .i64 x.b) rfl; have a3 := (hX.below hS hXlt).cell 3 (v := .int .i64 x.r) rfl; have a4 := (hX.below hS hXlt).cell 4 (v := .int .i64 x.d) rfl; have a5 := (hX.below hS hXlt).cell 5 (v := .int .i64 x.e) rfl; have a6 := (hX.below hS hXlt).cell 6 (v := .int .i64 x.s) rfl; have a7 := (hX.below hS hXlt).cell 7 (v := .int .i64 x.p) rfl; have a8 := (hX.below hS hXlt).cell 8 (v := .int .i64 x.q) rfl; have a9 := (hX.below hS hXlt).cell 9 (v := .int .i64 x.t) rfl; have a10 := (hX.below hS hXlt).cell 10 (v := .slice A n c) rfl; first | (refine Free.run_yes (by rfl) ?_; go_simp; (first | (go_at_call 40; refine (HS.out _).mono ?_; rintro e w' ⟨rfl, hb⟩) | (go_at_call 83; refine (HT.out _).mono ?_; rintro e w' ⟨rfl, hb⟩)); go_simp; refine Free.c hK (keep hS hb) hb ?_; exact rfl) | (refine Free.run_no (by rfl) (Free.o hK hS ?_); exact rfl)
  refine Free.cons ?_ ?_
  · intro w' hS; (rintro _ rfl); (rintro _ rfl); intro K hK; have a0 := (hX.below hS hXlt).cell 0 (v := .int .i64 x.h) rfl; have a1 := (hX.below hS hXlt).cell 1 (v := .int .i64 x.z) rfl; have a2 := (hX.below hS hXlt).cell 2 (v := .int .i64 x.b) rfl; have a3 := (hX.below hS hXlt).cell 3 (v := .int .i64 x.r) rfl; have a4 := (hX.below hS hXlt).cell 4 (v := .int .i64 x.d) rfl; have a5 := (hX.below hS hXlt).cell 5 (v := .int .i64 x.e) rfl; have a6 := (hX.below hS hXlt).cell 6 (v := .int .i64 x.s) rfl; have a7 := (hX.below hS hXlt).cell 7 (v := .int .i64 x.p) rfl; have a8 := (hX.below hS hXlt).cell 8 (v := .int .i64 x.q) rfl; have a9 := (hX.below hS hXlt).cell 9 (v := .int .i64 x.t) rfl; have a10 := (hX.below hS hXlt).cell 10 (v := .slice A n c) rfl; first | (refine Free.run_yes (by rfl) ?_; go_simp; refine Free.o hK hS ?_; exact rfl) | (refine Free.run_no (by rfl) (Free.o hK hS ?_); exact rfl)
  refine Free.cons ?_ ?_
  · intro w' hS; (rintro _ rfl); intro K hK; have a0 := (hX.below hS hXlt).cell 0 (v := .int .i64 x.h) rfl; have a1 := (hX.below hS hXlt).cell 1 (v := .int .i64 x.z) rfl; have a2 := (hX.below hS hXlt).cell 2 (v := .int .i64 x.b) rfl; have a3 := (hX.below hS hXlt).cell 3 (v := .int .i64 x.r) rfl; have a4 := (hX.below hS hXlt).cell 4 (v := .int .i64 x.d) rfl; have a5 := (hX.below hS hXlt).cell 5 (v := .int .i64 x.e) rfl; have a6 := (hX.below hS hXlt).cell 6 (v := .int .i64 x.s) rfl; have a7 := (hX.below hS hXlt).cell 7 (v := .int .i64 x.p) rfl; have a8 := (hX.below hS hXlt).cell 8 (v := .int .i64 x.q) rfl; have a9 := (hX.below hS hXlt).cell 9 (v := .int .i64 x.t) rfl; have a10 := (hX.below hS hXlt).cell 10 (v := .slice A n c) rfl; first | (refine Free.run_yes (by rfl) ?_; go_simp; refine Free.o hK hS ?_; exact rfl) | (refine Free.run_no (by rfl) (Free.o hK hS ?_); exact rfl)
  exact Free.nil
  clear hvo
  intro w' hS; intro v0; intro v1; intro v2; intro v3; intro v4; intro v5; intro v6; intro v7; intro v8; intro v9; intro v10; intro v11; intro v12; (rintro _ rfl); (try simp only [Act.put, List.setIfInBounds_toArray, List.set_cons_zero, List.set_cons_succ]); refine Free.toldE_nil ?_
  go_wp2
  go_ret
  exact ⟨rfl, bnext bb hS⟩
set_option maxHeartbeats 1000000 in
set_option maxRecDepth 100000 in
theorem ref_fulllen (x : Cfg) (A : Option Addr) (n c : Nat) (w : World) (h : x.B) : Calls Try.prog 46 #[.agg #[.int .i64 x.h, .int .i64 x.z, .int .i64 x.b, .int .i64 x.r, .int .i64 x.d, .int .i64 x.e, .int .i64 x.s, .int .i64 x.p, .int .i64 x.q, .int .i64 x.t, .slice A n c]] w fun e w' => e = .returned (.int .i64 (fullLenC x)) ∧ Below w.heap.size w w' := by
  have HB := Lib.hid (fun w => ref_buckets x.h w h.h.1 h.h.2)
  have r0 := leavesC_range' x.h h.h.1 h.h.2
  have HT := Lib.hid (fun w => ref_stash x A n c w h)
  have r2 := stashC_range h
  have he := h.b
  have hd : fullLenC x = 11 + 5 * x.b + 1 + 11 * x.b + (2 * leavesC x.h - 1 + 7) / 8 + stashC x := by unfold fullLenC cells8; omega
  rw [hd]
  clear h hd
  generalize leavesC x.h = l at *
  have e1 : (2 * l - 1 + 7).tdiv 8 = (2 * l - 1 + 7) / 8 := Int.tdiv_eq_ediv_of_nonneg (by omega)
  have w0 : IntKind.i64.wrap (2 * l - 1 + 7) = 2 * l - 1 + 7 := IntWalk.i64_in _ (by omega)
  have d1 : 1 ≤ (2 * l - 1 + 7) / 8 ∧ (2 * l - 1 + 7) / 8 ≤ 100 := by omega
  generalize (2 * l - 1 + 7) / 8 = s at *
  have w00 : IntKind.i64.wrap s = s := IntWalk.i64_in _ (by omega)
  generalize stashC x = k at *
  have w1 : IntKind.i64.wrap (5 * x.b) = 5 * x.b := IntWalk.i64_in _ (by omega)
  have w2 : IntKind.i64.wrap (11 * x.b) = 11 * x.b := IntWalk.i64_in _ (by omega)
  have w3 : IntKind.i64.wrap (11 + 5 * x.b) = 11 + 5 * x.b := IntWalk.i64_in _ (by omega)
  have w4 : IntKind.i64.wrap (11 + 5 * x.b + 1) = 11 + 5 * x.b + 1 := IntWalk.i64_in _ (by omega)
  have w5 : IntKind.i64.wrap (11 + 5 * x.b + 1 + 11 * x.b) = 11 + 5 * x.b + 1 + 11 * x.b := IntWalk.i64_in _ (by omega)
  have w6 : IntKind.i64.wrap (11 + 5 * x.b + 1 + 11 * x.b + s) = 11 + 5 * x.b + 1 + 11 * x.b + s := IntWalk.i64_in _ (by omega)
  have w7 : IntKind.i64.wrap (11 + 5 * x.b + 1 + 11 * x.b + s + k) = 11 + 5 * x.b + 1 + 11 * x.b + s + k := IntWalk.i64_in _ (by omega)
  have hX0 := Blk.new w #[.int .i64 x.h, .int .i64 x.z, .int .i64 x.b, .int .i64 x.r, .int .i64 x.d, .int .i64 x.e, .int .i64 x.s, .int .i64 x.p, .int .i64 x.q, .int .i64 x.t, .slice A n c] 24
  have bb : Below w.heap.size w (w.alloc (.cells #[.int .i64 x.h, .int .i64 x.z, .int .i64 x.b, .int .i64 x.r, .int .i64 x.d, .int .i64 x.e, .int .i64 x.s, .int .i64 x.p, .int .i64 x.q, .int .i64 x.t, .slice A n c] 24)) := (by repeat (first | exact Below.refl _ _ | assumption | apply below_drewN' | apply Below.drew | refine Below.alloc ?_ (by first | omega | (simp; done) | (simp; omega)) _ | refine Below.setCell ?_ (by first | omega | (simp; done) | (simp; omega)) _))
  go_enter Try.func46, Try.ntmps46
  go_wp2_with fail
  generalize w.alloc (.cells #[.int .i64 x.h, .int .i64 x.z, .int .i64 x.b, .int .i64 x.r, .int .i64 x.d, .int .i64 x.e, .int .i64 x.s, .int .i64 x.p, .int .i64 x.q, .int .i64 x.t, .slice A n c] 24) = W1 at *
  have hX := hX0
  clear hX0
  have hXlt := hX.lt
  have keep := fun {w' w'' : World} (h : Below W1.heap.size W1 w') (hb : Below w'.heap.size w' w'') => bnext h hb
  have hvo := Free.val
  refine Free.wp_facts (M := [0, 1, 3, 7, 15, 0, 32, 96, 255, 0, 512, 1536, 3584, 7680, 16383, 0, 36352, 131071, 262143]) (D := [[], [(0, 3)], [(1, 4)], [(2, 5)], [(3, 6)], [], [(5, 8)], [(6, 9)], [(4, 7), (7, 10)], [], [(9, 12)], [(10, 13)], [(11, 14)], [(12, 15)], [(8, 11), (13, 16)], [], [(15, 18)], [(14, 17), (16, 19)], [(17, 20)]]) (outs := [18]) (soles := []) (E := [(0, 3, false), (1, 4, false), (2, 5, false), (3, 6, false), (4, 7, false), (5, 8, false), (6, 9, false), (7, 10, false), (8, 11, false), (9, 12, false), (10, 13, false), (11, 14, false), (12, 15, false), (13, 16, false), (14, 17, false), (15, 18, false), (16, 19, false), (17, 20, false), (18, 2, true)]) (N := 21) (S := (fun w' => Below W1.heap.size W1 w')) [Free.Fact.is ?_, Free.Fact.is ?_, Free.Fact.is ?_, Free.Fact.is ?_, Free.Fact.is ?_, Free.Fact.is ?_, Free.Fact.is ?_, Free.Fact.is ?_, Free.Fact.is ?_, Free.Fact.is ?_, Free.Fact.is ?_, Free.Fact.is ?_, Free.Fact.is ?_, Free.Fact.is ?_, Free.Fact.is ?_, Free.Fact.is ?_, Free.Fact.is ?_, Free.Fact.is ?_, Free.Fact.is ?_] (by kernel_rfl) (by kernel_rfl) rfl ((Below.refl _ _).drew) ?_ ?_
  rotate_left 19
  refine Free.cons ?_ ?_
  · intro w' hS; intro K hK; have a0 := (hX.below hS hXlt).cell 0 (v := .int .i64 x.h) rfl; have a1 := (hX.below hS hXlt).cell 1 (v := .int .i64 x.z) rfl; have a2 := (hX.below hS hXlt).cell 2 (v := .int .i64 x.b) rfl; have a3 := (hX.below hS hXlt).cell 3 (v := .int .i64 x.r) rfl; have a4 := (hX.below hS hXlt).cell 4 (v := .int .i64 x.d) rfl; have a5 := (hX.below hS hXlt).cell 5 (v := .int .i64 x.e) rfl; have a6 := (hX.below hS hXlt).cell 6 (v := .int .i64 x.s) rfl; have a7 := (hX.below hS hXlt).cell 7 (v := .int .i64 x.p) rfl; have a8 := (hX.below hS hXlt).cell 8 (v := .int .i64 x.q) rfl; have a9 := (hX.below hS hXlt).cell 9 (v := .int .i64 x.t) rfl; have a10 := (hX.below hS hXlt).cell 10 (v := .slice A n c) rfl; first | (refine Free.run_yes (by rfl) ?_; go_simp; refine Free.o hK hS ?_; exact rfl) | (refine Free.run_no (by rfl) (Free.o hK hS ?_); exact rfl)
  refine Free.cons ?_ ?_
  · intro w' hS; (rintro _ rfl); intro K hK; have a0 := (hX.below hS hXlt).cell 0 (v := .int .i64 x.h) rfl; have a1 := (hX.below hS hXlt).cell 1 (v := .int .i64 x.z) rfl; have a2 := (hX.below hS hXlt).cell 2 (v := .int .i64 x.b) rfl; have a3 := (hX.below hS hXlt).cell 3 (v := .int .i64 x.r) rfl; have a4 := (hX.below hS hXlt).cell 4 (v := .int .i64 x.d) rfl; have a5 := (hX.below hS hXlt).cell 5 (v := .int .i64 x.e) rfl; have a6 := (hX.below hS hXlt).cell 6 (v := .int .i64 x.s) rfl; have a7 := (hX.below hS hXlt).cell 7 (v := .int .i64 x.p) rfl; have a8 := (hX.below hS hXlt).cell 8 (v := .int .i64 x.q) rfl; have a9 := (hX.below hS hXlt).cell 9 (v := .int .i64 x.t) rfl; have a10 := (hX.below hS hXlt).cell 10 (v := .slice A n c) rfl; first | (refine Free.run_yes (by rfl) ?_; go_simp; refine Free.o hK hS ?_; exact rfl) | (refine Free.run_no (by rfl) (Free.o hK hS ?_); exact rfl)
  refine Free.cons ?_ ?_
  · intro w' hS; (rintro _ rfl); intro K hK; have a0 := (hX.below hS hXlt).cell 0 (v := .int .i64 x.h) rfl; have a1 := (hX.below hS hXlt).cell 1 (v := .int .i64 x.z) rfl; have a2 := (hX.below hS hXlt).cell 2 (v := .int .i64 x.b) rfl; have a3 := (hX.below hS hXlt).cell 3 (v := .int .i64 x.r) rfl; have a4 := (hX.below hS hXlt).cell 4 (v := .int .i64 x.d) rfl; have a5 := (hX.below hS hXlt).cell 5 (v := .int .i64 x.e) rfl; have a6 := (hX.below hS hXlt).cell 6 (v := .int .i64 x.s) rfl; have a7 := (hX.below hS hXlt).cell 7 (v := .int .i64 x.p) rfl; have a8 := (hX.below hS hXlt).cell 8 (v := .int .i64 x.q) rfl; have a9 := (hX.below hS hXlt).cell 9 (v := .int .i64 x.t) rfl; have a10 := (hX.below hS hXlt).cell 10 (v := .slice A n c) rfl; first | (refine Free.run_yes (by rfl) ?_; go_simp; refine Free.o hK hS ?_; exact rfl) | (refine Free.run_no (by rfl) (Free.o hK hS ?_); exact rfl)
  refine Free.cons ?_ ?_
  · intro w' hS; (rintro _ rfl); intro K hK; have a0 := (hX.below hS hXlt).cell 0 (v := .int .i64 x.h) rfl; have a1 := (hX.below hS hXlt).cell 1 (v := .int .i64 x.z) rfl; have a2 := (hX.below hS hXlt).cell 2 (v := .int .i64 x.b) rfl; have a3 := (hX.below hS hXlt).cell 3 (v := .int .i64 x.r) rfl; have a4 := (hX.below hS hXlt).cell 4 (v := .int .i64 x.d) rfl; have a5 := (hX.below hS hXlt).cell 5 (v := .int .i64 x.e) rfl; have a6 := (hX.below hS hXlt).cell 6 (v := .int .i64 x.s) rfl; have a7 := (hX.below hS hXlt).cell 7 (v := .int .i64 x.p) rfl; have a8 := (hX.below hS hXlt).cell 8 (v := .int .i64 x.q) rfl; have a9 := (hX.below hS hXlt).cell 9 (v := .int .i64 x.t) rfl; have a10 := (hX.below hS hXlt).cell 10 (v := .slice A n c) rfl; first | (refine Free.run_yes (by rfl) ?_; go_simp; refine Free.o hK hS ?_; exact rfl) | (refine Free.run_no (by rfl) (Free.o hK hS ?_); exact rfl)
  refine Free.cons ?_ ?_
  · intro w' hS; (rintro _ rfl); intro K hK; have a0 := (hX.below hS hXlt).cell 0 (v := .int .i64 x.h) rfl; have a1 := (hX.below hS hXlt).cell 1 (v := .int .i64 x.z) rfl; have a2 := (hX.below hS hXlt).cell 2 (v := .int .i64 x.b) rfl; have a3 := (hX.below hS hXlt).cell 3 (v := .int .i64 x.r) rfl; have a4 := (hX.below hS hXlt).cell 4 (v := .int .i64 x.d) rfl; have a5 := (hX.below hS hXlt).cell 5 (v := .int .i64 x.e) rfl; have a6 := (hX.below hS hXlt).cell 6 (v := .int .i64 x.s) rfl; have a7 := (hX.below hS hXlt).cell 7 (v := .int .i64 x.p) rfl; have a8 := (hX.below hS hXlt).cell 8 (v := .int .i64 x.q) rfl; have a9 := (hX.below hS hXlt).cell 9 (v := .int .i64 x.t) rfl; have a10 := (hX.below hS hXlt).cell 10 (v := .slice A n c) rfl; first | (refine Free.run_yes (by rfl) ?_; go_simp; refine Free.o hK hS ?_; exact rfl) | (refine Free.run_no (by rfl) (Free.o hK hS ?_); exact rfl)
  refine Free.cons ?_ ?_
  · intro w' hS; intro K hK; have a0 := (hX.below hS hXlt).cell 0 (v := .int .i64 x.h) rfl; have a1 := (hX.below hS hXlt).cell 1 (v := .int .i64 x.z) rfl; have a2 := (hX.below hS hXlt).cell 2 (v := .int .i64 x.b) rfl; have a3 := (hX.below hS hXlt).cell 3 (v := .int .i64 x.r) rfl; have a4 := (hX.below hS hXlt).cell 4 (v := .int .i64 x.d) rfl; have a5 := (hX.below hS hXlt).cell 5 (v := .int .i64 x.e) rfl; have a6 := (hX.below hS hXlt).cell 6 (v := .int .i64 x.s) rfl; have a7 := (hX.below hS hXlt).cell 7 (v := .int .i64 x.p) rfl; have a8 := (hX.below hS hXlt).cell 8 (v := .int .i64 x.q) rfl; have a9 := (hX.below hS hXlt).cell 9 (v := .int .i64 x.t) rfl; have a10 := (hX.below hS hXlt).cell 10 (v := .slice A n c) rfl; first | (refine Free.run_yes (by rfl) ?_; go_simp; refine Free.o hK hS ?_; exact rfl) | (refine Free.run_no (by rfl) (Free.o hK hS ?_); exact rfl)
  refine Free.cons ?_ ?_
  · intro w' hS; (rintro _ rfl); intro K hK; have a0 := (hX.below hS hXlt).cell 0 (v := .int .i64 x.h) rfl; have a1 := (hX.below hS hXlt).cell 1 (v := .int .i64 x.z) rfl; have a2 := (hX.below hS hXlt).cell 2 (v := .int .i64 x.b) rfl; have a3 := (hX.below hS hXlt).cell 3 (v := .int .i64 x.r) rfl; have a4 := (hX.below hS hXlt).cell 4 (v := .int .i64 x.d) rfl; have a5 := (hX.below hS hXlt).cell 5 (v := .int .i64 x.e) rfl; have a6 := (hX.below hS hXlt).cell 6 (v := .int .i64 x.s) rfl; have a7 := (hX.below hS hXlt).cell 7 (v := .int .i64 x.p) rfl; have a8 := (hX.below hS hXlt).cell 8 (v := .int .i64 x.q) rfl; have a9 := (hX.below hS hXlt).cell 9 (v := .int .i64 x.t) rfl; have a10 := (hX.below hS hXlt).cell 10 (v := .slice A n c) rfl; first | (refine Free.run_yes (by rfl) ?_; go_simp; refine Free.o hK hS ?_; exact rfl) | (refine Free.run_no (by rfl) (Free.o hK hS ?_); exact rfl)
  refine Free.cons ?_ ?_
  · intro w' hS; (rintro _ rfl); intro K hK; have a0 := (hX.below hS hXlt).cell 0 (v := .int .i64 x.h) rfl; have a1 := (hX.below hS hXlt).cell 1 (v := .int .i64 x.z) rfl; have a2 := (hX.below hS hXlt).cell 2 (v := .int .i64 x.b) rfl; have a3 := (hX.below hS hXlt).cell 3 (v := .int .i64 x.r) rfl; have a4 := (hX.below hS hXlt).cell 4 (v := .int .i64 x.d) rfl; have a5 := (hX.below hS hXlt).cell 5 (v := .int .i64 x.e) rfl; have a6 := (hX.below hS hXlt).cell 6 (v := .int .i64 x.s) rfl; have a7 := (hX.below hS hXlt).cell 7 (v := .int .i64 x.p) rfl; have a8 := (hX.below hS hXlt).cell 8 (v := .int .i64 x.q) rfl; have a9 := (hX.below hS hXlt).cell 9 (v := .int .i64 x.t) rfl; have a10 := (hX.below hS hXlt).cell 10 (v := .slice A n c) rfl; first | (refine Free.run_yes (by rfl) ?_; go_simp; refine Free.o hK hS ?_; exact rfl) | (refine Free.run_no (by rfl) (Free.o hK hS ?_); exact rfl)
  refine Free.cons ?_ ?_
  · intro w' hS; (rintro _ rfl); (rintro _ rfl); intro K hK; have a0 := (hX.below hS hXlt).cell 0 (v := .int .i64 x.h) rfl; have a1 := (hX.below hS hXlt).cell 1 (v := .int .i64 x.z) rfl; have a2 := (hX.below hS hXlt).cell 2 (v := .int .i64 x.b) rfl; have a3 := (hX.below hS hXlt).cell 3 (v := .int .i64 x.r) rfl; have a4 := (hX.below hS hXlt).cell 4 (v := .int .i64 x.d) rfl; have a5 := (hX.below hS hXlt).cell 5 (v := .int .i64 x.e) rfl; have a6 := (hX.below hS hXlt).cell 6 (v := .int .i64 x.s) rfl; have a7 := (hX.below hS hXlt).cell 7 (v := .int .i64 x.p) rfl; have a8 := (hX.below hS hXlt).cell 8 (v := .int .i64 x.q) rfl; have a9 := (hX.below hS hXlt).cell 9 (v := .int .i64 x.t) rfl; have a10 := (hX.below hS hXlt).cell 10 (v := .slice A n c) rfl; first | (refine Free.run_yes (by rfl) ?_; go_simp; refine Free.o hK hS ?_; exact rfl) | (refine Free.run_no (by rfl) (Free.o hK hS ?_); exact rfl)
  refine Free.cons ?_ ?_
  · intro w' hS; intro K hK; have a0 := (hX.below hS hXlt).cell 0 (v := .int .i64 x.h) rfl; have a1 := (hX.below hS hXlt).cell 1 (v := .int .i64 x.z) rfl; have a2 := (hX.below hS hXlt).cell 2 (v := .int .i64 x.b) rfl; have a3 := (hX.below hS hXlt).cell 3 (v := .int .i64 x.r) rfl; have a4 := (hX.below hS hXlt).cell 4 (v := .int .i64 x.d) rfl; have a5 := (hX.below hS hXlt).cell 5 (v := .int .i64 x.e) rfl; have a6 := (hX.below hS hXlt).cell 6 (v := .int .i64 x.s) rfl; have a7 := (hX.below hS hXlt).cell 7 (v := .int .i64 x.p) rfl; have a8 := (hX.below hS hXlt).cell 8 (v := .int .i64 x.q) rfl; have a9 := (hX.below hS hXlt).cell 9 (v := .int .i64 x.t) rfl; have a10 := (hX.below hS hXlt).cell 10 (v := .slice A n c) rfl; first | (refine Free.run_yes (by rfl) ?_; go_simp; refine Free.o hK hS ?_; exact rfl) | (refine Free.run_no (by rfl) (Free.o hK hS ?_); exact rfl)
  refine Free.cons ?_ ?_
  · intro w' hS; (rintro _ rfl); intro K hK; have a0 := (hX.below hS hXlt).cell 0 (v := .int .i64 x.h) rfl; have a1 := (hX.below hS hXlt).cell 1 (v := .int .i64 x.z) rfl; have a2 := (hX.below hS hXlt).cell 2 (v := .int .i64 x.b) rfl; have a3 := (hX.below hS hXlt).cell 3 (v := .int .i64 x.r) rfl; have a4 := (hX.below hS hXlt).cell 4 (v := .int .i64 x.d) rfl; have a5 := (hX.below hS hXlt).cell 5 (v := .int .i64 x.e) rfl; have a6 := (hX.below hS hXlt).cell 6 (v := .int .i64 x.s) rfl; have a7 := (hX.below hS hXlt).cell 7 (v := .int .i64 x.p) rfl; have a8 := (hX.below hS hXlt).cell 8 (v := .int .i64 x.q) rfl; have a9 := (hX.below hS hXlt).cell 9 (v := .int .i64 x.t) rfl; have a10 := (hX.below hS hXlt).cell 10 (v := .slice A n c) rfl; first | (refine Free.run_yes (by rfl) ?_; go_simp; refine Free.o hK hS ?_; exact rfl) | (refine Free.run_no (by rfl) (Free.o hK hS ?_); exact rfl)
  refine Free.cons ?_ ?_
  · intro w' hS; (rintro _ rfl); intro K hK; have a0 := (hX.below hS hXlt).cell 0 (v := .int .i64 x.h) rfl; have a1 := (hX.below hS hXlt).cell 1 (v := .int .i64 x.z) rfl; have a2 := (hX.below hS hXlt).cell 2 (v := .int .i64 x.b) rfl; have a3 := (hX.below hS hXlt).cell 3 (v := .int .i64 x.r) rfl; have a4 := (hX.below hS hXlt).cell 4 (v := .int .i64 x.d) rfl; have a5 := (hX.below hS hXlt).cell 5 (v := .int .i64 x.e) rfl; have a6 := (hX.below hS hXlt).cell 6 (v := .int .i64 x.s) rfl; have a7 := (hX.below hS hXlt).cell 7 (v := .int .i64 x.p) rfl; have a8 := (hX.below hS hXlt).cell 8 (v := .int .i64 x.q) rfl; have a9 := (hX.below hS hXlt).cell 9 (v := .int .i64 x.t) rfl; have a10 := (hX.below hS hXlt).cell 10 (v := .slice A n c) rfl; first | (refine Free.run_yes (by rfl) ?_; go_simp; (first | (go_at_call 85; refine (HB.out _).mono ?_; rintro e w' ⟨rfl, hb⟩) | (go_at_call 83; refine (HT.out _).mono ?_; rintro e w' ⟨rfl, hb⟩)); go_simp; refine Free.c hK (keep hS hb) hb ?_; exact rfl) | (refine Free.run_no (by rfl) (Free.o hK hS ?_); exact rfl)
  refine Free.cons ?_ ?_
  · intro w' hS; (rintro _ rfl); intro K hK; have a0 := (hX.below hS hXlt).cell 0 (v := .int .i64 x.h) rfl; have a1 := (hX.below hS hXlt).cell 1 (v := .int .i64 x.z) rfl; have a2 := (hX.below hS hXlt).cell 2 (v := .int .i64 x.b) rfl; have a3 := (hX.below hS hXlt).cell 3 (v := .int .i64 x.r) rfl; have a4 := (hX.below hS hXlt).cell 4 (v := .int .i64 x.d) rfl; have a5 := (hX.below hS hXlt).cell 5 (v := .int .i64 x.e) rfl; have a6 := (hX.below hS hXlt).cell 6 (v := .int .i64 x.s) rfl; have a7 := (hX.below hS hXlt).cell 7 (v := .int .i64 x.p) rfl; have a8 := (hX.below hS hXlt).cell 8 (v := .int .i64 x.q) rfl; have a9 := (hX.below hS hXlt).cell 9 (v := .int .i64 x.t) rfl; have a10 := (hX.below hS hXlt).cell 10 (v := .slice A n c) rfl; first | (refine Free.run_yes (by rfl) ?_; go_simp; refine Free.o hK hS ?_; exact rfl) | (refine Free.run_no (by rfl) (Free.o hK hS ?_); exact rfl)
  refine Free.cons ?_ ?_
  · intro w' hS; (rintro _ rfl); intro K hK; have a0 := (hX.below hS hXlt).cell 0 (v := .int .i64 x.h) rfl; have a1 := (hX.below hS hXlt).cell 1 (v := .int .i64 x.z) rfl; have a2 := (hX.below hS hXlt).cell 2 (v := .int .i64 x.b) rfl; have a3 := (hX.below hS hXlt).cell 3 (v := .int .i64 x.r) rfl; have a4 := (hX.below hS hXlt).cell 4 (v := .int .i64 x.d) rfl; have a5 := (hX.below hS hXlt).cell 5 (v := .int .i64 x.e) rfl; have a6 := (hX.below hS hXlt).cell 6 (v := .int .i64 x.s) rfl; have a7 := (hX.below hS hXlt).cell 7 (v := .int .i64 x.p) rfl; have a8 := (hX.below hS hXlt).cell 8 (v := .int .i64 x.q) rfl; have a9 := (hX.below hS hXlt).cell 9 (v := .int .i64 x.t) rfl; have a10 := (hX.below hS hXlt).cell 10 (v := .slice A n c) rfl; first | (refine Free.run_yes (by rfl) ?_; go_simp; refine Free.o hK hS ?_; exact rfl) | (refine Free.run_no (by rfl) (Free.o hK hS ?_); exact rfl)
  refine Free.cons ?_ ?_
  · intro w' hS; (rintro _ rfl); (rintro _ rfl); intro K hK; have a0 := (hX.below hS hXlt).cell 0 (v := .int .i64 x.h) rfl; have a1 := (hX.below hS hXlt).cell 1 (v := .int .i64 x.z) rfl; have a2 := (hX.below hS hXlt).cell 2 (v := .int .i64 x.b) rfl; have a3 := (hX.below hS hXlt).cell 3 (v := .int .i64 x.r) rfl; have a4 := (hX.below hS hXlt).cell 4 (v := .int .i64 x.d) rfl; have a5 := (hX.below hS hXlt).cell 5 (v := .int .i64 x.e) rfl; have a6 := (hX.below hS hXlt).cell 6 (v := .int .i64 x.s) rfl; have a7 := (hX.below hS hXlt).cell 7 (v := .int .i64 x.p) rfl; have a8 := (hX.below hS hXlt).cell 8 (v := .int .i64 x.q) rfl; have a9 := (hX.below hS hXlt).cell 9 (v := .int .i64 x.t) rfl; have a10 := (hX.below hS hXlt).cell 10 (v := .slice A n c) rfl; first | (refine Free.run_yes (by rfl) ?_; go_simp; refine Free.o hK hS ?_; exact rfl) | (refine Free.run_no (by rfl) (Free.o hK hS ?_); exact rfl)
  refine Free.cons ?_ ?_
  · intro w' hS; intro K hK; have a0 := (hX.below hS hXlt).cell 0 (v := .int .i64 x.h) rfl; have a1 := (hX.below hS hXlt).cell 1 (v := .int .i64 x.z) rfl; have a2 := (hX.below hS hXlt).cell 2 (v := .int .i64 x.b) rfl; have a3 := (hX.below hS hXlt).cell 3 (v := .int .i64 x.r) rfl; have a4 := (hX.below hS hXlt).cell 4 (v := .int .i64 x.d) rfl; have a5 := (hX.below hS hXlt).cell 5 (v := .int .i64 x.e) rfl; have a6 := (hX.below hS hXlt).cell 6 (v := .int .i64 x.s) rfl; have a7 := (hX.below hS hXlt).cell 7 (v := .int .i64 x.p) rfl; have a8 := (hX.below hS hXlt).cell 8 (v := .int .i64 x.q) rfl; have a9 := (hX.below hS hXlt).cell 9 (v := .int .i64 x.t) rfl; have a10 := (hX.below hS hXlt).cell 10 (v := .slice A n c) rfl; first | (refine Free.run_yes (by rfl) ?_; go_simp; refine Free.o hK hS ?_; exact rfl) | (refine Free.run_no (by rfl) (Free.o hK hS ?_); exact rfl)
  refine Free.cons ?_ ?_
  · intro w' hS; (rintro _ rfl); intro K hK; have a0 := (hX.below hS hXlt).cell 0 (v := .int .i64 x.h) rfl; have a1 := (hX.below hS hXlt).cell 1 (v := .int .i64 x.z) rfl; have a2 := (hX.below hS hXlt).cell 2 (v := .int .i64 x.b) rfl; have a3 := (hX.below hS hXlt).cell 3 (v := .int .i64 x.r) rfl; have a4 := (hX.below hS hXlt).cell 4 (v := .int .i64 x.d) rfl; have a5 := (hX.below hS hXlt).cell 5 (v := .int .i64 x.e) rfl; have a6 := (hX.below hS hXlt).cell 6 (v := .int .i64 x.s) rfl; have a7 := (hX.below hS hXlt).cell 7 (v := .int .i64 x.p) rfl; have a8 := (hX.below hS hXlt).cell 8 (v := .int .i64 x.q) rfl; have a9 := (hX.below hS hXlt).cell 9 (v := .int .i64 x.t) rfl; have a10 := (hX.below hS hXlt).cell 10 (v := .slice A n c) rfl; first | (refine Free.run_yes (by rfl) ?_; go_simp; (first | (go_at_call 85; refine (HB.out _).mono ?_; rintro e w' ⟨rfl, hb⟩) | (go_at_call 83; refine (HT.out _).mono ?_; rintro e w' ⟨rfl, hb⟩)); go_simp; refine Free.c hK (keep hS hb) hb ?_; exact rfl) | (refine Free.run_no (by rfl) (Free.o hK hS ?_); exact rfl)
  refine Free.cons ?_ ?_
  · intro w' hS; (rintro _ rfl); (rintro _ rfl); intro K hK; have a0 := (hX.below hS hXlt).cell 0 (v := .int .i64 x.h) rfl; have a1 := (hX.below hS hXlt).cell 1 (v := .int .i64 x.z) rfl; have a2 := (hX.below hS hXlt).cell 2 (v := .int .i64 x.b) rfl; have a3 := (hX.below hS hXlt).cell 3 (v := .int .i64 x.r) rfl; have a4 := (hX.below hS hXlt).cell 4 (v := .int .i64 x.d) rfl; have a5 := (hX.below hS hXlt).cell 5 (v := .int .i64 x.e) rfl; have a6 := (hX.below hS hXlt).cell 6 (v := .int .i64 x.s) rfl; have a7 := (hX.below hS hXlt).cell 7 (v := .int .i64 x.p) rfl; have a8 := (hX.below hS hXlt).cell 8 (v := .int .i64 x.q) rfl; have a9 := (hX.below hS hXlt).cell 9 (v := .int .i64 x.t) rfl; have a10 := (hX.below hS hXlt).cell 10 (v := .slice A n c) rfl; first | (refine Free.run_yes (by rfl) ?_; go_simp; refine Free.o hK hS ?_; exact rfl) | (refine Free.run_no (by rfl) (Free.o hK hS ?_); exact rfl)
  refine Free.cons ?_ ?_
  · intro w' hS; (rintro _ rfl); intro K hK; have a0 := (hX.below hS hXlt).cell 0 (v := .int .i64 x.h) rfl; have a1 := (hX.below hS hXlt).cell 1 (v := .int .i64 x.z) rfl; have a2 := (hX.below hS hXlt).cell 2 (v := .int .i64 x.b) rfl; have a3 := (hX.below hS hXlt).cell 3 (v := .int .i64 x.r) rfl; have a4 := (hX.below hS hXlt).cell 4 (v := .int .i64 x.d) rfl; have a5 := (hX.below hS hXlt).cell 5 (v := .int .i64 x.e) rfl; have a6 := (hX.below hS hXlt).cell 6 (v := .int .i64 x.s) rfl; have a7 := (hX.below hS hXlt).cell 7 (v := .int .i64 x.p) rfl; have a8 := (hX.below hS hXlt).cell 8 (v := .int .i64 x.q) rfl; have a9 := (hX.below hS hXlt).cell 9 (v := .int .i64 x.t) rfl; have a10 := (hX.below hS hXlt).cell 10 (v := .slice A n c) rfl; first | (refine Free.run_yes (by rfl) ?_; go_simp; refine Free.o hK hS ?_; exact rfl) | (refine Free.run_no (by rfl) (Free.o hK hS ?_); exact rfl)
  exact Free.nil
  clear hvo
  intro w' hS; intro v0; intro v1; intro v2; intro v3; intro v4; intro v5; intro v6; intro v7; intro v8; intro v9; intro v10; intro v11; intro v12; intro v13; intro v14; intro v15; intro v16; intro v17; (rintro _ rfl); (try simp only [Act.put, List.setIfInBounds_toArray, List.set_cons_zero, List.set_cons_succ]); refine Free.toldE_nil ?_
  go_wp2
  go_ret
  exact ⟨rfl, bnext bb hS⟩
theorem ref_cells (x : Cfg) (A : Option Addr) (n c : Nat) (l : Int) (w : World) (h : x.B) (l0 : 1 ≤ l) (l1 : l ≤ 100000) : Calls Try.prog 86 #[.agg #[.int .i64 x.h, .int .i64 x.z, .int .i64 x.b, .int .i64 x.r, .int .i64 x.d, .int .i64 x.e, .int .i64 x.s, .int .i64 x.p, .int .i64 x.q, .int .i64 x.t, .slice A n c], .int .i64 l] w fun e w' => e = .returned (.int .i64 (cellsC x l)) ∧ Below w.heap.size w w' := by
  have HP := Lib.hid (fun w => ref_payload x A n c w h)
  have hz := h.z
  have HC := Lib.hid (fun w => ref_cells2 l (x.z * 38) w l0 (by omega) (by omega) (by omega))
  unfold cellsC
  clear h
  generalize (l - 1) / (x.z * 38) + 1 = k at *
  generalize x.z * 38 = m at *
  have hX0 := Blk.new w #[.int .i64 x.h, .int .i64 x.z, .int .i64 x.b, .int .i64 x.r, .int .i64 x.d, .int .i64 x.e, .int .i64 x.s, .int .i64 x.p, .int .i64 x.q, .int .i64 x.t, .slice A n c] 24
  have bb : Below w.heap.size w (w.alloc (.cells #[.int .i64 x.h, .int .i64 x.z, .int .i64 x.b, .int .i64 x.r, .int .i64 x.d, .int .i64 x.e, .int .i64 x.s, .int .i64 x.p, .int .i64 x.q, .int .i64 x.t, .slice A n c] 24)) := (by repeat (first | exact Below.refl _ _ | assumption | apply below_drewN' | apply Below.drew | refine Below.alloc ?_ (by first | omega | (simp; done) | (simp; omega)) _ | refine Below.setCell ?_ (by first | omega | (simp; done) | (simp; omega)) _))
  go_enter Try.func86, Try.ntmps86
  go_wp2_with fail
  refine (HP.out _).mono ?_
  rintro e w2 ⟨rfl, hb⟩
  go_wp2_with fail
  refine (HC.out _).mono ?_
  rintro e w3 ⟨rfl, hb2⟩
  go_wp2
  go_ret
  exact ⟨rfl, bnext (bnext bb hb) hb2⟩
end Go.Proofs.Ytdmjiaicgbcodaa
