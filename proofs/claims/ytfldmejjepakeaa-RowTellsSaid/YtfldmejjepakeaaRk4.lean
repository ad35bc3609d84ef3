/- Merged: RwQ, RwR, RwT. -/
import Derived.Test.YtfldmejjepakeaaRk3
/- row.Fits, row.May, and the document's MayRow. -/
namespace Go.Proofs.Ytfldmejjepakeaa
open Go.ChangeShapes Go.WideShapes Go.ChangeAt Go.RowKit
open Go.ChangeMaps (open_string shut_string)
set_option linter.unusedVariables false
set_option linter.unusedSimpArgs false
set_option maxRecDepth 100000
open Go.Deep

theorem valmay_q (k n : Int) (l : List UInt8) (b : Bool) (w : World) (h : mayV k n l = b) : Calls Try.prog 65 #[.agg #[.int .i64 (k), .int .i64 (n), .string (str (l))]] w fun e w' => e = .returned (.bool b) ∧ Below w.heap.size w w' := by
  have := val_may k n l w
  rw [h] at this
  exact this
theorem fits_cl (k : Int) (p : ValR) (y : Bool) (w : World) (hy : fit1 k p = y) : Calls Try.prog 64 #[.int .i64 k, .agg #[.int .i64 (p.k), .int .i64 (p.n), .string (str (p.s))]] w fun e w' => e = .returned (.bool y) ∧ Below w.heap.size w w' := by
  obtain ⟨m, hm⟩ : ∃ m, mayVR p = m := ⟨_, rfl⟩
  have HM := Lib.hid (fun w => valmay_q p.k p.n p.s m w hm)
  unfold fit1 at hy
  rw [hm] at hy
  clear hm
  have bb : Below w.heap.size w (w.alloc (.cells #[.int .i64 (p.k), .int .i64 (p.n), .string (str (p.s))] 51)) := (by repeat (first | exact Below.refl _ _ | assumption | apply below_drewN' | apply Below.drew | refine Below.alloc ?_ (by first | omega | (simp; done) | (simp; omega)) _ | refine Below.setCell ?_ (by first | omega | (simp; done) | (simp; omega)) _))
  by_cases e : p.k = k
  · have e1 : (p.k == k) = true := by rw [beq_iff_eq]; exact e
    have e2 := Lib.hid (show m = y from by rw [e1] at hy; exact hy)
    clear e hy
    go_enter Try.func64, Try.ntmps64
    go_wp2_with fail
    refine (HM.out _).mono ?_
    rintro x w2 ⟨rfl, b2⟩
    go_wp2
    go_ret
    exact ⟨(show Ending.returned (.bool m) = .returned (.bool y) from by rewrite [e2.out]; rfl), Below.next bb b2 (by omega)⟩
  · have e1 : (p.k == k) = false := by rw [beq_eq_false_iff_ne]; exact e
    have e2 := Lib.hid (show false = y from by rw [e1] at hy; exact hy)
    clear hy
    go_enter Try.func64, Try.ntmps64
    go_wp2
    go_ret
    exact ⟨(show Ending.returned (.bool false) = .returned (.bool y) from by rewrite [← e2.out]; rfl), bb⟩
set_option maxHeartbeats 4000000 in
theorem eqf_fits (A : Option Addr) (n c : Nat) (K : List Int) (A2 : Option Addr) (n2 c2 : Nat) (V : List ValR) (w : World) (h : RN w A n c K) (h2 : RV w A2 n2 c2 V) :
    Calls Try.prog 63 #[.slice A n c, .slice A2 n2 c2, .func (.func 64) #[] #[]] w fun e w' => e = .returned (.bool (fitsL K V)) ∧ Below w.heap.size w w' := by
  obtain ⟨R, hR⟩ : ∃ R, fitsL K V = R := ⟨_, rfl⟩
  rw [hR]
  have hres := Lib.hid hR
  clear hR
  have hnm : n ≤ maxLen := Nat.le_trans h.cap h.max
  have hnm2 : n2 ≤ maxLen := Nat.le_trans h2.cap h2.max
  unfold maxLen at hnm hnm2
  have hKn := h.len
  have hVn := h2.len
  by_cases hl : n = n2
  rotate_left
  · have hno := Lib.hid (fits_len (K := K) (V := V) (by omega))
    have e1 : ((n : Int) != (n2 : Int)) = true := by rw [bne_iff_ne]; omega
    go_enter Try.func63, Try.ntmps63
    go_wp2
    go_ret
    exact ⟨(show Ending.returned (.bool false) = .returned (.bool R) from by rewrite [← hres.out, hno.out]; rfl), Below.refl _ _⟩
  subst hl
  go_enter Try.func63, Try.ntmps63
  go_wp2
  go_loopw [17] (fun i wr => ∃ k : Nat, k ≤ n ∧ i = .int .i64 k ∧ Below w.heap.size w wr ∧ Hid (∀ i k' v, i < k → K[i]? = some k' → V[i]? = some v → fit1 k' v = true)) (fun i _ => n - (intOf i).toNat)
  case atStart => exact ⟨0, by omega, rfl, (by repeat (first | exact Below.refl _ _ | assumption | apply below_drewN' | apply Below.drew | refine Below.alloc ?_ (by first | omega | (simp; done) | (simp; omega)) _ | refine Below.setCell ?_ (by first | omega | (simp; done) | (simp; omega)) _)), Lib.hid (fun i a b hi => absurd hi (by omega))⟩
  case round =>
    obtain ⟨k, hk, rfl, bl, hall⟩ := hrel
    by_cases hlt : k < n
    · obtain ⟨q, hq⟩ : ∃ q, K[k]? = some q := ⟨_, List.getElem?_eq_getElem (by omega)⟩
      obtain ⟨p, hp⟩ : ∃ p, V[k]? = some p := ⟨_, List.getElem?_eq_getElem (by omega)⟩
      obtain ⟨g, o, rfl, hc⟩ := (h.below bl).at_ (by omega)
      have hc0 := hc k q hq
      obtain ⟨g2, o2, rfl, hd⟩ := (h2.below bl).at_ (by omega)
      obtain ⟨hd0, hd1, hd2⟩ := hd k p hp
      have hph := Lib.hid hp
      have hqh := Lib.hid hq
      clear hc hd hp hq
      obtain ⟨r, hr⟩ : ∃ r, fit1 q p = r := ⟨_, rfl⟩
      have HS := Lib.hid (fun w => fits_cl q p r w hr)
      have hr := Lib.hid hr
      have bx : Below wr.heap.size wr (wr.alloc (.cells #[.int .i64 (p.k), .int .i64 (p.n), .string (str (p.s))] 51)) := (by repeat (first | exact Below.refl _ _ | assumption | apply below_drewN' | apply Below.drew | refine Below.alloc ?_ (by first | omega | (simp; done) | (simp; omega)) _ | refine Below.setCell ?_ (by first | omega | (simp; done) | (simp; omega)) _))
      have bl2 := Below.next bl bx (Nat.le_refl _)
      go_wp2_with fail
      refine (HS.out _).mono ?_
      rintro e w2 ⟨rfl, hb⟩
      replace bl2 := Below.next bl2 hb (Nat.le_refl _)
      clear bx hb hc0 hd0 hd1 hd2
      cases r with
      | true =>
        go_wp2
        go_roundw
        case rel =>
          refine ⟨k + 1, by omega, by go_num, bl2, Lib.hid fun i a b hi ha hb => ?_⟩
          by_cases ei : i = k
          · subst ei; rw [hqh.out] at ha; rw [hph.out] at hb; injection ha with ha; injection hb with hb; rw [← ha, ← hb]; exact hr.out
          · exact hall.out i a b (by omega) ha hb
        case measure => simp [intOf]; omega
      | false =>
        have hno := Lib.hid (fits_no hqh.out hph.out hr.out)
        go_wp2
        go_ret
        exact ⟨(show Ending.returned (.bool false) = .returned (.bool R) from by rewrite [← hres.out, hno.out]; rfl), bl2⟩
    · have hkn : n = k := by omega
      have hyes := Lib.hid (fits_yes (K := K) (V := V) (by omega) (fun i a b hi ha hb => hall.out i a b (by omega) ha hb))
      subst hkn
      go_wp2
      go_ret
      exact ⟨(show Ending.returned (.bool true) = .returned (.bool R) from by rewrite [← hres.out, hyes.out]; rfl), bl⟩
theorem row_fits (A : Option Addr) (n c : Nat) (K : List Int) (A2 : Option Addr) (n2 c2 : Nat) (V : List ValR) (w : World) (h : RN w A n c K) (h2 : RV w A2 n2 c2 V) :
    Calls Try.prog 39 #[.slice A n c, .slice A2 n2 c2] w fun e w' => e = .returned (.bool (fitsL K V)) ∧ Below w.heap.size w w' := by
  have HE := Lib.hid (fun w h h2 => eqf_fits A n c K A2 n2 c2 V w h h2)
  generalize fitsL K V = R at *
  go_enter Try.func39, Try.ntmps39
  go_wp2_with fail
  refine (HE.out _ h h2).mono ?_
  rintro x w2 ⟨rfl, b2⟩
  go_wp2
  go_ret
  exact ⟨rfl, b2⟩
/-- May a row be of the tables Z? -/
def mayRow (Z : List (List Int)) (r : RowR) : Bool := decide (0 ≤ r.t) && (decide (r.t < (Z.length : Int)) && fitsL (Z.getD r.t.toNat []) r.V)
theorem mayRow_neg {Z : List (List Int)} {t : Int} {V : List ValR} (h : t < 0) : mayRow Z ⟨t, V⟩ = false := by
  unfold mayRow
  rw [decide_eq_false (show ¬ (0 : Int) ≤ t by omega)]
  rfl
theorem mayRow_far {Z : List (List Int)} {t : Int} {V : List ValR} (h : (Z.length : Int) ≤ t) : mayRow Z ⟨t, V⟩ = false := by
  unfold mayRow
  rw [decide_eq_false (show ¬ t < (Z.length : Int) by omega), Bool.and_comm]
  rfl
theorem mayRow_in {Z : List (List Int)} {j : Nat} {z : List Int} {V : List ValR} (h : Z[j]? = some z) : mayRow Z ⟨(j : Int), V⟩ = fitsL z V := by
  have hj := (List.getElem?_eq_some_iff.1 h).1
  unfold mayRow
  rw [decide_eq_true (show (0 : Int) ≤ (j : Int) by omega), decide_eq_true (show ((j : Nat) : Int) < (Z.length : Int) by omega), List.getD_eq_getElem?_getD, Int.toNat_natCast, h]
  rfl
set_option maxHeartbeats 4000000 in
theorem row_may (A : Option Addr) (n c : Nat) (Z : List (List Int)) (t : Int) (A2 : Option Addr) (n2 c2 : Nat) (V : List ValR) (w : World) (h : RG w A n c Z) (h2 : RV w A2 n2 c2 V) :
    Calls Try.prog 36 #[.slice A n c, .agg #[.int .i64 t, .slice A2 n2 c2]] w fun e w' => e = .returned (.bool (mayRow Z ⟨t, V⟩)) ∧ Below w.heap.size w w' := by
  have hnm : n ≤ maxLen := Nat.le_trans h.cap h.max
  unfold maxLen at hnm
  have hl := h.len
  have hX := Blk.new w #[.int .i64 t, .slice A2 n2 c2] 26
  have bb : Below w.heap.size w (w.alloc (.cells #[.int .i64 t, .slice A2 n2 c2] 26)) := (by repeat (first | exact Below.refl _ _ | assumption | apply below_drewN' | apply Below.drew | refine Below.alloc ?_ (by first | omega | (simp; done) | (simp; omega)) _ | refine Below.setCell ?_ (by first | omega | (simp; done) | (simp; omega)) _))
  rcases (show t < 0 ∨ (¬ t < 0 ∧ (n : Int) ≤ t) ∨ (∃ j : Nat, t = j ∧ j < n) by
    rcases Int.lt_or_le t 0 with a | a
    · exact .inl a
    · rcases Int.lt_or_le t n with b | b
      · exact .inr (.inr ⟨t.toNat, by omega, by omega⟩)
      · exact .inr (.inl ⟨by omega, b⟩)) with i1 | ⟨i1, i2⟩ | ⟨j, rfl, hj⟩
  · have he := Lib.hid (mayRow_neg (Z := Z) (V := V) i1)
    have f1 : decide (0 ≤ t) = false := decide_eq_false (by omega)
    have f2 : decide (t ≥ 0) = false := decide_eq_false (by omega)
    go_enter Try.func36, Try.ntmps36
    go_wp2_with fail
    obtain ⟨w1, hw1⟩ : ∃ w1, w.alloc (.cells #[.int .i64 t, .slice A2 n2 c2] 26) = w1 := ⟨_, rfl⟩
    rw [hw1] at bb hX ⊢
    have x0 := hX.cell 0 (v := .int .i64 t) rfl
    have x1 := hX.cell 1 (v := .slice A2 n2 c2) rfl
    have hvo := Free.val
    refine Free.wp_facts (M := [0, 1, 3, 7, 15, 31, 15, 79, 255, 511, 1023, 2047, 2047, 6143, 16383, 32767, 2047, 67583, 262143, 524287, 1048575]) (D := [[], [(0, 5)], [(1, 6)], [(2, 7)], [(3, 8)], [(4, 9), (3, 8)], [(3, 8)], [(6, 11), (3, 8)], [(5, 10), (7, 12), (3, 8)], [(3, 8), (8, 13)], [(9, 14)], [(10, 15)], [(10, 15)], [(12, 17), (10, 15)], [(11, 16), (13, 18), (10, 15)], [(14, 19), (10, 15)], [(10, 15)], [(16, 21), (10, 15)], [(15, 20), (17, 22), (10, 15)], [(10, 15), (18, 23)], [(19, 24)]]) (outs := [20]) (soles := []) (E := [(0, 5, false), (1, 6, false), (2, 7, false), (3, 8, false), (4, 9, false), (5, 10, false), (6, 11, false), (7, 12, false), (8, 13, false), (9, 14, false), (10, 15, false), (11, 16, false), (12, 17, false), (13, 18, false), (14, 19, false), (15, 20, false), (16, 21, false), (17, 22, false), (18, 23, false), (19, 24, false), (20, 4, true)]) (N := 25) (S := (fun w' => Below w1.heap.size w1 w')) [Free.Fact.is ?_, Free.Fact.is ?_, Free.Fact.is ?_, Free.Fact.is ?_, Free.Fact.is ?_, Free.Fact.is ?_, Free.Fact.is ?_, Free.Fact.is ?_, Free.Fact.is ?_, Free.Fact.is ?_, Free.Fact.is ?_, Free.Fact.is ?_, Free.Fact.is ?_, Free.Fact.is ?_, Free.Fact.is ?_, Free.Fact.is ?_, Free.Fact.is ?_, Free.Fact.is ?_, Free.Fact.is ?_, Free.Fact.is ?_, Free.Fact.is ?_] (by kernel_rfl) (by kernel_rfl) rfl ((Below.refl _ _).drew) ?_ ?_
    rotate_left 21
    refine Free.cons ?_ ?_
    · intro w' hS; intro K hK; have k0 := (hS.cell (p := ⟨w.heap.size, 0, none⟩) hX.lt).trans x0; have k1 := (hS.cell (p := ⟨w.heap.size, 1, none⟩) hX.lt).trans x1; first | (refine Free.run_yes (by rfl) ?_; go_simp; refine Free.o hK hS ?_; exact rfl) | (refine Free.run_no (by rfl) (Free.o hK hS ?_); exact rfl)
    refine Free.cons ?_ ?_
    · intro w' hS; (rintro _ rfl); intro K hK; have k0 := (hS.cell (p := ⟨w.heap.size, 0, none⟩) hX.lt).trans x0; have k1 := (hS.cell (p := ⟨w.heap.size, 1, none⟩) hX.lt).trans x1; first | (refine Free.run_yes (by rfl) ?_; go_simp; refine Free.o hK hS ?_; exact rfl) | (refine Free.run_no (by rfl) (Free.o hK hS ?_); exact rfl)
    refine Free.cons ?_ ?_
    · intro w' hS; (rintro _ rfl); intro K hK; have k0 := (hS.cell (p := ⟨w.heap.size, 0, none⟩) hX.lt).trans x0; have k1 := (hS.cell (p := ⟨w.heap.size, 1, none⟩) hX.lt).trans x1; first | (refine Free.run_yes (by rfl) ?_; go_simp; refine Free.o hK hS ?_; exact rfl) | (refine Free.run_no (by rfl) (Free.o hK hS ?_); exact rfl)
    refine Free.cons ?_ ?_
    · intro w' hS; (rintro _ rfl); intro K hK; have k0 := (hS.cell (p := ⟨w.heap.size, 0, none⟩) hX.lt).trans x0; have k1 := (hS.cell (p := ⟨w.heap.size, 1, none⟩) hX.lt).trans x1; first | (refine Free.run_yes (by rfl) ?_; go_simp; refine Free.o hK hS ?_; exact rfl) | (refine Free.run_no (by rfl) (Free.o hK hS ?_); exact rfl)
    refine Free.cons ?_ ?_
    · intro w' hS; (rintro _ rfl); intro K hK; have k0 := (hS.cell (p := ⟨w.heap.size, 0, none⟩) hX.lt).trans x0; have k1 := (hS.cell (p := ⟨w.heap.size, 1, none⟩) hX.lt).trans x1; first | (refine Free.run_yes (by rfl) ?_; go_simp; refine Free.o hK hS ?_; exact rfl) | (refine Free.run_no (by rfl) (Free.o hK hS ?_); exact rfl)
    refine Free.cons ?_ ?_
    · intro w' hS; (rintro _ rfl); (rintro _ rfl); intro K hK; have k0 := (hS.cell (p := ⟨w.heap.size, 0, none⟩) hX.lt).trans x0; have k1 := (hS.cell (p := ⟨w.heap.size, 1, none⟩) hX.lt).trans x1; first | (refine Free.run_yes (by rfl) ?_; go_simp; refine Free.o hK hS ?_; exact rfl) | (refine Free.run_no (by rfl) (Free.o hK hS ?_); exact rfl)
    refine Free.cons ?_ ?_
    · intro w' hS; (rintro _ rfl); intro K hK; have k0 := (hS.cell (p := ⟨w.heap.size, 0, none⟩) hX.lt).trans x0; have k1 := (hS.cell (p := ⟨w.heap.size, 1, none⟩) hX.lt).trans x1; first | (refine Free.run_yes (by rfl) ?_; go_simp; refine Free.o hK hS ?_; exact rfl) | (refine Free.run_no (by rfl) (Free.o hK hS ?_); exact rfl)
    refine Free.cons ?_ ?_
    · intro w' hS; (rintro _ rfl); (rintro _ rfl); intro K hK; have k0 := (hS.cell (p := ⟨w.heap.size, 0, none⟩) hX.lt).trans x0; have k1 := (hS.cell (p := ⟨w.heap.size, 1, none⟩) hX.lt).trans x1; first | (refine Free.run_yes (by rfl) ?_; go_simp; refine Free.o hK hS ?_; exact rfl) | (refine Free.run_no (by rfl) (Free.o hK hS ?_); exact rfl)
    refine Free.cons ?_ ?_
    · intro w' hS; (rintro _ rfl); (rintro _ rfl); (rintro _ rfl); intro K hK; have k0 := (hS.cell (p := ⟨w.heap.size, 0, none⟩) hX.lt).trans x0; have k1 := (hS.cell (p := ⟨w.heap.size, 1, none⟩) hX.lt).trans x1; first | (refine Free.run_yes (by rfl) ?_; go_simp; refine Free.o hK hS ?_; exact rfl) | (refine Free.run_no (by rfl) (Free.o hK hS ?_); exact rfl)
    refine Free.cons ?_ ?_
    · intro w' hS; (rintro _ rfl); (rintro _ rfl); intro K hK; have k0 := (hS.cell (p := ⟨w.heap.size, 0, none⟩) hX.lt).trans x0; have k1 := (hS.cell (p := ⟨w.heap.size, 1, none⟩) hX.lt).trans x1; first | (refine Free.run_yes (by rfl) ?_; go_simp; refine Free.o hK hS ?_; exact rfl) | (refine Free.run_no (by rfl) (Free.o hK hS ?_); exact rfl)
    refine Free.cons ?_ ?_
    · intro w' hS; (rintro _ rfl); intro K hK; have k0 := (hS.cell (p := ⟨w.heap.size, 0, none⟩) hX.lt).trans x0; have k1 := (hS.cell (p := ⟨w.heap.size, 1, none⟩) hX.lt).trans x1; first | (refine Free.run_yes (by rfl) ?_; go_simp; refine Free.o hK hS ?_; exact rfl) | (refine Free.run_no (by rfl) (Free.o hK hS ?_); exact rfl)
    refine Free.cons ?_ ?_
    · intro w' hS; (rintro _ rfl); intro K hK; have k0 := (hS.cell (p := ⟨w.heap.size, 0, none⟩) hX.lt).trans x0; have k1 := (hS.cell (p := ⟨w.heap.size, 1, none⟩) hX.lt).trans x1; first | (refine Free.run_yes (by rfl) ?_; go_simp; refine Free.o hK hS ?_; exact rfl) | (refine Free.run_no (by rfl) (Free.o hK hS ?_); exact rfl)
    refine Free.cons ?_ ?_
    · intro w' hS; (rintro _ rfl); intro K hK; have k0 := (hS.cell (p := ⟨w.heap.size, 0, none⟩) hX.lt).trans x0; have k1 := (hS.cell (p := ⟨w.heap.size, 1, none⟩) hX.lt).trans x1; first | (refine Free.run_yes (by rfl) ?_; go_simp; refine Free.o hK hS ?_; exact rfl) | (refine Free.run_no (by rfl) (Free.o hK hS ?_); exact rfl)
    refine Free.cons ?_ ?_
    · intro w' hS; (rintro _ rfl); (rintro _ rfl); intro K hK; have k0 := (hS.cell (p := ⟨w.heap.size, 0, none⟩) hX.lt).trans x0; have k1 := (hS.cell (p := ⟨w.heap.size, 1, none⟩) hX.lt).trans x1; first | (refine Free.run_yes (by rfl) ?_; go_simp; refine Free.o hK hS ?_; exact rfl) | (refine Free.run_no (by rfl) (Free.o hK hS ?_); exact rfl)
    refine Free.cons ?_ ?_
    · intro w' hS; (rintro _ rfl); (rintro _ rfl); (rintro _ rfl); intro K hK; have k0 := (hS.cell (p := ⟨w.heap.size, 0, none⟩) hX.lt).trans x0; have k1 := (hS.cell (p := ⟨w.heap.size, 1, none⟩) hX.lt).trans x1; first | (refine Free.run_yes (by rfl) ?_; go_simp; refine Free.o hK hS ?_; exact rfl) | (refine Free.run_no (by rfl) (Free.o hK hS ?_); exact rfl)
    refine Free.cons ?_ ?_
    · intro w' hS; (rintro _ rfl); (rintro _ rfl); intro K hK; have k0 := (hS.cell (p := ⟨w.heap.size, 0, none⟩) hX.lt).trans x0; have k1 := (hS.cell (p := ⟨w.heap.size, 1, none⟩) hX.lt).trans x1; first | (refine Free.run_yes (by rfl) ?_; go_simp; refine Free.o hK hS ?_; exact rfl) | (refine Free.run_no (by rfl) (Free.o hK hS ?_); exact rfl)
    refine Free.cons ?_ ?_
    · intro w' hS; (rintro _ rfl); intro K hK; have k0 := (hS.cell (p := ⟨w.heap.size, 0, none⟩) hX.lt).trans x0; have k1 := (hS.cell (p := ⟨w.heap.size, 1, none⟩) hX.lt).trans x1; first | (refine Free.run_yes (by rfl) ?_; go_simp; refine Free.o hK hS ?_; exact rfl) | (refine Free.run_no (by rfl) (Free.o hK hS ?_); exact rfl)
    refine Free.cons ?_ ?_
    · intro w' hS; (rintro _ rfl); (rintro _ rfl); intro K hK; have k0 := (hS.cell (p := ⟨w.heap.size, 0, none⟩) hX.lt).trans x0; have k1 := (hS.cell (p := ⟨w.heap.size, 1, none⟩) hX.lt).trans x1; first | (refine Free.run_yes (by rfl) ?_; go_simp; refine Free.o hK hS ?_; exact rfl) | (refine Free.run_no (by rfl) (Free.o hK hS ?_); exact rfl)
    refine Free.cons ?_ ?_
    · intro w' hS; (rintro _ rfl); (rintro _ rfl); (rintro _ rfl); intro K hK; have k0 := (hS.cell (p := ⟨w.heap.size, 0, none⟩) hX.lt).trans x0; have k1 := (hS.cell (p := ⟨w.heap.size, 1, none⟩) hX.lt).trans x1; first | (refine Free.run_yes (by rfl) ?_; go_simp; (fail); go_simp; refine Free.c hK (keep hS hb) hb ?_; exact rfl) | (refine Free.run_no (by rfl) (Free.o hK hS ?_); exact rfl)
    refine Free.cons ?_ ?_
    · intro w' hS; (rintro _ rfl); (rintro _ rfl); intro K hK; have k0 := (hS.cell (p := ⟨w.heap.size, 0, none⟩) hX.lt).trans x0; have k1 := (hS.cell (p := ⟨w.heap.size, 1, none⟩) hX.lt).trans x1; first | (refine Free.run_yes (by rfl) ?_; go_simp; refine Free.o hK hS ?_; exact rfl) | (refine Free.run_no (by rfl) (Free.o hK hS ?_); exact rfl)
    refine Free.cons ?_ ?_
    · intro w' hS; (rintro _ rfl); intro K hK; have k0 := (hS.cell (p := ⟨w.heap.size, 0, none⟩) hX.lt).trans x0; have k1 := (hS.cell (p := ⟨w.heap.size, 1, none⟩) hX.lt).trans x1; first | (refine Free.run_yes (by rfl) ?_; go_simp; refine Free.o hK hS ?_; exact rfl) | (refine Free.run_no (by rfl) (Free.o hK hS ?_); exact rfl)
    exact Free.nil
    clear hvo
    intro w' hS; intro v0; intro v1; intro v2; intro v3; intro v4; intro v5; intro v6; intro v7; intro v8; intro v9; intro v10; intro v11; intro v12; intro v13; intro v14; intro v15; intro v16; intro v17; intro v18; intro v19; (rintro _ rfl); (try simp only [Act.put, List.setIfInBounds_toArray, List.set_cons_zero, List.set_cons_succ]); refine Free.toldE_nil ?_
    go_wp2
    go_ret
    exact ⟨(show Ending.returned (.bool false) = .returned (.bool (mayRow Z ⟨t, V⟩)) from by rewrite [he.out]; rfl), Below.next bb hS (Nat.le_refl _)⟩
  · have he := Lib.hid (mayRow_far (Z := Z) (V := V) (t := t) (by omega))
    have f1 : decide (0 ≤ t) = true := decide_eq_true (by omega)
    have f2 : decide (t ≥ 0) = true := decide_eq_true (by omega)
    have f3 : decide (t < (n : Int)) = false := decide_eq_false (by omega)
    go_enter Try.func36, Try.ntmps36
    go_wp2_with fail
    obtain ⟨w1, hw1⟩ : ∃ w1, w.alloc (.cells #[.int .i64 t, .slice A2 n2 c2] 26) = w1 := ⟨_, rfl⟩
    rw [hw1] at bb hX ⊢
    have x0 := hX.cell 0 (v := .int .i64 t) rfl
    have x1 := hX.cell 1 (v := .slice A2 n2 c2) rfl
    have hvo := Free.val
    refine Free.wp_facts (M := [0, 1, 3, 7, 15, 31, 15, 79, 255, 511, 1023, 2047, 2047, 6143, 16383, 32767, 2047, 67583, 262143, 524287, 1048575]) (D := [[], [(0, 5)], [(1, 6)], [(2, 7)], [(3, 8)], [(4, 9), (3, 8)], [(3, 8)], [(6, 11), (3, 8)], [(5, 10), (7, 12), (3, 8)], [(3, 8), (8, 13)], [(9, 14)], [(10, 15)], [(10, 15)], [(12, 17), (10, 15)], [(11, 16), (13, 18), (10, 15)], [(14, 19), (10, 15)], [(10, 15)], [(16, 21), (10, 15)], [(15, 20), (17, 22), (10, 15)], [(10, 15), (18, 23)], [(19, 24)]]) (outs := [20]) (soles := []) (E := [(0, 5, false), (1, 6, false), (2, 7, false), (3, 8, false), (4, 9, false), (5, 10, false), (6, 11, false), (7, 12, false), (8, 13, false), (9, 14, false), (10, 15, false), (11, 16, false), (12, 17, false), (13, 18, false), (14, 19, false), (15, 20, false), (16, 21, false), (17, 22, false), (18, 23, false), (19, 24, false), (20, 4, true)]) (N := 25) (S := (fun w' => Below w1.heap.size w1 w')) [Free.Fact.is ?_, Free.Fact.is ?_, Free.Fact.is ?_, Free.Fact.is ?_, Free.Fact.is ?_, Free.Fact.is ?_, Free.Fact.is ?_, Free.Fact.is ?_, Free.Fact.is ?_, Free.Fact.is ?_, Free.Fact.is ?_, Free.Fact.is ?_, Free.Fact.is ?_, Free.Fact.is ?_, Free.Fact.is ?_, Free.Fact.is ?_, Free.Fact.is ?_, Free.Fact.is ?_, Free.Fact.is ?_, Free.Fact.is ?_, Free.Fact.is ?_] (by kernel_rfl) (by kernel_rfl) rfl ((Below.refl _ _).drew) ?_ ?_
    rotate_left 21
    refine Free.cons ?_ ?_
    · intro w' hS; intro K hK; have k0 := (hS.cell (p := ⟨w.heap.size, 0, none⟩) hX.lt).trans x0; have k1 := (hS.cell (p := ⟨w.heap.size, 1, none⟩) hX.lt).trans x1; first | (refine Free.run_yes (by rfl) ?_; go_simp; refine Free.o hK hS ?_; exact rfl) | (refine Free.run_no (by rfl) (Free.o hK hS ?_); exact rfl)
    refine Free.cons ?_ ?_
    · intro w' hS; (rintro _ rfl); intro K hK; have k0 := (hS.cell (p := ⟨w.heap.size, 0, none⟩) hX.lt).trans x0; have k1 := (hS.cell (p := ⟨w.heap.size, 1, none⟩) hX.lt).trans x1; first | (refine Free.run_yes (by rfl) ?_; go_simp; refine Free.o hK hS ?_; exact rfl) | (refine Free.run_no (by rfl) (Free.o hK hS ?_); exact rfl)
    refine Free.cons ?_ ?_
    · intro w' hS; (rintro _ rfl); intro K hK; have k0 := (hS.cell (p := ⟨w.heap.size, 0, none⟩) hX.lt).trans x0; have k1 := (hS.cell (p := ⟨w.heap.size, 1, none⟩) hX.lt).trans x1; first | (refine Free.run_yes (by rfl) ?_; go_simp; refine Free.o hK hS ?_; exact rfl) | (refine Free.run_no (by rfl) (Free.o hK hS ?_); exact rfl)
    refine Free.cons ?_ ?_
    · intro w' hS; (rintro _ rfl); intro K hK; have k0 := (hS.cell (p := ⟨w.heap.size, 0, none⟩) hX.lt).trans x0; have k1 := (hS.cell (p := ⟨w.heap.size, 1, none⟩) hX.lt).trans x1; first | (refine Free.run_yes (by rfl) ?_; go_simp; refine Free.o hK hS ?_; exact rfl) | (refine Free.run_no (by rfl) (Free.o hK hS ?_); exact rfl)
    refine Free.cons ?_ ?_
    · intro w' hS; (rintro _ rfl); intro K hK; have k0 := (hS.cell (p := ⟨w.heap.size, 0, none⟩) hX.lt).trans x0; have k1 := (hS.cell (p := ⟨w.heap.size, 1, none⟩) hX.lt).trans x1; first | (refine Free.run_yes (by rfl) ?_; go_simp; refine Free.o hK hS ?_; exact rfl) | (refine Free.run_no (by rfl) (Free.o hK hS ?_); exact rfl)
    refine Free.cons ?_ ?_
    · intro w' hS; (rintro _ rfl); (rintro _ rfl); intro K hK; have k0 := (hS.cell (p := ⟨w.heap.size, 0, none⟩) hX.lt).trans x0; have k1 := (hS.cell (p := ⟨w.heap.size, 1, none⟩) hX.lt).trans x1; first | (refine Free.run_yes (by rfl) ?_; go_simp; refine Free.o hK hS ?_; exact rfl) | (refine Free.run_no (by rfl) (Free.o hK hS ?_); exact rfl)
    refine Free.cons ?_ ?_
    · intro w' hS; (rintro _ rfl); intro K hK; have k0 := (hS.cell (p := ⟨w.heap.size, 0, none⟩) hX.lt).trans x0; have k1 := (hS.cell (p := ⟨w.heap.size, 1, none⟩) hX.lt).trans x1; first | (refine Free.run_yes (by rfl) ?_; go_simp; refine Free.o hK hS ?_; exact rfl) | (refine Free.run_no (by rfl) (Free.o hK hS ?_); exact rfl)
    refine Free.cons ?_ ?_
    · intro w' hS; (rintro _ rfl); (rintro _ rfl); intro K hK; have k0 := (hS.cell (p := ⟨w.heap.size, 0, none⟩) hX.lt).trans x0; have k1 := (hS.cell (p := ⟨w.heap.size, 1, none⟩) hX.lt).trans x1; first | (refine Free.run_yes (by rfl) ?_; go_simp; refine Free.o hK hS ?_; exact rfl) | (refine Free.run_no (by rfl) (Free.o hK hS ?_); exact rfl)
    refine Free.cons ?_ ?_
    · intro w' hS; (rintro _ rfl); (rintro _ rfl); (rintro _ rfl); intro K hK; have k0 := (hS.cell (p := ⟨w.heap.size, 0, none⟩) hX.lt).trans x0; have k1 := (hS.cell (p := ⟨w.heap.size, 1, none⟩) hX.lt).trans x1; first | (refine Free.run_yes (by rfl) ?_; go_simp; refine Free.o hK hS ?_; exact rfl) | (refine Free.run_no (by rfl) (Free.o hK hS ?_); exact rfl)
    refine Free.cons ?_ ?_
    · intro w' hS; (rintro _ rfl); (rintro _ rfl); intro K hK; have k0 := (hS.cell (p := ⟨w.heap.size, 0, none⟩) hX.lt).trans x0; have k1 := (hS.cell (p := ⟨w.heap.size, 1, none⟩) hX.lt).trans x1; first | (refine Free.run_yes (by rfl) ?_; go_simp; refine Free.o hK hS ?_; exact rfl) | (refine Free.run_no (by rfl) (Free.o hK hS ?_); exact rfl)
    refine Free.cons ?_ ?_
    · intro w' hS; (rintro _ rfl); intro K hK; have k0 := (hS.cell (p := ⟨w.heap.size, 0, none⟩) hX.lt).trans x0; have k1 := (hS.cell (p := ⟨w.heap.size, 1, none⟩) hX.lt).trans x1; first | (refine Free.run_yes (by rfl) ?_; go_simp; refine Free.o hK hS ?_; exact rfl) | (refine Free.run_no (by rfl) (Free.o hK hS ?_); exact rfl)
    refine Free.cons ?_ ?_
    · intro w' hS; (rintro _ rfl); intro K hK; have k0 := (hS.cell (p := ⟨w.heap.size, 0, none⟩) hX.lt).trans x0; have k1 := (hS.cell (p := ⟨w.heap.size, 1, none⟩) hX.lt).trans x1; first | (refine Free.run_yes (by rfl) ?_; go_simp; refine Free.o hK hS ?_; exact rfl) | (refine Free.run_no (by rfl) (Free.o hK hS ?_); exact rfl)
    refine Free.cons ?_ ?_
    · intro w' hS; (rintro _ rfl); intro K hK; have k0 := (hS.cell (p := ⟨w.heap.size, 0, none⟩) hX.lt).trans x0; have k1 := (hS.cell (p := ⟨w.heap.size, 1, none⟩) hX.lt).trans x1; first | (refine Free.run_yes (by rfl) ?_; go_simp; refine Free.o hK hS ?_; exact rfl) | (refine Free.run_no (by rfl) (Free.o hK hS ?_); exact rfl)
    refine Free.cons ?_ ?_
    · intro w' hS; (rintro _ rfl); (rintro _ rfl); intro K hK; have k0 := (hS.cell (p := ⟨w.heap.size, 0, none⟩) hX.lt).trans x0; have k1 := (hS.cell (p := ⟨w.heap.size, 1, none⟩) hX.lt).trans x1; first | (refine Free.run_yes (by rfl) ?_; go_simp; refine Free.o hK hS ?_; exact rfl) | (refine Free.run_no (by rfl) (Free.o hK hS ?_); exact rfl)
    refine Free.cons ?_ ?_
    · intro w' hS; (rintro _ rfl); (rintro _ rfl); (rintro _ rfl); intro K hK; have k0 := (hS.cell (p := ⟨w.heap.size, 0, none⟩) hX.lt).trans x0; have k1 := (hS.cell (p := ⟨w.heap.size, 1, none⟩) hX.lt).trans x1; first | (refine Free.run_yes (by rfl) ?_; go_simp; refine Free.o hK hS ?_; exact rfl) | (refine Free.run_no (by rfl) (Free.o hK hS ?_); exact rfl)
    refine Free.cons ?_ ?_
    · intro w' hS; (rintro _ rfl); (rintro _ rfl); intro K hK; have k0 := (hS.cell (p := ⟨w.heap.size, 0, none⟩) hX.lt).trans x0; have k1 := (hS.cell (p := ⟨w.heap.size, 1, none⟩) hX.lt).trans x1; first | (refine Free.run_yes (by rfl) ?_; go_simp; refine Free.o hK hS ?_; exact rfl) | (refine Free.run_no (by rfl) (Free.o hK hS ?_); exact rfl)
    refine Free.cons ?_ ?_
    · intro w' hS; (rintro _ rfl); intro K hK; have k0 := (hS.cell (p := ⟨w.heap.size, 0, none⟩) hX.lt).trans x0; have k1 := (hS.cell (p := ⟨w.heap.size, 1, none⟩) hX.lt).trans x1; first | (refine Free.run_yes (by rfl) ?_; go_simp; refine Free.o hK hS ?_; exact rfl) | (refine Free.run_no (by rfl) (Free.o hK hS ?_); exact rfl)
    refine Free.cons ?_ ?_
    · intro w' hS; (rintro _ rfl); (rintro _ rfl); intro K hK; have k0 := (hS.cell (p := ⟨w.heap.size, 0, none⟩) hX.lt).trans x0; have k1 := (hS.cell (p := ⟨w.heap.size, 1, none⟩) hX.lt).trans x1; first | (refine Free.run_yes (by rfl) ?_; go_simp; refine Free.o hK hS ?_; exact rfl) | (refine Free.run_no (by rfl) (Free.o hK hS ?_); exact rfl)
    refine Free.cons ?_ ?_
    · intro w' hS; (rintro _ rfl); (rintro _ rfl); (rintro _ rfl); intro K hK; have k0 := (hS.cell (p := ⟨w.heap.size, 0, none⟩) hX.lt).trans x0; have k1 := (hS.cell (p := ⟨w.heap.size, 1, none⟩) hX.lt).trans x1; first | (refine Free.run_yes (by rfl) ?_; go_simp; (fail); go_simp; refine Free.c hK (keep hS hb) hb ?_; exact rfl) | (refine Free.run_no (by rfl) (Free.o hK hS ?_); exact rfl)
    refine Free.cons ?_ ?_
    · intro w' hS; (rintro _ rfl); (rintro _ rfl); intro K hK; have k0 := (hS.cell (p := ⟨w.heap.size, 0, none⟩) hX.lt).trans x0; have k1 := (hS.cell (p := ⟨w.heap.size, 1, none⟩) hX.lt).trans x1; first | (refine Free.run_yes (by rfl) ?_; go_simp; refine Free.o hK hS ?_; exact rfl) | (refine Free.run_no (by rfl) (Free.o hK hS ?_); exact rfl)
    refine Free.cons ?_ ?_
    · intro w' hS; (rintro _ rfl); intro K hK; have k0 := (hS.cell (p := ⟨w.heap.size, 0, none⟩) hX.lt).trans x0; have k1 := (hS.cell (p := ⟨w.heap.size, 1, none⟩) hX.lt).trans x1; first | (refine Free.run_yes (by rfl) ?_; go_simp; refine Free.o hK hS ?_; exact rfl) | (refine Free.run_no (by rfl) (Free.o hK hS ?_); exact rfl)
    exact Free.nil
    clear hvo
    intro w' hS; intro v0; intro v1; intro v2; intro v3; intro v4; intro v5; intro v6; intro v7; intro v8; intro v9; intro v10; intro v11; intro v12; intro v13; intro v14; intro v15; intro v16; intro v17; intro v18; intro v19; (rintro _ rfl); (try simp only [Act.put, List.setIfInBounds_toArray, List.set_cons_zero, List.set_cons_succ]); refine Free.toldE_nil ?_
    go_wp2
    go_ret
    exact ⟨(show Ending.returned (.bool false) = .returned (.bool (mayRow Z ⟨t, V⟩)) from by rewrite [he.out]; rfl), Below.next bb hS (Nat.le_refl _)⟩
  · obtain ⟨z, hz⟩ : ∃ z, Z[j]? = some z := ⟨_, List.getElem?_eq_getElem (by omega)⟩
    have he := Lib.hid (mayRow_in (V := V) hz)
    obtain ⟨g, o, rfl, hc⟩ := h.at_ (by omega)
    obtain ⟨B, kk, hc0, hRN⟩ := hc j z hz
    have HF := Lib.hid (fun w h h2 => row_fits B z.length kk z A2 n2 c2 V w h h2)
    have hRNh := Lib.hid hRN
    obtain ⟨y, hy⟩ : ∃ y, fitsL z V = y := ⟨_, rfl⟩
    rw [hy] at HF he
    have f1 : decide (0 ≤ (j : Int)) = true := decide_eq_true (by omega)
    have f2 : decide ((j : Int) ≥ 0) = true := decide_eq_true (by omega)
    have f3 : decide ((j : Int) < (n : Int)) = true := decide_eq_true (by omega)
    have hg := World.block_lt_of_cell? w _ hc0
    have d0 := (bb.cell (p := ⟨g, o + j, none⟩) hg).trans hc0
    obtain ⟨zl, hzl⟩ : ∃ m, z.length = m := ⟨_, rfl⟩
    rw [hzl] at d0 HF hRN hRNh
    clear hc hz hl hc0 hRN hy hzl
    go_enter Try.func36, Try.ntmps36
    go_wp2_with fail
    obtain ⟨w1, hw1⟩ : ∃ w1, w.alloc (.cells #[.int .i64 (j : Int), .slice A2 n2 c2] 26) = w1 := ⟨_, rfl⟩
    rw [hw1] at bb hX d0 ⊢
    have x0 := hX.cell 0 (v := .int .i64 (j : Int)) rfl
    have x1 := hX.cell 1 (v := .slice A2 n2 c2) rfl
    have hg1 := World.block_lt_of_cell? w1 _ d0
    clear hw1
    have hvo := Free.val
    refine Free.wp_facts (M := [0, 1, 3, 7, 15, 31, 15, 79, 255, 511, 1023, 2047, 2047, 6143, 16383, 32767, 2047, 67583, 262143, 524287, 1048575]) (D := [[], [(0, 5)], [(1, 6)], [(2, 7)], [(3, 8)], [(4, 9), (3, 8)], [(3, 8)], [(6, 11), (3, 8)], [(5, 10), (7, 12), (3, 8)], [(3, 8), (8, 13)], [(9, 14)], [(10, 15)], [(10, 15)], [(12, 17), (10, 15)], [(11, 16), (13, 18), (10, 15)], [(14, 19), (10, 15)], [(10, 15)], [(16, 21), (10, 15)], [(15, 20), (17, 22), (10, 15)], [(10, 15), (18, 23)], [(19, 24)]]) (outs := [20]) (soles := []) (E := [(0, 5, false), (1, 6, false), (2, 7, false), (3, 8, false), (4, 9, false), (5, 10, false), (6, 11, false), (7, 12, false), (8, 13, false), (9, 14, false), (10, 15, false), (11, 16, false), (12, 17, false), (13, 18, false), (14, 19, false), (15, 20, false), (16, 21, false), (17, 22, false), (18, 23, false), (19, 24, false), (20, 4, true)]) (N := 25) (S := (fun w' => Below w1.heap.size w1 w')) [Free.Fact.is ?_, Free.Fact.is ?_, Free.Fact.is ?_, Free.Fact.is ?_, Free.Fact.is ?_, Free.Fact.is ?_, Free.Fact.is ?_, Free.Fact.is ?_, Free.Fact.is ?_, Free.Fact.is ?_, Free.Fact.is ?_, Free.Fact.is ?_, Free.Fact.is ?_, Free.Fact.is ?_, Free.Fact.is ?_, Free.Fact.is ?_, Free.Fact.is ?_, Free.Fact.is ?_, Free.Fact.is ?_, Free.Fact.is ?_, Free.Fact.is ?_] (by kernel_rfl) (by kernel_rfl) rfl ((Below.refl _ _).drew) ?_ ?_
    rotate_left 21
    refine Free.cons ?_ ?_
    · intro w' hS; intro K hK; have ka0 := (hS.cell (p := ⟨w.heap.size, 0, none⟩) hX.lt).trans x0; have ka1 := (hS.cell (p := ⟨w.heap.size, 1, none⟩) hX.lt).trans x1; have ka2 := (hS.cell (p := ⟨g, o + j, none⟩) hg1).trans d0; first | (refine Free.run_yes (by rfl) ?_; go_simp; refine Free.o hK hS ?_; exact rfl) | (refine Free.run_no (by rfl) (Free.o hK hS ?_); exact rfl)
    refine Free.cons ?_ ?_
    · intro w' hS; (rintro _ rfl); intro K hK; have ka0 := (hS.cell (p := ⟨w.heap.size, 0, none⟩) hX.lt).trans x0; have ka1 := (hS.cell (p := ⟨w.heap.size, 1, none⟩) hX.lt).trans x1; have ka2 := (hS.cell (p := ⟨g, o + j, none⟩) hg1).trans d0; first | (refine Free.run_yes (by rfl) ?_; go_simp; refine Free.o hK hS ?_; exact rfl) | (refine Free.run_no (by rfl) (Free.o hK hS ?_); exact rfl)
    refine Free.cons ?_ ?_
    · intro w' hS; (rintro _ rfl); intro K hK; have ka0 := (hS.cell (p := ⟨w.heap.size, 0, none⟩) hX.lt).trans x0; have ka1 := (hS.cell (p := ⟨w.heap.size, 1, none⟩) hX.lt).trans x1; have ka2 := (hS.cell (p := ⟨g, o + j, none⟩) hg1).trans d0; first | (refine Free.run_yes (by rfl) ?_; go_simp; refine Free.o hK hS ?_; exact rfl) | (refine Free.run_no (by rfl) (Free.o hK hS ?_); exact rfl)
    refine Free.cons ?_ ?_
    · intro w' hS; (rintro _ rfl); intro K hK; have ka0 := (hS.cell (p := ⟨w.heap.size, 0, none⟩) hX.lt).trans x0; have ka1 := (hS.cell (p := ⟨w.heap.size, 1, none⟩) hX.lt).trans x1; have ka2 := (hS.cell (p := ⟨g, o + j, none⟩) hg1).trans d0; first | (refine Free.run_yes (by rfl) ?_; go_simp; refine Free.o hK hS ?_; exact rfl) | (refine Free.run_no (by rfl) (Free.o hK hS ?_); exact rfl)
    refine Free.cons ?_ ?_
    · intro w' hS; (rintro _ rfl); intro K hK; have ka0 := (hS.cell (p := ⟨w.heap.size, 0, none⟩) hX.lt).trans x0; have ka1 := (hS.cell (p := ⟨w.heap.size, 1, none⟩) hX.lt).trans x1; have ka2 := (hS.cell (p := ⟨g, o + j, none⟩) hg1).trans d0; first | (refine Free.run_yes (by rfl) ?_; go_simp; refine Free.o hK hS ?_; exact rfl) | (refine Free.run_no (by rfl) (Free.o hK hS ?_); exact rfl)
    refine Free.cons ?_ ?_
    · intro w' hS; (rintro _ rfl); (rintro _ rfl); intro K hK; have ka0 := (hS.cell (p := ⟨w.heap.size, 0, none⟩) hX.lt).trans x0; have ka1 := (hS.cell (p := ⟨w.heap.size, 1, none⟩) hX.lt).trans x1; have ka2 := (hS.cell (p := ⟨g, o + j, none⟩) hg1).trans d0; first | (refine Free.run_yes (by rfl) ?_; go_simp; refine Free.o hK hS ?_; exact rfl) | (refine Free.run_no (by rfl) (Free.o hK hS ?_); exact rfl)
    refine Free.cons ?_ ?_
    · intro w' hS; (rintro _ rfl); intro K hK; have ka0 := (hS.cell (p := ⟨w.heap.size, 0, none⟩) hX.lt).trans x0; have ka1 := (hS.cell (p := ⟨w.heap.size, 1, none⟩) hX.lt).trans x1; have ka2 := (hS.cell (p := ⟨g, o + j, none⟩) hg1).trans d0; first | (refine Free.run_yes (by rfl) ?_; go_simp; refine Free.o hK hS ?_; exact rfl) | (refine Free.run_no (by rfl) (Free.o hK hS ?_); exact rfl)
    refine Free.cons ?_ ?_
    · intro w' hS; (rintro _ rfl); (rintro _ rfl); intro K hK; have ka0 := (hS.cell (p := ⟨w.heap.size, 0, none⟩) hX.lt).trans x0; have ka1 := (hS.cell (p := ⟨w.heap.size, 1, none⟩) hX.lt).trans x1; have ka2 := (hS.cell (p := ⟨g, o + j, none⟩) hg1).trans d0; first | (refine Free.run_yes (by rfl) ?_; go_simp; refine Free.o hK hS ?_; exact rfl) | (refine Free.run_no (by rfl) (Free.o hK hS ?_); exact rfl)
    refine Free.cons ?_ ?_
    · intro w' hS; (rintro _ rfl); (rintro _ rfl); (rintro _ rfl); intro K hK; have ka0 := (hS.cell (p := ⟨w.heap.size, 0, none⟩) hX.lt).trans x0; have ka1 := (hS.cell (p := ⟨w.heap.size, 1, none⟩) hX.lt).trans x1; have ka2 := (hS.cell (p := ⟨g, o + j, none⟩) hg1).trans d0; first | (refine Free.run_yes (by rfl) ?_; go_simp; refine Free.o hK hS ?_; exact rfl) | (refine Free.run_no (by rfl) (Free.o hK hS ?_); exact rfl)
    refine Free.cons ?_ ?_
    · intro w' hS; (rintro _ rfl); (rintro _ rfl); intro K hK; have ka0 := (hS.cell (p := ⟨w.heap.size, 0, none⟩) hX.lt).trans x0; have ka1 := (hS.cell (p := ⟨w.heap.size, 1, none⟩) hX.lt).trans x1; have ka2 := (hS.cell (p := ⟨g, o + j, none⟩) hg1).trans d0; first | (refine Free.run_yes (by rfl) ?_; go_simp; refine Free.o hK hS ?_; exact rfl) | (refine Free.run_no (by rfl) (Free.o hK hS ?_); exact rfl)
    refine Free.cons ?_ ?_
    · intro w' hS; (rintro _ rfl); intro K hK; have ka0 := (hS.cell (p := ⟨w.heap.size, 0, none⟩) hX.lt).trans x0; have ka1 := (hS.cell (p := ⟨w.heap.size, 1, none⟩) hX.lt).trans x1; have ka2 := (hS.cell (p := ⟨g, o + j, none⟩) hg1).trans d0; first | (refine Free.run_yes (by rfl) ?_; go_simp; refine Free.o hK hS ?_; exact rfl) | (refine Free.run_no (by rfl) (Free.o hK hS ?_); exact rfl)
    refine Free.cons ?_ ?_
    · intro w' hS; (rintro _ rfl); intro K hK; have ka0 := (hS.cell (p := ⟨w.heap.size, 0, none⟩) hX.lt).trans x0; have ka1 := (hS.cell (p := ⟨w.heap.size, 1, none⟩) hX.lt).trans x1; have ka2 := (hS.cell (p := ⟨g, o + j, none⟩) hg1).trans d0; first | (refine Free.run_yes (by rfl) ?_; go_simp; refine Free.o hK hS ?_; exact rfl) | (refine Free.run_no (by rfl) (Free.o hK hS ?_); exact rfl)
    refine Free.cons ?_ ?_
    · intro w' hS; (rintro _ rfl); intro K hK; have ka0 := (hS.cell (p := ⟨w.heap.size, 0, none⟩) hX.lt).trans x0; have ka1 := (hS.cell (p := ⟨w.heap.size, 1, none⟩) hX.lt).trans x1; have ka2 := (hS.cell (p := ⟨g, o + j, none⟩) hg1).trans d0; first | (refine Free.run_yes (by rfl) ?_; go_simp; refine Free.o hK hS ?_; exact rfl) | (refine Free.run_no (by rfl) (Free.o hK hS ?_); exact rfl)
    refine Free.cons ?_ ?_
    · intro w' hS; (rintro _ rfl); (rintro _ rfl); intro K hK; have ka0 := (hS.cell (p := ⟨w.heap.size, 0, none⟩) hX.lt).trans x0; have ka1 := (hS.cell (p := ⟨w.heap.size, 1, none⟩) hX.lt).trans x1; have ka2 := (hS.cell (p := ⟨g, o + j, none⟩) hg1).trans d0; first | (refine Free.run_yes (by rfl) ?_; go_simp; refine Free.o hK hS ?_; exact rfl) | (refine Free.run_no (by rfl) (Free.o hK hS ?_); exact rfl)
    refine Free.cons ?_ ?_
    · intro w' hS; (rintro _ rfl); (rintro _ rfl); (rintro _ rfl); intro K hK; have ka0 := (hS.cell (p := ⟨w.heap.size, 0, none⟩) hX.lt).trans x0; have ka1 := (hS.cell (p := ⟨w.heap.size, 1, none⟩) hX.lt).trans x1; have ka2 := (hS.cell (p := ⟨g, o + j, none⟩) hg1).trans d0; first | (refine Free.run_yes (by rfl) ?_; go_simp; refine Free.o hK hS ?_; exact rfl) | (refine Free.run_no (by rfl) (Free.o hK hS ?_); exact rfl)
    refine Free.cons ?_ ?_
    · intro w' hS; (rintro _ rfl); (rintro _ rfl); intro K hK; have ka0 := (hS.cell (p := ⟨w.heap.size, 0, none⟩) hX.lt).trans x0; have ka1 := (hS.cell (p := ⟨w.heap.size, 1, none⟩) hX.lt).trans x1; have ka2 := (hS.cell (p := ⟨g, o + j, none⟩) hg1).trans d0; first | (refine Free.run_yes (by rfl) ?_; go_simp; refine Free.o hK hS ?_; exact rfl) | (refine Free.run_no (by rfl) (Free.o hK hS ?_); exact rfl)
    refine Free.cons ?_ ?_
    · intro w' hS; (rintro _ rfl); intro K hK; have ka0 := (hS.cell (p := ⟨w.heap.size, 0, none⟩) hX.lt).trans x0; have ka1 := (hS.cell (p := ⟨w.heap.size, 1, none⟩) hX.lt).trans x1; have ka2 := (hS.cell (p := ⟨g, o + j, none⟩) hg1).trans d0; first | (refine Free.run_yes (by rfl) ?_; go_simp; refine Free.o hK hS ?_; exact rfl) | (refine Free.run_no (by rfl) (Free.o hK hS ?_); exact rfl)
    refine Free.cons ?_ ?_
    · intro w' hS; (rintro _ rfl); (rintro _ rfl); intro K hK; have ka0 := (hS.cell (p := ⟨w.heap.size, 0, none⟩) hX.lt).trans x0; have ka1 := (hS.cell (p := ⟨w.heap.size, 1, none⟩) hX.lt).trans x1; have ka2 := (hS.cell (p := ⟨g, o + j, none⟩) hg1).trans d0; first | (refine Free.run_yes (by rfl) ?_; go_simp; refine Free.o hK hS ?_; exact rfl) | (refine Free.run_no (by rfl) (Free.o hK hS ?_); exact rfl)
    refine Free.cons ?_ ?_
    · intro w' hS; (rintro _ rfl); (rintro _ rfl); (rintro _ rfl); intro K hK; have ka0 := (hS.cell (p := ⟨w.heap.size, 0, none⟩) hX.lt).trans x0; have ka1 := (hS.cell (p := ⟨w.heap.size, 1, none⟩) hX.lt).trans x1; have ka2 := (hS.cell (p := ⟨g, o + j, none⟩) hg1).trans d0; refine Free.run_yes (by rfl) ?_; (go_simp; go_at_call 39; refine (HF.out _ (hRNh.out.below (bb.trans (hS.mono bb.size))) (h2.below (bb.trans (hS.mono bb.size)))).mono ?_; rintro e w' ⟨rfl, hb⟩; (try simp only [Free.valOf, Act.put, List.setIfInBounds_toArray, List.set_cons_zero, List.set_cons_succ, Array.getD_eq_getD_getElem?, List.getElem?_toArray, List.getElem?_cons_succ, List.getElem?_cons_zero, Option.getD_some]); refine hK.out _ _ ?_ (Below.next hS hb (Nat.le_refl _)) (.inr hb); exact rfl)
    refine Free.cons ?_ ?_
    · intro w' hS; (rintro _ rfl); (rintro _ rfl); intro K hK; have ka0 := (hS.cell (p := ⟨w.heap.size, 0, none⟩) hX.lt).trans x0; have ka1 := (hS.cell (p := ⟨w.heap.size, 1, none⟩) hX.lt).trans x1; have ka2 := (hS.cell (p := ⟨g, o + j, none⟩) hg1).trans d0; first | (refine Free.run_yes (by rfl) ?_; go_simp; refine Free.o hK hS ?_; exact rfl) | (refine Free.run_no (by rfl) (Free.o hK hS ?_); exact rfl)
    refine Free.cons ?_ ?_
    · intro w' hS; (rintro _ rfl); intro K hK; have ka0 := (hS.cell (p := ⟨w.heap.size, 0, none⟩) hX.lt).trans x0; have ka1 := (hS.cell (p := ⟨w.heap.size, 1, none⟩) hX.lt).trans x1; have ka2 := (hS.cell (p := ⟨g, o + j, none⟩) hg1).trans d0; first | (refine Free.run_yes (by rfl) ?_; go_simp; refine Free.o hK hS ?_; exact rfl) | (refine Free.run_no (by rfl) (Free.o hK hS ?_); exact rfl)
    exact Free.nil
    clear hvo
    intro w' hS; intro v0; intro v1; intro v2; intro v3; intro v4; intro v5; intro v6; intro v7; intro v8; intro v9; intro v10; intro v11; intro v12; intro v13; intro v14; intro v15; intro v16; intro v17; intro v18; intro v19; (rintro _ rfl); (try simp only [Act.put, List.setIfInBounds_toArray, List.set_cons_zero, List.set_cons_succ]); refine Free.toldE_nil ?_
    go_wp2
    go_ret
    exact ⟨(show Ending.returned (.bool y) = .returned (.bool (mayRow Z ⟨(j : Int), V⟩)) from by rewrite [he.out]; rfl), Below.next bb hS (Nat.le_refl _)⟩
set_option maxHeartbeats 4000000 in
theorem ref_mayrow (A : Option Addr) (n c : Nat) (Z : List (List Int)) (t : Int) (A2 : Option Addr) (n2 c2 : Nat) (V : List ValR) (w : World) (h : RG w A n c Z) (h2 : RV w A2 n2 c2 V) :
    Calls Try.prog 41 #[.slice A n c, .agg #[.int .i64 t, .slice A2 n2 c2]] w fun e w' => e = .returned (.bool (mayRow Z ⟨t, V⟩)) ∧ Below w.heap.size w w' := by
  have hnm : n ≤ maxLen := Nat.le_trans h.cap h.max
  unfold maxLen at hnm
  have hl := h.len
  have hX := Blk.new w #[.int .i64 t, .slice A2 n2 c2] 26
  have bb : Below w.heap.size w (w.alloc (.cells #[.int .i64 t, .slice A2 n2 c2] 26)) := (by repeat (first | exact Below.refl _ _ | assumption | apply below_drewN' | apply Below.drew | refine Below.alloc ?_ (by first | omega | (simp; done) | (simp; omega)) _ | refine Below.setCell ?_ (by first | omega | (simp; done) | (simp; omega)) _))
  rcases (show t < 0 ∨ (¬ t < 0 ∧ (n : Int) ≤ t) ∨ (∃ j : Nat, t = j ∧ j < n) by
    rcases Int.lt_or_le t 0 with a | a
    · exact .inl a
    · rcases Int.lt_or_le t n with b | b
      · exact .inr (.inr ⟨t.toNat, by omega, by omega⟩)
      · exact .inr (.inl ⟨by omega, b⟩)) with i1 | ⟨i1, i2⟩ | ⟨j, rfl, hj⟩
  · have he := Lib.hid (mayRow_neg (Z := Z) (V := V) i1)
    have f1 : decide (0 ≤ t) = false := decide_eq_false (by omega)
    have f2 : decide (t ≥ 0) = false := decide_eq_false (by omega)
    go_enter Try.func41, Try.ntmps41
    go_wp2_with fail
    obtain ⟨w1, hw1⟩ : ∃ w1, w.alloc (.cells #[.int .i64 t, .slice A2 n2 c2] 26) = w1 := ⟨_, rfl⟩
    rw [hw1] at bb hX ⊢
    have x0 := hX.cell 0 (v := .int .i64 t) rfl
    have x1 := hX.cell 1 (v := .slice A2 n2 c2) rfl
    have hvo := Free.val
    refine Free.wp_facts (M := [0, 1, 3, 7, 15, 31, 15, 79, 255, 511, 1023, 2047, 2047, 6143, 16383, 32767, 2047, 67583, 262143, 524287, 1048575]) (D := [[], [(0, 5)], [(1, 6)], [(2, 7)], [(3, 8)], [(4, 9), (3, 8)], [(3, 8)], [(6, 11), (3, 8)], [(5, 10), (7, 12), (3, 8)], [(3, 8), (8, 13)], [(9, 14)], [(10, 15)], [(10, 15)], [(12, 17), (10, 15)], [(11, 16), (13, 18), (10, 15)], [(14, 19), (10, 15)], [(10, 15)], [(16, 21), (10, 15)], [(15, 20), (17, 22), (10, 15)], [(10, 15), (18, 23)], [(19, 24)]]) (outs := [20]) (soles := []) (E := [(0, 5, false), (1, 6, false), (2, 7, false), (3, 8, false), (4, 9, false), (5, 10, false), (6, 11, false), (7, 12, false), (8, 13, false), (9, 14, false), (10, 15, false), (11, 16, false), (12, 17, false), (13, 18, false), (14, 19, false), (15, 20, false), (16, 21, false), (17, 22, false), (18, 23, false), (19, 24, false), (20, 4, true)]) (N := 25) (S := (fun w' => Below w1.heap.size w1 w')) [Free.Fact.is ?_, Free.Fact.is ?_, Free.Fact.is ?_, Free.Fact.is ?_, Free.Fact.is ?_, Free.Fact.is ?_, Free.Fact.is ?_, Free.Fact.is ?_, Free.Fact.is ?_, Free.Fact.is ?_, Free.Fact.is ?_, Free.Fact.is ?_, Free.Fact.is ?_, Free.Fact.is ?_, Free.Fact.is ?_, Free.Fact.is ?_, Free.Fact.is ?_, Free.Fact.is ?_, Free.Fact.is ?_, Free.Fact.is ?_, Free.Fact.is ?_] (by kernel_rfl) (by kernel_rfl) rfl ((Below.refl _ _).drew) ?_ ?_
    rotate_left 21
    refine Free.cons ?_ ?_
    · intro w' hS; intro K hK; have k0 := (hS.cell (p := ⟨w.heap.size, 0, none⟩) hX.lt).trans x0; have k1 := (hS.cell (p := ⟨w.heap.size, 1, none⟩) hX.lt).trans x1; first | (refine Free.run_yes (by rfl) ?_; go_simp; refine Free.o hK hS ?_; exact rfl) | (refine Free.run_no (by rfl) (Free.o hK hS ?_); exact rfl)
    refine Free.cons ?_ ?_
    · intro w' hS; (rintro _ rfl); intro K hK; have k0 := (hS.cell (p := ⟨w.heap.size, 0, none⟩) hX.lt).trans x0; have k1 := (hS.cell (p := ⟨w.heap.size, 1, none⟩) hX.lt).trans x1; first | (refine Free.run_yes (by rfl) ?_; go_simp; refine Free.o hK hS ?_; exact rfl) | (refine Free.run_no (by rfl) (Free.o hK hS ?_); exact rfl)
    refine Free.cons ?_ ?_
    · intro w' hS; (rintro _ rfl); intro K hK; have k0 := (hS.cell (p := ⟨w.heap.size, 0, none⟩) hX.lt).trans x0; have k1 := (hS.cell (p := ⟨w.heap.size, 1, none⟩) hX.lt).trans x1; first | (refine Free.run_yes (by rfl) ?_; go_simp; refine Free.o hK hS ?_; exact rfl) | (refine Free.run_no (by rfl) (Free.o hK hS ?_); exact rfl)
    refine Free.cons ?_ ?_
    · intro w' hS; (rintro _ rfl); intro K hK; have k0 := (hS.cell (p := ⟨w.heap.size, 0, none⟩) hX.lt).trans x0; have k1 := (hS.cell (p := ⟨w.heap.size, 1, none⟩) hX.lt).trans x1; first | (refine Free.run_yes (by rfl) ?_; go_simp; refine Free.o hK hS ?_; exact rfl) | (refine Free.run_no (by rfl) (Free.o hK hS ?_); exact rfl)
    refine Free.cons ?_ ?_
    · intro w' hS; (rintro _ rfl); intro K hK; have k0 := (hS.cell (p := ⟨w.heap.size, 0, none⟩) hX.lt).trans x0; have k1 := (hS.cell (p := ⟨w.heap.size, 1, none⟩) hX.lt).trans x1; first | (refine Free.run_yes (by rfl) ?_; go_simp; refine Free.o hK hS ?_; exact rfl) | (refine Free.run_no (by rfl) (Free.o hK hS ?_); exact rfl)
    refine Free.cons ?_ ?_
    · intro w' hS; (rintro _ rfl); (rintro _ rfl); intro K hK; have k0 := (hS.cell (p := ⟨w.heap.size, 0, none⟩) hX.lt).trans x0; have k1 := (hS.cell (p := ⟨w.heap.size, 1, none⟩) hX.lt).trans x1; first | (refine Free.run_yes (by rfl) ?_; go_simp; refine Free.o hK hS ?_; exact rfl) | (refine Free.run_no (by rfl) (Free.o hK hS ?_); exact rfl)
    refine Free.cons ?_ ?_
    · intro w' hS; (rintro _ rfl); intro K hK; have k0 := (hS.cell (p := ⟨w.heap.size, 0, none⟩) hX.lt).trans x0; have k1 := (hS.cell (p := ⟨w.heap.size, 1, none⟩) hX.lt).trans x1; first | (refine Free.run_yes (by rfl) ?_; go_simp; refine Free.o hK hS ?_; exact rfl) | (refine Free.run_no (by rfl) (Free.o hK hS ?_); exact rfl)
    refine Free.cons ?_ ?_
    · intro w' hS; (rintro _ rfl); (rintro _ rfl); intro K hK; have k0 := (hS.cell (p := ⟨w.heap.size, 0, none⟩) hX.lt).trans x0; have k1 := (hS.cell (p := ⟨w.heap.size, 1, none⟩) hX.lt).trans x1; first | (refine Free.run_yes (by rfl) ?_; go_simp; refine Free.o hK hS ?_; exact rfl) | (refine Free.run_no (by rfl) (Free.o hK hS ?_); exact rfl)
    refine Free.cons ?_ ?_
    · intro w' hS; (rintro _ rfl); (rintro _ rfl); (rintro _ rfl); intro K hK; have k0 := (hS.cell (p := ⟨w.heap.size, 0, none⟩) hX.lt).trans x0; have k1 := (hS.cell (p := ⟨w.heap.size, 1, none⟩) hX.lt).trans x1; first | (refine Free.run_yes (by rfl) ?_; go_simp; refine Free.o hK hS ?_; exact rfl) | (refine Free.run_no (by rfl) (Free.o hK hS ?_); exact rfl)
    refine Free.cons ?_ ?_
    · intro w' hS; (rintro _ rfl); (rintro _ rfl); intro K hK; have k0 := (hS.cell (p := ⟨w.heap.size, 0, none⟩) hX.lt).trans x0; have k1 := (hS.cell (p := ⟨w.heap.size, 1, none⟩) hX.lt).trans x1; first | (refine Free.run_yes (by rfl) ?_; go_simp; refine Free.o hK hS ?_; exact rfl) | (refine Free.run_no (by rfl) (Free.o hK hS ?_); exact rfl)
    refine Free.cons ?_ ?_
    · intro w' hS; (rintro _ rfl); intro K hK; have k0 := (hS.cell (p := ⟨w.heap.size, 0, none⟩) hX.lt).trans x0; have k1 := (hS.cell (p := ⟨w.heap.size, 1, none⟩) hX.lt).trans x1; first | (refine Free.run_yes (by rfl) ?_; go_simp; refine Free.o hK hS ?_; exact rfl) | (refine Free.run_no (by rfl) (Free.o hK hS ?_); exact rfl)
    refine Free.cons ?_ ?_
    · intro w' hS; (rintro _ rfl); intro K hK; have k0 := (hS.cell (p := ⟨w.heap.size, 0, none⟩) hX.lt).trans x0; have k1 := (hS.cell (p := ⟨w.heap.size, 1, none⟩) hX.lt).trans x1; first | (refine Free.run_yes (by rfl) ?_; go_simp; refine Free.o hK hS ?_; exact rfl) | (refine Free.run_no (by rfl) (Free.o hK hS ?_); exact rfl)
    refine Free.cons ?_ ?_
    · intro w' hS; (rintro _ rfl); intro K hK; have k0 := (hS.cell (p := ⟨w.heap.size, 0, none⟩) hX.lt).trans x0; have k1 := (hS.cell (p := ⟨w.heap.size, 1, none⟩) hX.lt).trans x1; first | (refine Free.run_yes (by rfl) ?_; go_simp; refine Free.o hK hS ?_; exact rfl) | (refine Free.run_no (by rfl) (Free.o hK hS ?_); exact rfl)
    refine Free.cons ?_ ?_
    · intro w' hS; (rintro _ rfl); (rintro _ rfl); intro K hK; have k0 := (hS.cell (p := ⟨w.heap.size, 0, none⟩) hX.lt).trans x0; have k1 := (hS.cell (p := ⟨w.heap.size, 1, none⟩) hX.lt).trans x1; first | (refine Free.run_yes (by rfl) ?_; go_simp; refine Free.o hK hS ?_; exact rfl) | (refine Free.run_no (by rfl) (Free.o hK hS ?_); exact rfl)
    refine Free.cons ?_ ?_
    · intro w' hS; (rintro _ rfl); (rintro _ rfl); (rintro _ rfl); intro K hK; have k0 := (hS.cell (p := ⟨w.heap.size, 0, none⟩) hX.lt).trans x0; have k1 := (hS.cell (p := ⟨w.heap.size, 1, none⟩) hX.lt).trans x1; first | (refine Free.run_yes (by rfl) ?_; go_simp; refine Free.o hK hS ?_; exact rfl) | (refine Free.run_no (by rfl) (Free.o hK hS ?_); exact rfl)
    refine Free.cons ?_ ?_
    · intro w' hS; (rintro _ rfl); (rintro _ rfl); intro K hK; have k0 := (hS.cell (p := ⟨w.heap.size, 0, none⟩) hX.lt).trans x0; have k1 := (hS.cell (p := ⟨w.heap.size, 1, none⟩) hX.lt).trans x1; first | (refine Free.run_yes (by rfl) ?_; go_simp; refine Free.o hK hS ?_; exact rfl) | (refine Free.run_no (by rfl) (Free.o hK hS ?_); exact rfl)
    refine Free.cons ?_ ?_
    · intro w' hS; (rintro _ rfl); intro K hK; have k0 := (hS.cell (p := ⟨w.heap.size, 0, none⟩) hX.lt).trans x0; have k1 := (hS.cell (p := ⟨w.heap.size, 1, none⟩) hX.lt).trans x1; first | (refine Free.run_yes (by rfl) ?_; go_simp; refine Free.o hK hS ?_; exact rfl) | (refine Free.run_no (by rfl) (Free.o hK hS ?_); exact rfl)
    refine Free.cons ?_ ?_
    · intro w' hS; (rintro _ rfl); (rintro _ rfl); intro K hK; have k0 := (hS.cell (p := ⟨w.heap.size, 0, none⟩) hX.lt).trans x0; have k1 := (hS.cell (p := ⟨w.heap.size, 1, none⟩) hX.lt).trans x1; first | (refine Free.run_yes (by rfl) ?_; go_simp; refine Free.o hK hS ?_; exact rfl) | (refine Free.run_no (by rfl) (Free.o hK hS ?_); exact rfl)
    refine Free.cons ?_ ?_
    · intro w' hS; (rintro _ rfl); (rintro _ rfl); (rintro _ rfl); intro K hK; have k0 := (hS.cell (p := ⟨w.heap.size, 0, none⟩) hX.lt).trans x0; have k1 := (hS.cell (p := ⟨w.heap.size, 1, none⟩) hX.lt).trans x1; first | (refine Free.run_yes (by rfl) ?_; go_simp; (fail); go_simp; refine Free.c hK (keep hS hb) hb ?_; exact rfl) | (refine Free.run_no (by rfl) (Free.o hK hS ?_); exact rfl)
    refine Free.cons ?_ ?_
    · intro w' hS; (rintro _ rfl); (rintro _ rfl); intro K hK; have k0 := (hS.cell (p := ⟨w.heap.size, 0, none⟩) hX.lt).trans x0; have k1 := (hS.cell (p := ⟨w.heap.size, 1, none⟩) hX.lt).trans x1; first | (refine Free.run_yes (by rfl) ?_; go_simp; refine Free.o hK hS ?_; exact rfl) | (refine Free.run_no (by rfl) (Free.o hK hS ?_); exact rfl)
    refine Free.cons ?_ ?_
    · intro w' hS; (rintro _ rfl); intro K hK; have k0 := (hS.cell (p := ⟨w.heap.size, 0, none⟩) hX.lt).trans x0; have k1 := (hS.cell (p := ⟨w.heap.size, 1, none⟩) hX.lt).trans x1; first | (refine Free.run_yes (by rfl) ?_; go_simp; refine Free.o hK hS ?_; exact rfl) | (refine Free.run_no (by rfl) (Free.o hK hS ?_); exact rfl)
    exact Free.nil
    clear hvo
    intro w' hS; intro v0; intro v1; intro v2; intro v3; intro v4; intro v5; intro v6; intro v7; intro v8; intro v9; intro v10; intro v11; intro v12; intro v13; intro v14; intro v15; intro v16; intro v17; intro v18; intro v19; (rintro _ rfl); (try simp only [Act.put, List.setIfInBounds_toArray, List.set_cons_zero, List.set_cons_succ]); refine Free.toldE_nil ?_
    go_wp2
    go_ret
    exact ⟨(show Ending.returned (.bool false) = .returned (.bool (mayRow Z ⟨t, V⟩)) from by rewrite [he.out]; rfl), Below.next bb hS (Nat.le_refl _)⟩
  · have he := Lib.hid (mayRow_far (Z := Z) (V := V) (t := t) (by omega))
    have f1 : decide (0 ≤ t) = true := decide_eq_true (by omega)
    have f2 : decide (t ≥ 0) = true := decide_eq_true (by omega)
    have f3 : decide (t < (n : Int)) = false := decide_eq_false (by omega)
    go_enter Try.func41, Try.ntmps41
    go_wp2_with fail
    obtain ⟨w1, hw1⟩ : ∃ w1, w.alloc (.cells #[.int .i64 t, .slice A2 n2 c2] 26) = w1 := ⟨_, rfl⟩
    rw [hw1] at bb hX ⊢
    have x0 := hX.cell 0 (v := .int .i64 t) rfl
    have x1 := hX.cell 1 (v := .slice A2 n2 c2) rfl
    have hvo := Free.val
    refine Free.wp_facts (M := [0, 1, 3, 7, 15, 31, 15, 79, 255, 511, 1023, 2047, 2047, 6143, 16383, 32767, 2047, 67583, 262143, 524287, 1048575]) (D := [[], [(0, 5)], [(1, 6)], [(2, 7)], [(3, 8)], [(4, 9), (3, 8)], [(3, 8)], [(6, 11), (3, 8)], [(5, 10), (7, 12), (3, 8)], [(3, 8), (8, 13)], [(9, 14)], [(10, 15)], [(10, 15)], [(12, 17), (10, 15)], [(11, 16), (13, 18), (10, 15)], [(14, 19), (10, 15)], [(10, 15)], [(16, 21), (10, 15)], [(15, 20), (17, 22), (10, 15)], [(10, 15), (18, 23)], [(19, 24)]]) (outs := [20]) (soles := []) (E := [(0, 5, false), (1, 6, false), (2, 7, false), (3, 8, false), (4, 9, false), (5, 10, false), (6, 11, false), (7, 12, false), (8, 13, false), (9, 14, false), (10, 15, false), (11, 16, false), (12, 17, false), (13, 18, false), (14, 19, false), (15, 20, false), (16, 21, false), (17, 22, false), (18, 23, false), (19, 24, false), (20, 4, true)]) (N := 25) (S := (fun w' => Below w1.heap.size w1 w')) [Free.Fact.is ?_, Free.Fact.is ?_, Free.Fact.is ?_, Free.Fact.is ?_, Free.Fact.is ?_, Free.Fact.is ?_, Free.Fact.is ?_, Free.Fact.is ?_, Free.Fact.is ?_, Free.Fact.is ?_, Free.Fact.is ?_, Free.Fact.is ?_, Free.Fact.is ?_, Free.Fact.is ?_, Free.Fact.is ?_, Free.Fact.is ?_, Free.Fact.is ?_, Free.Fact.is ?_, Free.Fact.is ?_, Free.Fact.is ?_, Free.Fact.is ?_] (by kernel_rfl) (by kernel_rfl) rfl ((Below.refl _ _).drew) ?_ ?_
    rotate_left 21
    refine Free.cons ?_ ?_
    · intro w' hS; intro K hK; have k0 := (hS.cell (p := ⟨w.heap.size, 0, none⟩) hX.lt).trans x0; have k1 := (hS.cell (p := ⟨w.heap.size, 1, none⟩) hX.lt).trans x1; first | (refine Free.run_yes (by rfl) ?_; go_simp; refine Free.o hK hS ?_; exact rfl) | (refine Free.run_no (by rfl) (Free.o hK hS ?_); exact rfl)
    refine Free.cons ?_ ?_
    · intro w' hS; (rintro _ rfl); intro K hK; have k0 := (hS.cell (p := ⟨w.heap.size, 0, none⟩) hX.lt).trans x0; have k1 := (hS.cell (p := ⟨w.heap.size, 1, none⟩) hX.lt).trans x1; first | (refine Free.run_yes (by rfl) ?_; go_simp; refine Free.o hK hS ?_; exact rfl) | (refine Free.run_no (by rfl) (Free.o hK hS ?_); exact rfl)
    refine Free.cons ?_ ?_
    · intro w' hS; (rintro _ rfl); intro K hK; have k0 := (hS.cell (p := ⟨w.heap.size, 0, none⟩) hX.lt).trans x0; have k1 := (hS.cell (p := ⟨w.heap.size, 1, none⟩) hX.lt).trans x1; first | (refine Free.run_yes (by rfl) ?_; go_simp; refine Free.o hK hS ?_; exact rfl) | (refine Free.run_no (by rfl) (Free.o hK hS ?_); exact rfl)
    refine Free.cons ?_ ?_
    · intro w' hS; (rintro _ rfl); intro K hK; have k0 := (hS.cell (p := ⟨w.heap.size, 0, none⟩) hX.lt).trans x0; have k1 := (hS.cell (p := ⟨w.heap.size, 1, none⟩) hX.lt).trans x1; first | (refine Free.run_yes (by rfl) ?_; go_simp; refine Free.o hK hS ?_; exact rfl) | (refine Free.run_no (by rfl) (Free.o hK hS ?_); exact rfl)
    refine Free.cons ?_ ?_
    · intro w' hS; (rintro _ rfl); intro K hK; have k0 := (hS.cell (p := ⟨w.heap.size, 0, none⟩) hX.lt).trans x0; have k1 := (hS.cell (p := ⟨w.heap.size, 1, none⟩) hX.lt).trans x1; first | (refine Free.run_yes (by rfl) ?_; go_simp; refine Free.o hK hS ?_; exact rfl) | (refine Free.run_no (by rfl) (Free.o hK hS ?_); exact rfl)
    refine Free.cons ?_ ?_
    · intro w' hS; (rintro _ rfl); (rintro _ rfl); intro K hK; have k0 := (hS.cell (p := ⟨w.heap.size, 0, none⟩) hX.lt).trans x0; have k1 := (hS.cell (p := ⟨w.heap.size, 1, none⟩) hX.lt).trans x1; first | (refine Free.run_yes (by rfl) ?_; go_simp; refine Free.o hK hS ?_; exact rfl) | (refine Free.run_no (by rfl) (Free.o hK hS ?_); exact rfl)
    refine Free.cons ?_ ?_
    · intro w' hS; (rintro _ rfl); intro K hK; have k0 := (hS.cell (p := ⟨w.heap.size, 0, none⟩) hX.lt).trans x0; have k1 := (hS.cell (p := ⟨w.heap.size, 1, none⟩) hX.lt).trans x1; first | (refine Free.run_yes (by rfl) ?_; go_simp; refine Free.o hK hS ?_; exact rfl) | (refine Free.run_no (by rfl) (Free.o hK hS ?_); exact rfl)
    refine Free.cons ?_ ?_
    · intro w' hS; (rintro _ rfl); (rintro _ rfl); intro K hK; have k0 := (hS.cell (p := ⟨w.heap.size, 0, none⟩) hX.lt).trans x0; have k1 := (hS.cell (p := ⟨w.heap.size, 1, none⟩) hX.lt).trans x1; first | (refine Free.run_yes (by rfl) ?_; go_simp; refine Free.o hK hS ?_; exact rfl) | (refine Free.run_no (by rfl) (Free.o hK hS ?_); exact rfl)
    refine Free.cons ?_ ?_
    · intro w' hS; (rintro _ rfl); (rintro _ rfl); (rintro _ rfl); intro K hK; have k0 := (hS.cell (p := ⟨w.heap.size, 0, none⟩) hX.lt).trans x0; have k1 := (hS.cell (p := ⟨w.heap.size, 1, none⟩) hX.lt).trans x1; first | (refine Free.run_yes (by rfl) ?_; go_simp; refine Free.o hK hS ?_; exact rfl) | (refine Free.run_no (by rfl) (Free.o hK hS ?_); exact rfl)
    refine Free.cons ?_ ?_
    · intro w' hS; (rintro _ rfl); (rintro _ rfl); intro K hK; have k0 := (hS.cell (p := ⟨w.heap.size, 0, none⟩) hX.lt).trans x0; have k1 := (hS.cell (p := ⟨w.heap.size, 1, none⟩) hX.lt).trans x1; first | (refine Free.run_yes (by rfl) ?_; go_simp; refine Free.o hK hS ?_; exact rfl) | (refine Free.run_no (by rfl) (Free.o hK hS ?_); exact rfl)
    refine Free.cons ?_ ?_
    · intro w' hS; (rintro _ rfl); intro K hK; have k0 := (hS.cell (p := ⟨w.heap.size, 0, none⟩) hX.lt).trans x0; have k1 := (hS.cell (p := ⟨w.heap.size, 1, none⟩) hX.lt).trans x1; first | (refine Free.run_yes (by rfl) ?_; go_simp; refine Free.o hK hS ?_; exact rfl) | (refine Free.run_no (by rfl) (Free.o hK hS ?_); exact rfl)
    refine Free.cons ?_ ?_
    · intro w' hS; (rintro _ rfl); intro K hK; have k0 := (hS.cell (p := ⟨w.heap.size, 0, none⟩) hX.lt).trans x0; have k1 := (hS.cell (p := ⟨w.heap.size, 1, none⟩) hX.lt).trans x1; first | (refine Free.run_yes (by rfl) ?_; go_simp; refine Free.o hK hS ?_; exact rfl) | (refine Free.run_no (by rfl) (Free.o hK hS ?_); exact rfl)
    refine Free.cons ?_ ?_
    · intro w' hS; (rintro _ rfl); intro K hK; have k0 := (hS.cell (p := ⟨w.heap.size, 0, none⟩) hX.lt).trans x0; have k1 := (hS.cell (p := ⟨w.heap.size, 1, none⟩) hX.lt).trans x1; first | (refine Free.run_yes (by rfl) ?_; go_simp; refine Free.o hK hS ?_; exact rfl) | (refine Free.run_no (by rfl) (Free.o hK hS ?_); exact rfl)
    refine Free.cons ?_ ?_
    · intro w' hS; (rintro _ rfl); (rintro _ rfl); intro K hK; have k0 := (hS.cell (p := ⟨w.heap.size, 0, none⟩) hX.lt).trans x0; have k1 := (hS.cell (p := ⟨w.heap.size, 1, none⟩) hX.lt).trans x1; first | (refine Free.run_yes (by rfl) ?_; go_simp; refine Free.o hK hS ?_; exact rfl) | (refine Free.run_no (by rfl) (Free.o hK hS ?_); exact rfl)
    refine Free.cons ?_ ?_
    · intro w' hS; (rintro _ rfl); (rintro _ rfl); (rintro _ rfl); intro K hK; have k0 := (hS.cell (p := ⟨w.heap.size, 0, none⟩) hX.lt).trans x0; have k1 := (hS.cell (p := ⟨w.heap.size, 1, none⟩) hX.lt).trans x1; first | (refine Free.run_yes (by rfl) ?_; go_simp; refine Free.o hK hS ?_; exact rfl) | (refine Free.run_no (by rfl) (Free.o hK hS ?_); exact rfl)
    refine Free.cons ?_ ?_
    · intro w' hS; (rintro _ rfl); (rintro _ rfl); intro K hK; have k0 := (hS.cell (p := ⟨w.heap.size, 0, none⟩) hX.lt).trans x0; have k1 := (hS.cell (p := ⟨w.heap.size, 1, none⟩) hX.lt).trans x1; first | (refine Free.run_yes (by rfl) ?_; go_simp; refine Free.o hK hS ?_; exact rfl) | (refine Free.run_no (by rfl) (Free.o hK hS ?_); exact rfl)
    refine Free.cons ?_ ?_
    · intro w' hS; (rintro _ rfl); intro K hK; have k0 := (hS.cell (p := ⟨w.heap.size, 0, none⟩) hX.lt).trans x0; have k1 := (hS.cell (p := ⟨w.heap.size, 1, none⟩) hX.lt).trans x1; first | (refine Free.run_yes (by rfl) ?_; go_simp; refine Free.o hK hS ?_; exact rfl) | (refine Free.run_no (by rfl) (Free.o hK hS ?_); exact rfl)
    refine Free.cons ?_ ?_
    · intro w' hS; (rintro _ rfl); (rintro _ rfl); intro K hK; have k0 := (hS.cell (p := ⟨w.heap.size, 0, none⟩) hX.lt).trans x0; have k1 := (hS.cell (p := ⟨w.heap.size, 1, none⟩) hX.lt).trans x1; first | (refine Free.run_yes (by rfl) ?_; go_simp; refine Free.o hK hS ?_; exact rfl) | (refine Free.run_no (by rfl) (Free.o hK hS ?_); exact rfl)
    refine Free.cons ?_ ?_
    · intro w' hS; (rintro _ rfl); (rintro _ rfl); (rintro _ rfl); intro K hK; have k0 := (hS.cell (p := ⟨w.heap.size, 0, none⟩) hX.lt).trans x0; have k1 := (hS.cell (p := ⟨w.heap.size, 1, none⟩) hX.lt).trans x1; first | (refine Free.run_yes (by rfl) ?_; go_simp; (fail); go_simp; refine Free.c hK (keep hS hb) hb ?_; exact rfl) | (refine Free.run_no (by rfl) (Free.o hK hS ?_); exact rfl)
    refine Free.cons ?_ ?_
    · intro w' hS; (rintro _ rfl); (rintro _ rfl); intro K hK; have k0 := (hS.cell (p := ⟨w.heap.size, 0, none⟩) hX.lt).trans x0; have k1 := (hS.cell (p := ⟨w.heap.size, 1, none⟩) hX.lt).trans x1; first | (refine Free.run_yes (by rfl) ?_; go_simp; refine Free.o hK hS ?_; exact rfl) | (refine Free.run_no (by rfl) (Free.o hK hS ?_); exact rfl)
    refine Free.cons ?_ ?_
    · intro w' hS; (rintro _ rfl); intro K hK; have k0 := (hS.cell (p := ⟨w.heap.size, 0, none⟩) hX.lt).trans x0; have k1 := (hS.cell (p := ⟨w.heap.size, 1, none⟩) hX.lt).trans x1; first | (refine Free.run_yes (by rfl) ?_; go_simp; refine Free.o hK hS ?_; exact rfl) | (refine Free.run_no (by rfl) (Free.o hK hS ?_); exact rfl)
    exact Free.nil
    clear hvo
    intro w' hS; intro v0; intro v1; intro v2; intro v3; intro v4; intro v5; intro v6; intro v7; intro v8; intro v9; intro v10; intro v11; intro v12; intro v13; intro v14; intro v15; intro v16; intro v17; intro v18; intro v19; (rintro _ rfl); (try simp only [Act.put, List.setIfInBounds_toArray, List.set_cons_zero, List.set_cons_succ]); refine Free.toldE_nil ?_
    go_wp2
    go_ret
    exact ⟨(show Ending.returned (.bool false) = .returned (.bool (mayRow Z ⟨t, V⟩)) from by rewrite [he.out]; rfl), Below.next bb hS (Nat.le_refl _)⟩
  · obtain ⟨z, hz⟩ : ∃ z, Z[j]? = some z := ⟨_, List.getElem?_eq_getElem (by omega)⟩
    have he := Lib.hid (mayRow_in (V := V) hz)
    obtain ⟨g, o, rfl, hc⟩ := h.at_ (by omega)
    obtain ⟨B, kk, hc0, hRN⟩ := hc j z hz
    have HF := Lib.hid (fun w h h2 => ref_fits B z.length kk z A2 n2 c2 V w h h2)
    have hRNh := Lib.hid hRN
    obtain ⟨y, hy⟩ : ∃ y, fitsL z V = y := ⟨_, rfl⟩
    rw [hy] at HF he
    have f1 : decide (0 ≤ (j : Int)) = true := decide_eq_true (by omega)
    have f2 : decide ((j : Int) ≥ 0) = true := decide_eq_true (by omega)
    have f3 : decide ((j : Int) < (n : Int)) = true := decide_eq_true (by omega)
    have hg := World.block_lt_of_cell? w _ hc0
    have d0 := (bb.cell (p := ⟨g, o + j, none⟩) hg).trans hc0
    obtain ⟨zl, hzl⟩ : ∃ m, z.length = m := ⟨_, rfl⟩
    rw [hzl] at d0 HF hRN hRNh
    clear hc hz hl hc0 hRN hy hzl
    go_enter Try.func41, Try.ntmps41
    go_wp2_with fail
    obtain ⟨w1, hw1⟩ : ∃ w1, w.alloc (.cells #[.int .i64 (j : Int), .slice A2 n2 c2] 26) = w1 := ⟨_, rfl⟩
    rw [hw1] at bb hX d0 ⊢
    have x0 := hX.cell 0 (v := .int .i64 (j : Int)) rfl
    have x1 := hX.cell 1 (v := .slice A2 n2 c2) rfl
    have hg1 := World.block_lt_of_cell? w1 _ d0
    clear hw1
    have hvo := Free.val
    refine Free.wp_facts (M := [0, 1, 3, 7, 15, 31, 15, 79, 255, 511, 1023, 2047, 2047, 6143, 16383, 32767, 2047, 67583, 262143, 524287, 1048575]) (D := [[], [(0, 5)], [(1, 6)], [(2, 7)], [(3, 8)], [(4, 9), (3, 8)], [(3, 8)], [(6, 11), (3, 8)], [(5, 10), (7, 12), (3, 8)], [(3, 8), (8, 13)], [(9, 14)], [(10, 15)], [(10, 15)], [(12, 17), (10, 15)], [(11, 16), (13, 18), (10, 15)], [(14, 19), (10, 15)], [(10, 15)], [(16, 21), (10, 15)], [(15, 20), (17, 22), (10, 15)], [(10, 15), (18, 23)], [(19, 24)]]) (outs := [20]) (soles := []) (E := [(0, 5, false), (1, 6, false), (2, 7, false), (3, 8, false), (4, 9, false), (5, 10, false), (6, 11, false), (7, 12, false), (8, 13, false), (9, 14, false), (10, 15, false), (11, 16, false), (12, 17, false), (13, 18, false), (14, 19, false), (15, 20, false), (16, 21, false), (17, 22, false), (18, 23, false), (19, 24, false), (20, 4, true)]) (N := 25) (S := (fun w' => Below w1.heap.size w1 w')) [Free.Fact.is ?_, Free.Fact.is ?_, Free.Fact.is ?_, Free.Fact.is ?_, Free.Fact.is ?_, Free.Fact.is ?_, Free.Fact.is ?_, Free.Fact.is ?_, Free.Fact.is ?_, Free.Fact.is ?_, Free.Fact.is ?_, Free.Fact.is ?_, Free.Fact.is ?_, Free.Fact.is ?_, Free.Fact.is ?_, Free.Fact.is ?_, Free.Fact.is ?_, Free.Fact.is ?_, Free.Fact.is ?_, Free.Fact.is ?_, Free.Fact.is ?_] (by kernel_rfl) (by kernel_rfl) rfl ((Below.refl _ _).drew) ?_ ?_
    rotate_left 21
    refine Free.cons ?_ ?_
    · intro w' hS; intro K hK; have ka0 := (hS.cell (p := ⟨w.heap.size, 0, none⟩) hX.lt).trans x0; have ka1 := (hS.cell (p := ⟨w.heap.size, 1, none⟩) hX.lt).trans x1; have ka2 := (hS.cell (p := ⟨g, o + j, none⟩) hg1).trans d0; first | (refine Free.run_yes (by rfl) ?_; go_simp; refine Free.o hK hS ?_; exact rfl) | (refine Free.run_no (by rfl) (Free.o hK hS ?_); exact rfl)
    refine Free.cons ?_ ?_
    · intro w' hS; (rintro _ rfl); intro K hK; have ka0 := (hS.cell (p := ⟨w.heap.size, 0, none⟩) hX.lt).trans x0; have ka1 := (hS.cell (p := ⟨w.heap.size, 1, none⟩) hX.lt).trans x1; have ka2 := (hS.cell (p := ⟨g, o + j, none⟩) hg1).trans d0; first | (refine Free.run_yes (by rfl) ?_; go_simp; refine Free.o hK hS ?_; exact rfl) | (refine Free.run_no (by rfl) (Free.o hK hS ?_); exact rfl)
    refine Free.cons ?_ ?_
    · intro w' hS; (rintro _ rfl); intro K hK; have ka0 := (hS.cell (p := ⟨w.heap.size, 0, none⟩) hX.lt).trans x0; have ka1 := (hS.cell (p := ⟨w.heap.size, 1, none⟩) hX.lt).trans x1; have ka2 := (hS.cell (p := ⟨g, o + j, none⟩) hg1).trans d0; first | (refine Free.run_yes (by rfl) ?_; go_simp; refine Free.o hK hS ?_; exact rfl) | (refine Free.run_no (by rfl) (Free.o hK hS ?_); exact rfl)
    refine Free.cons ?_ ?_
    · intro w' hS; (rintro _ rfl); intro K hK; have ka0 := (hS.cell (p := ⟨w.heap.size, 0, none⟩) hX.lt).trans x0; have ka1 := (hS.cell (p := ⟨w.heap.size, 1, none⟩) hX.lt).trans x1; have ka2 := (hS.cell (p := ⟨g, o + j, none⟩) hg1).trans d0; first | (refine Free.run_yes (by rfl) ?_; go_simp; refine Free.o hK hS ?_; exact rfl) | (refine Free.run_no (by rfl) (Free.o hK hS ?_); exact rfl)
    refine Free.cons ?_ ?_
    · intro w' hS; (rintro _ rfl); intro K hK; have ka0 := (hS.cell (p := ⟨w.heap.size, 0, none⟩) hX.lt).trans x0; have ka1 := (hS.cell (p := ⟨w.heap.size, 1, none⟩) hX.lt).trans x1; have ka2 := (hS.cell (p := ⟨g, o + j, none⟩) hg1).trans d0; first | (refine Free.run_yes (by rfl) ?_; go_simp; refine Free.o hK hS ?_; exact rfl) | (refine Free.run_no (by rfl) (Free.o hK hS ?_); exact rfl)
    refine Free.cons ?_ ?_
    · intro w' hS; (rintro _ rfl); (rintro _ rfl); intro K hK; have ka0 := (hS.cell (p := ⟨w.heap.size, 0, none⟩) hX.lt).trans x0; have ka1 := (hS.cell (p := ⟨w.heap.size, 1, none⟩) hX.lt).trans x1; have ka2 := (hS.cell (p := ⟨g, o + j, none⟩) hg1).trans d0; first | (refine Free.run_yes (by rfl) ?_; go_simp; refine Free.o hK hS ?_; exact rfl) | (refine Free.run_no (by rfl) (Free.o hK hS ?_); exact rfl)
    refine Free.cons ?_ ?_
    · intro w' hS; (rintro _ rfl); intro K hK; have ka0 := (hS.cell (p := ⟨w.heap.size, 0, none⟩) hX.lt).trans x0; have ka1 := (hS.cell (p := ⟨w.heap.size, 1, none⟩) hX.lt).trans x1; have ka2 := (hS.cell (p := ⟨g, o + j, none⟩) hg1).trans d0; first | (refine Free.run_yes (by rfl) ?_; go_simp; refine Free.o hK hS ?_; exact rfl) | (refine Free.run_no (by rfl) (Free.o hK hS ?_); exact rfl)
    refine Free.cons ?_ ?_
    · intro w' hS; (rintro _ rfl); (rintro _ rfl); intro K hK; have ka0 := (hS.cell (p := ⟨w.heap.size, 0, none⟩) hX.lt).trans x0; have ka1 := (hS.cell (p := ⟨w.heap.size, 1, none⟩) hX.lt).trans x1; have ka2 := (hS.cell (p := ⟨g, o + j, none⟩) hg1).trans d0; first | (refine Free.run_yes (by rfl) ?_; go_simp; refine Free.o hK hS ?_; exact rfl) | (refine Free.run_no (by rfl) (Free.o hK hS ?_); exact rfl)
    refine Free.cons ?_ ?_
    · intro w' hS; (rintro _ rfl); (rintro _ rfl); (rintro _ rfl); intro K hK; have ka0 := (hS.cell (p := ⟨w.heap.size, 0, none⟩) hX.lt).trans x0; have ka1 := (hS.cell (p := ⟨w.heap.size, 1, none⟩) hX.lt).trans x1; have ka2 := (hS.cell (p := ⟨g, o + j, none⟩) hg1).trans d0; first | (refine Free.run_yes (by rfl) ?_; go_simp; refine Free.o hK hS ?_; exact rfl) | (refine Free.run_no (by rfl) (Free.o hK hS ?_); exact rfl)
    refine Free.cons ?_ ?_
    · intro w' hS; (rintro _ rfl); (rintro _ rfl); intro K hK; have ka0 := (hS.cell (p := ⟨w.heap.size, 0, none⟩) hX.lt).trans x0; have ka1 := (hS.cell (p := ⟨w.heap.size, 1, none⟩) hX.lt).trans x1; have ka2 := (hS.cell (p := ⟨g, o + j, none⟩) hg1).trans d0; first | (refine Free.run_yes (by rfl) ?_; go_simp; refine Free.o hK hS ?_; exact rfl) | (refine Free.run_no (by rfl) (Free.o hK hS ?_); exact rfl)
    refine Free.cons ?_ ?_
    · intro w' hS; (rintro _ rfl); intro K hK; have ka0 := (hS.cell (p := ⟨w.heap.size, 0, none⟩) hX.lt).trans x0; have ka1 := (hS.cell (p := ⟨w.heap.size, 1, none⟩) hX.lt).trans x1; have ka2 := (hS.cell (p := ⟨g, o + j, none⟩) hg1).trans d0; first | (refine Free.run_yes (by rfl) ?_; go_simp; refine Free.o hK hS ?_; exact rfl) | (refine Free.run_no (by rfl) (Free.o hK hS ?_); exact rfl)
    refine Free.cons ?_ ?_
    · intro w' hS; (rintro _ rfl); intro K hK; have ka0 := (hS.cell (p := ⟨w.heap.size, 0, none⟩) hX.lt).trans x0; have ka1 := (hS.cell (p := ⟨w.heap.size, 1, none⟩) hX.lt).trans x1; have ka2 := (hS.cell (p := ⟨g, o + j, none⟩) hg1).trans d0; first | (refine Free.run_yes (by rfl) ?_; go_simp; refine Free.o hK hS ?_; exact rfl) | (refine Free.run_no (by rfl) (Free.o hK hS ?_); exact rfl)
    refine Free.cons ?_ ?_
    · intro w' hS; (rintro _ rfl); intro K hK; have ka0 := (hS.cell (p := ⟨w.heap.size, 0, none⟩) hX.lt).trans x0; have ka1 := (hS.cell (p := ⟨w.heap.size, 1, none⟩) hX.lt).trans x1; have ka2 := (hS.cell (p := ⟨g, o + j, none⟩) hg1).trans d0; first | (refine Free.run_yes (by rfl) ?_; go_simp; refine Free.o hK hS ?_; exact rfl) | (refine Free.run_no (by rfl) (Free.o hK hS ?_); exact rfl)
    refine Free.cons ?_ ?_
    · intro w' hS; (rintro _ rfl); (rintro _ rfl); intro K hK; have ka0 := (hS.cell (p := ⟨w.heap.size, 0, none⟩) hX.lt).trans x0; have ka1 := (hS.cell (p := ⟨w.heap.size, 1, none⟩) hX.lt).trans x1; have ka2 := (hS.cell (p := ⟨g, o + j, none⟩) hg1).trans d0; first | (refine Free.run_yes (by rfl) ?_; go_simp; refine Free.o hK hS ?_; exact rfl) | (refine Free.run_no (by rfl) (Free.o hK hS ?_); exact rfl)
    refine Free.cons ?_ ?_
    · intro w' hS; (rintro _ rfl); (rintro _ rfl); (rintro _ rfl); intro K hK; have ka0 := (hS.cell (p := ⟨w.heap.size, 0, none⟩) hX.lt).trans x0; have ka1 := (hS.cell (p := ⟨w.heap.size, 1, none⟩) hX.lt).trans x1; have ka2 := (hS.cell (p := ⟨g, o + j, none⟩) hg1).trans d0; first | (refine Free.run_yes (by rfl) ?_; go_simp; refine Free.o hK hS ?_; exact rfl) | (refine Free.run_no (by rfl) (Free.o hK hS ?_); exact rfl)
    refine Free.cons ?_ ?_
    · intro w' hS; (rintro _ rfl); (rintro _ rfl); intro K hK; have ka0 := (hS.cell (p := ⟨w.heap.size, 0, none⟩) hX.lt).trans x0; have ka1 := (hS.cell (p := ⟨w.heap.size, 1, none⟩) hX.lt).trans x1; have ka2 := (hS.cell (p := ⟨g, o + j, none⟩) hg1).trans d0; first | (refine Free.run_yes (by rfl) ?_; go_simp; refine Free.o hK hS ?_; exact rfl) | (refine Free.run_no (by rfl) (Free.o hK hS ?_); exact rfl)
    refine Free.cons ?_ ?_
    · intro w' hS; (rintro _ rfl); intro K hK; have ka0 := (hS.cell (p := ⟨w.heap.size, 0, none⟩) hX.lt).trans x0; have ka1 := (hS.cell (p := ⟨w.heap.size, 1, none⟩) hX.lt).trans x1; have ka2 := (hS.cell (p := ⟨g, o + j, none⟩) hg1).trans d0; first | (refine Free.run_yes (by rfl) ?_; go_simp; refine Free.o hK hS ?_; exact rfl) | (refine Free.run_no (by rfl) (Free.o hK hS ?_); exact rfl)
    refine Free.cons ?_ ?_
    · intro w' hS; (rintro _ rfl); (rintro _ rfl); intro K hK; have ka0 := (hS.cell (p := ⟨w.heap.size, 0, none⟩) hX.lt).trans x0; have ka1 := (hS.cell (p := ⟨w.heap.size, 1, none⟩) hX.lt).trans x1; have ka2 := (hS.cell (p := ⟨g, o + j, none⟩) hg1).trans d0; first | (refine Free.run_yes (by rfl) ?_; go_simp; refine Free.o hK hS ?_; exact rfl) | (refine Free.run_no (by rfl) (Free.o hK hS ?_); exact rfl)
    refine Free.cons ?_ ?_
    · intro w' hS; (rintro _ rfl); (rintro _ rfl); (rintro _ rfl); intro K hK; have ka0 := (hS.cell (p := ⟨w.heap.size, 0, none⟩) hX.lt).trans x0; have ka1 := (hS.cell (p := ⟨w.heap.size, 1, none⟩) hX.lt).trans x1; have ka2 := (hS.cell (p := ⟨g, o + j, none⟩) hg1).trans d0; refine Free.run_yes (by rfl) ?_; (go_simp; go_at_call 40; refine (HF.out _ (hRNh.out.below (bb.trans (hS.mono bb.size))) (h2.below (bb.trans (hS.mono bb.size)))).mono ?_; rintro e w' ⟨rfl, hb⟩; (try simp only [Free.valOf, Act.put, List.setIfInBounds_toArray, List.set_cons_zero, List.set_cons_succ, Array.getD_eq_getD_getElem?, List.getElem?_toArray, List.getElem?_cons_succ, List.getElem?_cons_zero, Option.getD_some]); refine hK.out _ _ ?_ (Below.next hS hb (Nat.le_refl _)) (.inr hb); exact rfl)
    refine Free.cons ?_ ?_
    · intro w' hS; (rintro _ rfl); (rintro _ rfl); intro K hK; have ka0 := (hS.cell (p := ⟨w.heap.size, 0, none⟩) hX.lt).trans x0; have ka1 := (hS.cell (p := ⟨w.heap.size, 1, none⟩) hX.lt).trans x1; have ka2 := (hS.cell (p := ⟨g, o + j, none⟩) hg1).trans d0; first | (refine Free.run_yes (by rfl) ?_; go_simp; refine Free.o hK hS ?_; exact rfl) | (refine Free.run_no (by rfl) (Free.o hK hS ?_); exact rfl)
    refine Free.cons ?_ ?_
    · intro w' hS; (rintro _ rfl); intro K hK; have ka0 := (hS.cell (p := ⟨w.heap.size, 0, none⟩) hX.lt).trans x0; have ka1 := (hS.cell (p := ⟨w.heap.size, 1, none⟩) hX.lt).trans x1; have ka2 := (hS.cell (p := ⟨g, o + j, none⟩) hg1).trans d0; first | (refine Free.run_yes (by rfl) ?_; go_simp; refine Free.o hK hS ?_; exact rfl) | (refine Free.run_no (by rfl) (Free.o hK hS ?_); exact rfl)
    exact Free.nil
    clear hvo
    intro w' hS; intro v0; intro v1; intro v2; intro v3; intro v4; intro v5; intro v6; intro v7; intro v8; intro v9; intro v10; intro v11; intro v12; intro v13; intro v14; intro v15; intro v16; intro v17; intro v18; intro v19; (rintro _ rfl); (try simp only [Act.put, List.setIfInBounds_toArray, List.set_cons_zero, List.set_cons_succ]); refine Free.toldE_nil ?_
    go_wp2
    go_ret
    exact ⟨(show Ending.returned (.bool y) = .returned (.bool (mayRow Z ⟨(j : Int), V⟩)) from by rewrite [he.out]; rfl), Below.next bb hS (Nat.le_refl _)⟩
end Go.Proofs.Ytfldmejjepakeaa
/- oublaw16.Few: what it tells hangs on the rows alone. -/
namespace Go.Proofs.Ytfldmejjepakeaa
open Go.ChangeShapes Go.WideShapes Go.ChangeAt Go.RowKit
open Go.ChangeMaps (open_string shut_string)
set_option linter.unusedVariables false
set_option linter.unusedSimpArgs false
set_option maxRecDepth 100000
open Go.Deep

def fewX (m : Int) (v : ValR) : Int := wrap64 (wrap64 (m + 20) + if (20001 : Int) < (v.s.length : Int) then 20001 else (v.s.length : Int))
def fewI (V : List ValR) (j : Nat) (m : Int) : Int := (V.take j).foldl fewX m
def fewO (R : List RowR) (k : Nat) : Int := (R.take k).foldl (fun m r => fewI r.V r.V.length m) 0
def fewR (R : List RowR) : Bool := (R.take 100).all (fun r => decide (r.V.length ≤ 100)) && (decide (R.length ≤ 100) && decide (fewO R R.length ≤ 20000))
theorem fewI_step {V : List ValR} {j : Nat} {p : ValR} (h : V[j]? = some p) (m : Int) : fewI V (j + 1) m = fewX (fewI V j m) p := by
  unfold fewI
  rw [List.take_add_one, h, List.foldl_append]
  rfl
theorem fewO_step {R : List RowR} {k : Nat} {q : RowR} (h : R[k]? = some q) : fewO R (k + 1) = fewI q.V q.V.length (fewO R k) := by
  unfold fewO
  rw [List.take_add_one, h, List.foldl_append]
  rfl
theorem fewR_long {R : List RowR} {k : Nat} {q : RowR} (h : R[k]? = some q) (hk : k < 100) (hl : 100 < q.V.length) : fewR R = false := by
  unfold fewR
  rw [Bool.and_eq_false_iff]
  left
  rw [List.all_eq_false]
  refine ⟨q, List.mem_of_getElem? (i := k) (by rw [List.getElem?_take, if_pos hk]; exact h), by simp; omega⟩
theorem fewR_many {R : List RowR} (h : 100 < R.length) : fewR R = false := by
  unfold fewR
  rw [decide_eq_false (show ¬ R.length ≤ 100 by omega), Bool.and_comm]
  rfl
theorem fewR_end {R : List RowR} {n : Nat} (hn : R.length = n) (h : n ≤ 100) (ha : ∀ i q, i < n → R[i]? = some q → q.V.length ≤ 100) : fewR R = decide (fewO R n ≤ 20000) := by
  unfold fewR
  rw [hn, decide_eq_true h]
  have : (R.take 100).all (fun r => decide (r.V.length ≤ 100)) = true := by
    rw [List.all_eq_true]
    intro x hx
    obtain ⟨i, hi⟩ := List.mem_iff_getElem?.1 (List.mem_of_mem_take hx)
    exact decide_eq_true (ha i x (by rw [← hn]; exact (List.getElem?_eq_some_iff.1 hi).1) hi)
  rw [this]
  rfl
set_option maxHeartbeats 4000000 in
theorem few16_is (A : Option Addr) (n c : Nat) (R : List RowR) (w : World) (h : RR w A n c R) : Calls Try.prog 17 #[.slice A n c] w fun e w' => e = .returned (.bool (fewR R)) ∧ Below w.heap.size w w' := by
  have hnm : n ≤ maxLen := Nat.le_trans h.cap h.max
  unfold maxLen at hnm
  have hLn := h.len
  go_enter Try.func17, Try.ntmps17
  go_wp2
  go_loopw [3, 4] (fun s i wr => ∃ (k : Nat) (m : Int), k ≤ n ∧ k ≤ 100 ∧ s = .int .i64 m ∧ i = .int .i64 k ∧ wr = w ∧ Hid (m = fewO R k ∧ ∀ i q, i < k → R[i]? = some q → q.V.length ≤ 100)) (fun s i _ => 101 - (intOf i).toNat)
  case atStart => exact ⟨0, 0, by omega, by omega, rfl, rfl, rfl, Lib.hid ⟨rfl, fun i q hi => absurd hi (by omega)⟩⟩
  case round =>
    obtain ⟨k, m, hk, hk2, rfl, rfl, rfl, hm⟩ := hrel
    by_cases h1 : k < n
    · by_cases h2 : k < 100
      · obtain ⟨q, hq⟩ : ∃ q, R[k]? = some q := ⟨_, List.getElem?_eq_getElem (by omega)⟩
        obtain ⟨g, o, rfl, hc⟩ := h.at_ (by omega)
        obtain ⟨B, mm, kk, hE, hc0, hc1⟩ := hc k q hq
        have hmm : mm ≤ maxLen := Nat.le_trans hE.cap hE.max
        unfold maxLen at hmm
        have hEl := hE.len
        have hqh := Lib.hid hq
        clear hc hq
        go_wp2
        go_loopw [3, 5] (fun s i wq => ∃ (j : Nat) (m : Int), j ≤ mm ∧ j ≤ 100 ∧ s = .int .i64 m ∧ i = .int .i64 j ∧ wq = wr ∧ Hid (m = fewI q.V j (fewO R k))) (fun s i _ => 101 - (intOf i).toNat)
        case atStart => exact ⟨0, m, by omega, by omega, rfl, rfl, rfl, Lib.hid hm.out.1⟩
        case round =>
          obtain ⟨j, m2, hj, hj2, rfl, rfl, rfl, hm2⟩ := hrel
          by_cases h3 : j < mm
          · by_cases h4 : j < 100
            · obtain ⟨p, hp⟩ : ∃ p, q.V[j]? = some p := ⟨_, List.getElem?_eq_getElem (by omega)⟩
              obtain ⟨g2, o2, rfl, hd⟩ := hE.at_ (by omega)
              obtain ⟨d0, d1, d2⟩ := hd j p hp
              have hph := Lib.hid hp
              have hzs := str_size p.s
              clear hd hp
              go_wp2
              go_roundw
              case rel =>
                refine ⟨j + 1, _, by omega, by omega, rfl, by go_num, trivial, Lib.hid ?_⟩
                rw [fewI_step hph.out, ← hm2.out]
                rfl
              case measure => simp [intOf]; omega
            · have h5 : 100 < (mm : Int) := by omega
              have hno := Lib.hid (fewR_long hqh.out h2 (by omega))
              go_wp2
              go_ret
              exact ⟨(show Ending.returned (.bool false) = .returned (.bool (fewR R)) from by rewrite [hno.out]; rfl), Below.refl _ _⟩
          · by_cases h5 : 100 < (mm : Int)
            · exfalso; omega
            · go_wp2
              go_roundw
              case rel =>
                refine ⟨k + 1, _, by omega, by omega, rfl, by go_num, trivial, Lib.hid ⟨?_, fun i x hi hx => ?_⟩⟩
                · rw [fewO_step hqh.out, hEl, (show mm = j by omega)]; exact hm2.out
                · by_cases ei : i = k
                  · subst ei; rw [hqh.out] at hx; injection hx with hx; rw [← hx]; omega
                  · exact hm.out.2 i x (by omega) hx
              case measure => simp [intOf]; omega
      · by_cases h3 : n ≤ 100
        · omega
        · have hno := Lib.hid (fewR_many (R := R) (by omega))
          have h5 : ¬ (n : Int) ≤ 100 := by omega
          go_wp2
          go_ret
          exact ⟨(show Ending.returned (.bool false) = .returned (.bool (fewR R)) from by rewrite [hno.out]; rfl), Below.refl _ _⟩
    · have hkn : n = k := by omega
      have h5 : (n : Int) ≤ 100 := by omega
      have hy := Lib.hid (fewR_end (R := R) hLn (by omega) (by rw [hkn]; exact hm.out.2))
      have hm1 := Lib.hid (show m = fewO R n from by rw [hkn]; exact hm.out.1)
      subst hkn
      go_wp2
      go_ret
      exact ⟨(show Ending.returned (.bool (decide (m ≤ 20000))) = .returned (.bool (fewR R)) from by rewrite [hy.out, ← hm1.out]; rfl), Below.refl _ _⟩
end Go.Proofs.Ytfldmejjepakeaa
/- RowTells: the walk. -/
namespace Go.Proofs.Ytfldmejjepakeaa
open Go.ChangeShapes Go.WideShapes Go.ChangeAt Go.RowKit
open Go.ChangeMaps (open_string shut_string)
set_option linter.unusedVariables false
set_option linter.unusedSimpArgs false
set_option maxRecDepth 100000
open Go.Deep

set_option maxHeartbeats 16000000 in
theorem tells16 (A0 : Option Addr) (n0 c0 : Nat) (Z : List (List Int)) (t1 : Int) (A1 : Option Addr) (n1 c1 : Nat) (V1 : List ValR) (t2 : Int) (A2 : Option Addr) (n2 c2 : Nat) (V2 : List ValR) (i : Int) (w : World) (h0 : RG w A0 n0 c0 Z) (h1 : RV w A1 n1 c1 V1) (h2 : RV w A2 n2 c2 V2) :
    Calls Try.prog 9 #[.slice A0 n0 c0, .agg #[.int .i64 t1, .slice A1 n1 c1], .agg #[.int .i64 t2, .slice A2 n2 c2], .int .i64 i] w fun e w' => e = .returned (.bool true) ∧ Below w.heap.size w w' := by
  have hnm : n0 ≤ maxLen := Nat.le_trans h0.cap h0.max
  unfold maxLen at hnm
  have hl0 := Lib.hid h0.len
  have h00 := Lib.hid h0
  have hA := (Blk.new w #[.int .i64 t1, .slice A1 n1 c1] 26).alloc (.cells #[.int .i64 t2, .slice A2 n2 c2] 26)
  have hC := Blk.new2 w (.cells #[.int .i64 t1, .slice A1 n1 c1] 26) #[.int .i64 t2, .slice A2 n2 c2] 26
  have bl : Below w.heap.size w ((w.alloc (.cells #[.int .i64 t1, .slice A1 n1 c1] 26)).alloc (.cells #[.int .i64 t2, .slice A2 n2 c2] 26)) := (by repeat (first | exact Below.refl _ _ | assumption | apply below_drewN' | apply Below.drew | refine Below.alloc ?_ (by first | omega | (simp; done) | (simp; omega)) _ | refine Below.setCell ?_ (by first | omega | (simp; done) | (simp; omega)) _))
  go_enter Try.func9, Try.ntmps9
  go_wp2_with fail
  refine (first16_any _).mono ?_
  rintro e w2 ⟨rfl, e3⟩
  replace bl := Below.next bl e3 (Nat.le_refl _)
  replace hA := hA.below e3 hA.lt
  replace hC := hC.below e3 hC.lt
  clear e3
  have aq0 := hA.cell 0 (v := .int .i64 t1) rfl
  have aq1 := hA.cell 1 (v := .slice A1 n1 c1) rfl
  have cq0 := hC.cell 0 (v := .int .i64 t2) rfl
  have cq1 := hC.cell 1 (v := .slice A2 n2 c2) rfl
  go_wp2
  go_loopw [9, 10] (fun s i wr => ∃ (k : Nat) (m : Int), k ≤ n0 ∧ k ≤ 50 ∧ s = .int .i64 m ∧ i = .int .i64 k ∧ wr = w2) (fun s i _ => 51 - (intOf i).toNat)
  case atStart => exact ⟨0, 0, by omega, by omega, rfl, rfl, rfl⟩
  case round =>
  obtain ⟨k, m, hk, hk2, rfl, rfl, rfl⟩ := hrel
  by_cases g1 : k < n0 ∧ k < 50
  · obtain ⟨g1, g2⟩ := g1
    obtain ⟨z, hz⟩ : ∃ z, Z[k]? = some z := ⟨_, List.getElem?_eq_getElem (by have := hl0.out; omega)⟩
    obtain ⟨g, o, rfl, hc⟩ := (h0.below bl).at_ (by omega)
    obtain ⟨B, kk, hc0, hRN⟩ := hc k z hz
    have hzm : z.length ≤ maxLen := Nat.le_trans hRN.cap hRN.max
    unfold maxLen at hzm
    clear hc hz hRN
    go_wp2
    go_roundw
    case rel => exact ⟨k + 1, _, by omega, by omega, rfl, by go_num, trivial⟩
    case measure => simp [intOf]; omega
  have hG := Blk.new wr #[.int .i64 t1, .slice A1 n1 c1, .int .i64 t2, .slice A2 n2 c2] 26
  have bg : Below wr.heap.size wr (wr.alloc (.cells #[.int .i64 t1, .slice A1 n1 c1, .int .i64 t2, .slice A2 n2 c2] 26)) := (by repeat (first | exact Below.refl _ _ | assumption | apply below_drewN' | apply Below.drew | refine Below.alloc ?_ (by first | omega | (simp; done) | (simp; omega)) _ | refine Below.setCell ?_ (by first | omega | (simp; done) | (simp; omega)) _))
  have hRR := Lib.hid (RR.two hG ((h1.below bl).below bg) ((h2.below bl).below bg))
  have b2 := Below.next bl bg (Nat.le_refl _)
  have hA2 := hA.below bg hA.lt
  have hC2 := hC.below bg hC.lt
  clear hG bg
  have gg : (k < n0 ∧ ¬ k < 50) ∨ ¬ k < n0 := by omega
  clear g1
  rcases gg with ⟨g1, g2⟩ | g1
  · have g3 : (50 : Int) < (n0 : Int) := by omega
    go_wp2_with fail
    refine (few16_any _ 2 2 _ _ hRR.out).mono ?_
    rintro e w3 ⟨⟨f, rfl⟩, e3⟩
    replace bl := Below.next b2 e3 (Nat.le_refl _)
    clear hRR e3
    cases f with
    | false => (go_wp2_with fail; refine (first16_any _).mono ?_; rintro e w9 ⟨rfl, b9⟩; go_wp2; go_ret; exact ⟨rfl, Below.next bl b9 (Nat.le_refl _)⟩)
    | true => (go_wp2_with fail; refine (first16_any _).mono ?_; rintro e w9 ⟨rfl, b9⟩; go_wp2; go_ret; exact ⟨rfl, Below.next bl b9 (Nat.le_refl _)⟩)
  have g3 : ¬ (50 : Int) < (n0 : Int) := by omega
  obtain rfl : k = n0 := by omega
  go_wp2_with fail
  refine (few16_any _ 2 2 _ _ hRR.out).mono ?_
  rintro e w3 ⟨⟨f, rfl⟩, e3⟩
  replace bl := Below.next b2 e3 (Nat.le_refl _)
  clear hA hC
  have hA := hA2.below e3 hA2.lt
  have hC := hC2.below e3 hC2.lt
  clear hRR e3 b2 hA2 hC2 aq0 aq1 cq0 cq1
  cases f with
  | false => (go_wp2_with fail; refine (first16_any _).mono ?_; rintro e w9 ⟨rfl, b9⟩; go_wp2; go_ret; exact ⟨rfl, Below.next bl b9 (Nat.le_refl _)⟩)
  | true =>
  by_cases g4 : 2000 < m
  · (go_wp2_with fail; refine (first16_any _).mono ?_; rintro e w9 ⟨rfl, b9⟩; go_wp2; go_ret; exact ⟨rfl, Below.next bl b9 (Nat.le_refl _)⟩)
  have H1 := Lib.hid (fun w h => row_encode t1 A1 n1 c1 V1 w h)
  have H2 := Lib.hid (fun w h => ref_encodeR t1 A1 n1 c1 V1 w h)
  have H3 := Lib.hid (fun w h => row_key t1 A1 n1 c1 V1 w h)
  have H4 := Lib.hid (fun w h => ref_rowkey t1 A1 n1 c1 V1 w h)
  generalize rowE ⟨t1, V1⟩ = E1 at *
  generalize rowT ⟨t1, V1⟩ = T1 at *
  generalize rowKE ⟨t1, V1⟩ = E3 at *
  generalize rowKT ⟨t1, V1⟩ = T3 at *
  obtain ⟨m1, hm1⟩ : ∃ m, T1.length = m := ⟨_, rfl⟩
  replace hm1 := Lib.hid hm1
  have aq0 := hA.cell 0 (v := .int .i64 t1) rfl
  have aq1 := hA.cell 1 (v := .slice A1 n1 c1) rfl
  have cq0 := hC.cell 0 (v := .int .i64 t2) rfl
  have cq1 := hC.cell 1 (v := .slice A2 n2 c2) rfl
  go_wp2_with fail
  refine (H1.out _ (h1.below bl)).mono ?_
  rintro e w4 ⟨v1, rfl, hv1, e3⟩
  replace bl := Below.next bl e3 (Nat.le_refl _)
  replace hA := hA.below e3 hA.lt
  replace hC := hC.below e3 hC.lt
  clear e3
  obtain ⟨P1, k1, rfl, hP1⟩ := hv1.sl m1 hm1.out
  clear hv1 H1 aq0 aq1 cq0 cq1
  have aq0 := hA.cell 0 (v := .int .i64 t1) rfl
  have aq1 := hA.cell 1 (v := .slice A1 n1 c1) rfl
  have cq0 := hC.cell 0 (v := .int .i64 t2) rfl
  have cq1 := hC.cell 1 (v := .slice A2 n2 c2) rfl
  go_wp2_with fail
  refine (H2.out _ (h1.below bl)).mono ?_
  rintro e w5 ⟨v2, rfl, hv2, e3⟩
  replace hP1 := hP1.below e3
  replace bl := Below.next bl e3 (Nat.le_refl _)
  replace hA := hA.below e3 hA.lt
  replace hC := hC.below e3 hC.lt
  clear e3
  obtain ⟨P2, k2, rfl, hP2⟩ := hv2.sl m1 hm1.out
  clear hv2 H2 aq0 aq1 cq0 cq1
  have aq0 := hA.cell 0 (v := .int .i64 t1) rfl
  have aq1 := hA.cell 1 (v := .slice A1 n1 c1) rfl
  have cq0 := hC.cell 0 (v := .int .i64 t2) rfl
  have cq1 := hC.cell 1 (v := .slice A2 n2 c2) rfl
  go_wp2_with fail
  refine (H3.out _ (h1.below bl)).mono ?_
  rintro e w6 ⟨rfl, e3⟩
  replace hP1 := hP1.below e3
  replace hP2 := hP2.below e3
  replace bl := Below.next bl e3 (Nat.le_refl _)
  replace hA := hA.below e3 hA.lt
  replace hC := hC.below e3 hC.lt
  clear e3
  clear H3 aq0 aq1 cq0 cq1
  have aq0 := hA.cell 0 (v := .int .i64 t1) rfl
  have aq1 := hA.cell 1 (v := .slice A1 n1 c1) rfl
  have cq0 := hC.cell 0 (v := .int .i64 t2) rfl
  have cq1 := hC.cell 1 (v := .slice A2 n2 c2) rfl
  go_wp2_with fail
  refine (H4.out _ (h1.below bl)).mono ?_
  rintro e w7 ⟨rfl, e3⟩
  replace hP1 := hP1.below e3
  replace hP2 := hP2.below e3
  replace bl := Below.next bl e3 (Nat.le_refl _)
  replace hA := hA.below e3 hA.lt
  replace hC := hC.below e3 hC.lt
  clear e3
  clear H4 aq0 aq1 cq0 cq1 g4 hk hk2
  go_wp2
  go_loopw [19] (fun i wr => ∃ j : Nat, j ≤ k ∧ i = .int .i64 j ∧ Below w7.heap.size w7 wr) (fun i _ => k - (intOf i).toNat)
  case atStart => exact ⟨0, by omega, rfl, (by repeat (first | exact Below.refl _ _ | assumption | apply below_drewN' | apply Below.drew | refine Below.alloc ?_ (by first | omega | (simp; done) | (simp; omega)) _ | refine Below.setCell ?_ (by first | omega | (simp; done) | (simp; omega)) _))⟩
  case round =>
  obtain ⟨W7, rfl⟩ : ∃ W1, W1 = wr := ⟨_, rfl⟩
  obtain ⟨j, hj, rfl, b7⟩ := hrel
  replace bl := Below.next bl b7 (Nat.le_refl _)
  replace hA := hA.below b7 hA.lt
  replace hC := hC.below b7 hC.lt
  replace hP1 := hP1.below b7
  replace hP2 := hP2.below b7
  have aq0 := hA.cell 0 (v := .int .i64 t1) rfl
  have aq1 := hA.cell 1 (v := .slice A1 n1 c1) rfl
  have cq0 := hC.cell 0 (v := .int .i64 t2) rfl
  have cq1 := hC.cell 1 (v := .slice A2 n2 c2) rfl
  by_cases g1 : j < k
  · obtain ⟨z, hz⟩ : ∃ z, Z[j]? = some z := ⟨_, List.getElem?_eq_getElem (by have := hl0.out; omega)⟩
    obtain ⟨g, o, rfl, hc⟩ := (h0.below bl).at_ (by omega)
    obtain ⟨B, kk, hc0, hRN⟩ := hc j z hz
    have HF1 := Lib.hid (fun w h h2 => row_fits B z.length kk z A1 n1 c1 V1 w h h2)
    have HF2 := Lib.hid (fun w h h2 => ref_fits B z.length kk z A1 n1 c1 V1 w h h2)
    have hRNh := Lib.hid hRN
    obtain ⟨y, hy⟩ : ∃ y, fitsL z V1 = y := ⟨_, rfl⟩
    rw [hy] at HF1 HF2
    have hg := World.block_lt_of_cell? W7 _ hc0
    obtain ⟨zl, hzl⟩ : ∃ m, z.length = m := ⟨_, rfl⟩
    rw [hzl] at hc0 HF1 HF2 hRN hRNh
    clear hc hz hRN hy hzl hP1 hP2
    go_wp2_with fail
    have hvo := Free.val
    refine Free.wp_facts (M := [0, 0, 3, 7, 0, 16, 63, 0, 0, 384, 896, 0, 2048, 8191, 16383]) (D := [[], [], [(0, 81), (1, 82)], [(2, 83)], [], [(4, 85)], [(3, 84), (5, 86)], [], [], [(7, 88), (8, 89)], [(9, 90)], [], [(11, 92)], [(10, 91), (12, 93)], [(6, 87), (13, 94)]]) (outs := [14]) (soles := []) (E := [(0, 81, false), (1, 82, false), (2, 83, false), (3, 84, false), (4, 85, false), (5, 86, false), (6, 87, false), (7, 88, false), (8, 89, false), (9, 90, false), (10, 91, false), (11, 92, false), (12, 93, false), (13, 94, false), (14, 95, true)]) (N := 144) (S := (fun w' => Below W7.heap.size W7 w')) [Free.Fact.is ?_, Free.Fact.is ?_, Free.Fact.is ?_, Free.Fact.is ?_, Free.Fact.is ?_, Free.Fact.is ?_, Free.Fact.is ?_, Free.Fact.is ?_, Free.Fact.is ?_, Free.Fact.is ?_, Free.Fact.is ?_, Free.Fact.is ?_, Free.Fact.is ?_, Free.Fact.is ?_, Free.Fact.is ?_] (by kernel_rfl) (by kernel_rfl) rfl ((Below.refl _ _).drew) ?_ ?_
    rotate_left 15
    refine Free.cons ?_ ?_
    · intro w' hS; intro K hK; have ka0 := (hS.cell (p := ⟨w.heap.size, 0, none⟩) hA.lt).trans aq0; have ka1 := (hS.cell (p := ⟨w.heap.size, 1, none⟩) hA.lt).trans aq1; have ka2 := (hS.cell (p := ⟨w.heap.size + 1, 0, none⟩) hC.lt).trans cq0; have ka3 := (hS.cell (p := ⟨w.heap.size + 1, 1, none⟩) hC.lt).trans cq1; have kb0 := (hS.cell (p := ⟨g, o + j, none⟩) hg).trans hc0; first | (refine Free.run_yes (by rfl) ?_; go_simp; refine Free.o hK hS ?_; exact rfl) | (refine Free.run_no (by rfl) (Free.o hK hS ?_); exact rfl)
    refine Free.cons ?_ ?_
    · intro w' hS; intro K hK; have ka0 := (hS.cell (p := ⟨w.heap.size, 0, none⟩) hA.lt).trans aq0; have ka1 := (hS.cell (p := ⟨w.heap.size, 1, none⟩) hA.lt).trans aq1; have ka2 := (hS.cell (p := ⟨w.heap.size + 1, 0, none⟩) hC.lt).trans cq0; have ka3 := (hS.cell (p := ⟨w.heap.size + 1, 1, none⟩) hC.lt).trans cq1; have kb0 := (hS.cell (p := ⟨g, o + j, none⟩) hg).trans hc0; first | (refine Free.run_yes (by rfl) ?_; go_simp; refine Free.o hK hS ?_; exact rfl) | (refine Free.run_no (by rfl) (Free.o hK hS ?_); exact rfl)
    refine Free.cons ?_ ?_
    · intro w' hS; (rintro _ rfl); (rintro _ rfl); intro K hK; have ka0 := (hS.cell (p := ⟨w.heap.size, 0, none⟩) hA.lt).trans aq0; have ka1 := (hS.cell (p := ⟨w.heap.size, 1, none⟩) hA.lt).trans aq1; have ka2 := (hS.cell (p := ⟨w.heap.size + 1, 0, none⟩) hC.lt).trans cq0; have ka3 := (hS.cell (p := ⟨w.heap.size + 1, 1, none⟩) hC.lt).trans cq1; have kb0 := (hS.cell (p := ⟨g, o + j, none⟩) hg).trans hc0; first | (refine Free.run_yes (by rfl) ?_; go_simp; refine Free.o hK hS ?_; exact rfl) | (refine Free.run_no (by rfl) (Free.o hK hS ?_); exact rfl)
    refine Free.cons ?_ ?_
    · intro w' hS; (rintro _ rfl); intro K hK; have ka0 := (hS.cell (p := ⟨w.heap.size, 0, none⟩) hA.lt).trans aq0; have ka1 := (hS.cell (p := ⟨w.heap.size, 1, none⟩) hA.lt).trans aq1; have ka2 := (hS.cell (p := ⟨w.heap.size + 1, 0, none⟩) hC.lt).trans cq0; have ka3 := (hS.cell (p := ⟨w.heap.size + 1, 1, none⟩) hC.lt).trans cq1; have kb0 := (hS.cell (p := ⟨g, o + j, none⟩) hg).trans hc0; first | (refine Free.run_yes (by rfl) ?_; go_simp; refine Free.o hK hS ?_; exact rfl) | (refine Free.run_no (by rfl) (Free.o hK hS ?_); exact rfl)
    refine Free.cons ?_ ?_
    · intro w' hS; intro K hK; have ka0 := (hS.cell (p := ⟨w.heap.size, 0, none⟩) hA.lt).trans aq0; have ka1 := (hS.cell (p := ⟨w.heap.size, 1, none⟩) hA.lt).trans aq1; have ka2 := (hS.cell (p := ⟨w.heap.size + 1, 0, none⟩) hC.lt).trans cq0; have ka3 := (hS.cell (p := ⟨w.heap.size + 1, 1, none⟩) hC.lt).trans cq1; have kb0 := (hS.cell (p := ⟨g, o + j, none⟩) hg).trans hc0; first | (refine Free.run_yes (by rfl) ?_; go_simp; refine Free.o hK hS ?_; exact rfl) | (refine Free.run_no (by rfl) (Free.o hK hS ?_); exact rfl)
    refine Free.cons ?_ ?_
    · intro w' hS; (rintro _ rfl); intro K hK; have ka0 := (hS.cell (p := ⟨w.heap.size, 0, none⟩) hA.lt).trans aq0; have ka1 := (hS.cell (p := ⟨w.heap.size, 1, none⟩) hA.lt).trans aq1; have ka2 := (hS.cell (p := ⟨w.heap.size + 1, 0, none⟩) hC.lt).trans cq0; have ka3 := (hS.cell (p := ⟨w.heap.size + 1, 1, none⟩) hC.lt).trans cq1; have kb0 := (hS.cell (p := ⟨g, o + j, none⟩) hg).trans hc0; first | (refine Free.run_yes (by rfl) ?_; go_simp; refine Free.o hK hS ?_; exact rfl) | (refine Free.run_no (by rfl) (Free.o hK hS ?_); exact rfl)
    refine Free.cons ?_ ?_
    · intro w' hS; (rintro _ rfl); (rintro _ rfl); intro K hK; have ka0 := (hS.cell (p := ⟨w.heap.size, 0, none⟩) hA.lt).trans aq0; have ka1 := (hS.cell (p := ⟨w.heap.size, 1, none⟩) hA.lt).trans aq1; have ka2 := (hS.cell (p := ⟨w.heap.size + 1, 0, none⟩) hC.lt).trans cq0; have ka3 := (hS.cell (p := ⟨w.heap.size + 1, 1, none⟩) hC.lt).trans cq1; have kb0 := (hS.cell (p := ⟨g, o + j, none⟩) hg).trans hc0; refine Free.run_yes (by rfl) ?_; (go_simp; go_at_call 39; refine (HF1.out _ (hRNh.out.below hS) (h1.below (bl.trans (hS.mono bl.size)))).mono ?_; rintro e w' ⟨rfl, hb⟩; (try simp only [Free.valOf, Act.put, List.setIfInBounds_toArray, List.set_cons_zero, List.set_cons_succ, Array.getD_eq_getD_getElem?, List.getElem?_toArray, List.getElem?_cons_succ, List.getElem?_cons_zero, Option.getD_some]); refine hK.out _ _ ?_ (Below.next hS hb (Nat.le_refl _)) (.inr hb); exact rfl)
    refine Free.cons ?_ ?_
    · intro w' hS; intro K hK; have ka0 := (hS.cell (p := ⟨w.heap.size, 0, none⟩) hA.lt).trans aq0; have ka1 := (hS.cell (p := ⟨w.heap.size, 1, none⟩) hA.lt).trans aq1; have ka2 := (hS.cell (p := ⟨w.heap.size + 1, 0, none⟩) hC.lt).trans cq0; have ka3 := (hS.cell (p := ⟨w.heap.size + 1, 1, none⟩) hC.lt).trans cq1; have kb0 := (hS.cell (p := ⟨g, o + j, none⟩) hg).trans hc0; first | (refine Free.run_yes (by rfl) ?_; go_simp; refine Free.o hK hS ?_; exact rfl) | (refine Free.run_no (by rfl) (Free.o hK hS ?_); exact rfl)
    refine Free.cons ?_ ?_
    · intro w' hS; intro K hK; have ka0 := (hS.cell (p := ⟨w.heap.size, 0, none⟩) hA.lt).trans aq0; have ka1 := (hS.cell (p := ⟨w.heap.size, 1, none⟩) hA.lt).trans aq1; have ka2 := (hS.cell (p := ⟨w.heap.size + 1, 0, none⟩) hC.lt).trans cq0; have ka3 := (hS.cell (p := ⟨w.heap.size + 1, 1, none⟩) hC.lt).trans cq1; have kb0 := (hS.cell (p := ⟨g, o + j, none⟩) hg).trans hc0; first | (refine Free.run_yes (by rfl) ?_; go_simp; refine Free.o hK hS ?_; exact rfl) | (refine Free.run_no (by rfl) (Free.o hK hS ?_); exact rfl)
    refine Free.cons ?_ ?_
    · intro w' hS; (rintro _ rfl); (rintro _ rfl); intro K hK; have ka0 := (hS.cell (p := ⟨w.heap.size, 0, none⟩) hA.lt).trans aq0; have ka1 := (hS.cell (p := ⟨w.heap.size, 1, none⟩) hA.lt).trans aq1; have ka2 := (hS.cell (p := ⟨w.heap.size + 1, 0, none⟩) hC.lt).trans cq0; have ka3 := (hS.cell (p := ⟨w.heap.size + 1, 1, none⟩) hC.lt).trans cq1; have kb0 := (hS.cell (p := ⟨g, o + j, none⟩) hg).trans hc0; first | (refine Free.run_yes (by rfl) ?_; go_simp; refine Free.o hK hS ?_; exact rfl) | (refine Free.run_no (by rfl) (Free.o hK hS ?_); exact rfl)
    refine Free.cons ?_ ?_
    · intro w' hS; (rintro _ rfl); intro K hK; have ka0 := (hS.cell (p := ⟨w.heap.size, 0, none⟩) hA.lt).trans aq0; have ka1 := (hS.cell (p := ⟨w.heap.size, 1, none⟩) hA.lt).trans aq1; have ka2 := (hS.cell (p := ⟨w.heap.size + 1, 0, none⟩) hC.lt).trans cq0; have ka3 := (hS.cell (p := ⟨w.heap.size + 1, 1, none⟩) hC.lt).trans cq1; have kb0 := (hS.cell (p := ⟨g, o + j, none⟩) hg).trans hc0; first | (refine Free.run_yes (by rfl) ?_; go_simp; refine Free.o hK hS ?_; exact rfl) | (refine Free.run_no (by rfl) (Free.o hK hS ?_); exact rfl)
    refine Free.cons ?_ ?_
    · intro w' hS; intro K hK; have ka0 := (hS.cell (p := ⟨w.heap.size, 0, none⟩) hA.lt).trans aq0; have ka1 := (hS.cell (p := ⟨w.heap.size, 1, none⟩) hA.lt).trans aq1; have ka2 := (hS.cell (p := ⟨w.heap.size + 1, 0, none⟩) hC.lt).trans cq0; have ka3 := (hS.cell (p := ⟨w.heap.size + 1, 1, none⟩) hC.lt).trans cq1; have kb0 := (hS.cell (p := ⟨g, o + j, none⟩) hg).trans hc0; first | (refine Free.run_yes (by rfl) ?_; go_simp; refine Free.o hK hS ?_; exact rfl) | (refine Free.run_no (by rfl) (Free.o hK hS ?_); exact rfl)
    refine Free.cons ?_ ?_
    · intro w' hS; (rintro _ rfl); intro K hK; have ka0 := (hS.cell (p := ⟨w.heap.size, 0, none⟩) hA.lt).trans aq0; have ka1 := (hS.cell (p := ⟨w.heap.size, 1, none⟩) hA.lt).trans aq1; have ka2 := (hS.cell (p := ⟨w.heap.size + 1, 0, none⟩) hC.lt).trans cq0; have ka3 := (hS.cell (p := ⟨w.heap.size + 1, 1, none⟩) hC.lt).trans cq1; have kb0 := (hS.cell (p := ⟨g, o + j, none⟩) hg).trans hc0; first | (refine Free.run_yes (by rfl) ?_; go_simp; refine Free.o hK hS ?_; exact rfl) | (refine Free.run_no (by rfl) (Free.o hK hS ?_); exact rfl)
    refine Free.cons ?_ ?_
    · intro w' hS; (rintro _ rfl); (rintro _ rfl); intro K hK; have ka0 := (hS.cell (p := ⟨w.heap.size, 0, none⟩) hA.lt).trans aq0; have ka1 := (hS.cell (p := ⟨w.heap.size, 1, none⟩) hA.lt).trans aq1; have ka2 := (hS.cell (p := ⟨w.heap.size + 1, 0, none⟩) hC.lt).trans cq0; have ka3 := (hS.cell (p := ⟨w.heap.size + 1, 1, none⟩) hC.lt).trans cq1; have kb0 := (hS.cell (p := ⟨g, o + j, none⟩) hg).trans hc0; refine Free.run_yes (by rfl) ?_; (go_simp; go_at_call 40; refine (HF2.out _ (hRNh.out.below hS) (h1.below (bl.trans (hS.mono bl.size)))).mono ?_; rintro e w' ⟨rfl, hb⟩; (try simp only [Free.valOf, Act.put, List.setIfInBounds_toArray, List.set_cons_zero, List.set_cons_succ, Array.getD_eq_getD_getElem?, List.getElem?_toArray, List.getElem?_cons_succ, List.getElem?_cons_zero, Option.getD_some]); refine hK.out _ _ ?_ (Below.next hS hb (Nat.le_refl _)) (.inr hb); exact rfl)
    refine Free.cons ?_ ?_
    · intro w' hS; (rintro _ rfl); (rintro _ rfl); intro K hK; have ka0 := (hS.cell (p := ⟨w.heap.size, 0, none⟩) hA.lt).trans aq0; have ka1 := (hS.cell (p := ⟨w.heap.size, 1, none⟩) hA.lt).trans aq1; have ka2 := (hS.cell (p := ⟨w.heap.size + 1, 0, none⟩) hC.lt).trans cq0; have ka3 := (hS.cell (p := ⟨w.heap.size + 1, 1, none⟩) hC.lt).trans cq1; have kb0 := (hS.cell (p := ⟨g, o + j, none⟩) hg).trans hc0; first | (refine Free.run_yes (by rfl) ?_; go_simp; refine Free.o hK hS ?_; exact rfl) | (refine Free.run_no (by rfl) (Free.o hK hS ?_); exact rfl)
    exact Free.nil
    clear hvo
    intro w' hS; intro v0; intro v1; intro v2; intro v3; intro v4; intro v5; intro v6; intro v7; intro v8; intro v9; intro v10; intro v11; intro v12; intro v13; (rintro _ rfl); (try simp only [Act.put, List.setIfInBounds_toArray, List.set_cons_zero, List.set_cons_succ]); refine Free.toldE_nil ?_
    have b8 := Below.next b7 hS (Nat.le_refl _)
    have e9 : (y != y) = false := bne_self_eq_false y
    go_wp2
    go_roundw
    case rel => exact ⟨j + 1, by omega, by go_num, b8⟩
    case measure => simp [intOf]; omega
  obtain rfl : j = k := by omega
  obtain ⟨y, hy⟩ : ∃ y, mayRow Z ⟨t1, V1⟩ = y := ⟨_, rfl⟩
  have H5 := Lib.hid (fun w h h2 => row_may A0 j c0 Z t1 A1 n1 c1 V1 w h h2)
  have H6 := Lib.hid (fun w h h2 => ref_mayrow A0 j c0 Z t1 A1 n1 c1 V1 w h h2)
  rw [hy] at H5 H6
  clear hy
  obtain ⟨x, hx⟩ : ∃ x, sameR ⟨t1, V1⟩ ⟨t2, V2⟩ = x := ⟨_, rfl⟩
  have H7 := Lib.hid (fun w h h2 => row_same t1 A1 n1 c1 V1 t2 A2 n2 c2 V2 x w h h2 hx)
  have H8 := Lib.hid (fun w h h2 => ref_row t1 A1 n1 c1 V1 t2 A2 n2 c2 V2 x w h h2 hx)
  clear hx
  have H9 := Lib.hid (fun w (h : RB w P1 m1 k1 T1) (h2 : RB w P2 m1 k2 T1) => (show Calls Try.prog 20 #[.slice P1 m1 k1, .slice P2 m1 k2] w fun e w' => e = .returned (.bool true) ∧ Below w.heap.size w w' from (by have := ref_Bytes P1 P2 m1 k1 m1 k2 T1 T1 w h h2; rw [beq_self_eq_true] at this; exact this.mono (fun e w' hh => ⟨hh.1, hh.2 ▸ Below.refl _ _⟩))))
  have H10 := Lib.hid (fun w h => row_col t1 A1 n1 c1 V1 i w h)
  have H11 := Lib.hid (fun w h => ref_col t1 A1 n1 c1 V1 i w h)
  generalize colR V1 i = q at *
  unfold vcR at H10 H11
  have T4 := str_list T3
  have T5 := str_list q.s
  clear h0 hnm
  go_wp2_with fail
  have hvo := Free.val
  refine Free.wp_facts (M := [0, 1, 3, 3, 15, 3, 3, 127, 255, 511, 1023, 2047, 2047, 8191, 16383, 32767, 65535, 65535, 262143, 524287, 1048575, 2097151, 2097151, 8388607, 16777215, 33554431, 67108863, 67108863, 268435455, 536870911, 1073741823, 2147483647, 2147483647, 8589934591, 2147483647, 2147483647, 68719476735, 137438953471, 274877906943, 549755813887, 1099511627775, 1099511627775, 4398046511103, 1099511627775, 1099511627775, 35184372088831, 70368744177663, 140737488355327, 281474976710655]) (D := [[], [(0, 96)], [(1, 97)], [(1, 97)], [(2, 98), (3, 99), (1, 97)], [(1, 97)], [(1, 97)], [(5, 101), (6, 102), (1, 97)], [(4, 100), (7, 103), (1, 97)], [(1, 97), (8, 104)], [(9, 105)], [(10, 106)], [(10, 106)], [(11, 107), (12, 108), (10, 106)], [(10, 106), (13, 109)], [(14, 110)], [(15, 111)], [(15, 111)], [(16, 112), (17, 113), (15, 111)], [(15, 111), (18, 114)], [(19, 115)], [(20, 116)], [(20, 116)], [(21, 117), (22, 118), (20, 116)], [(20, 116), (23, 119)], [(24, 120)], [(25, 121)], [(25, 121)], [(26, 122), (27, 123), (25, 121)], [(25, 121), (28, 124)], [(29, 125)], [(30, 126)], [(30, 126)], [(31, 127), (32, 128), (30, 126)], [(30, 126)], [(30, 126)], [(34, 130), (35, 131), (30, 126)], [(33, 129), (36, 132), (30, 126)], [(30, 126), (37, 133)], [(38, 134)], [(39, 135)], [(39, 135)], [(40, 136), (41, 137), (39, 135)], [(39, 135)], [(39, 135)], [(43, 139), (44, 140), (39, 135)], [(42, 138), (45, 141), (39, 135)], [(39, 135), (46, 142)], [(47, 143)]]) (outs := [48]) (soles := []) (E := [(0, 96, false), (1, 97, false), (2, 98, false), (3, 99, false), (4, 100, false), (5, 101, false), (6, 102, false), (7, 103, false), (8, 104, false), (9, 105, false), (10, 106, false), (11, 107, false), (12, 108, false), (13, 109, false), (14, 110, false), (15, 111, false), (16, 112, false), (17, 113, false), (18, 114, false), (19, 115, false), (20, 116, false), (21, 117, false), (22, 118, false), (23, 119, false), (24, 120, false), (25, 121, false), (26, 122, false), (27, 123, false), (28, 124, false), (29, 125, false), (30, 126, false), (31, 127, false), (32, 128, false), (33, 129, false), (34, 130, false), (35, 131, false), (36, 132, false), (37, 133, false), (38, 134, false), (39, 135, false), (40, 136, false), (41, 137, false), (42, 138, false), (43, 139, false), (44, 140, false), (45, 141, false), (46, 142, false), (47, 143, false), (48, 8, true)]) (N := 144) (S := (fun w' => Below W7.heap.size W7 w')) [Free.Fact.is ?_, Free.Fact.is ?_, Free.Fact.is ?_, Free.Fact.is ?_, Free.Fact.is ?_, Free.Fact.is ?_, Free.Fact.is ?_, Free.Fact.is ?_, Free.Fact.is ?_, Free.Fact.is ?_, Free.Fact.is ?_, Free.Fact.is ?_, Free.Fact.is ?_, Free.Fact.is ?_, Free.Fact.is ?_, Free.Fact.is ?_, Free.Fact.is ?_, Free.Fact.is ?_, Free.Fact.is ?_, Free.Fact.is ?_, Free.Fact.is ?_, Free.Fact.is ?_, Free.Fact.is ?_, Free.Fact.is ?_, Free.Fact.is ?_, Free.Fact.is ?_, Free.Fact.is ?_, Free.Fact.is ?_, Free.Fact.is ?_, Free.Fact.is ?_, Free.Fact.is ?_, Free.Fact.is ?_, Free.Fact.is ?_, Free.Fact.is ?_, Free.Fact.is ?_, Free.Fact.is ?_, Free.Fact.is ?_, Free.Fact.is ?_, Free.Fact.is ?_, Free.Fact.is ?_, Free.Fact.is ?_, Free.Fact.is ?_, Free.Fact.is ?_, Free.Fact.is ?_, Free.Fact.is ?_, Free.Fact.is ?_, Free.Fact.is ?_, Free.Fact.is ?_, Free.Fact.is ?_] (by kernel_rfl) (by kernel_rfl) rfl ((Below.refl _ _).drew) ?_ ?_
  rotate_left 49
  refine Free.cons ?_ ?_
  · intro w' hS; intro K hK; (try simp only [Act.put, List.setIfInBounds_toArray, List.set_cons_zero, List.set_cons_succ]); have ka0 := (hS.cell (p := ⟨w.heap.size, 0, none⟩) hA.lt).trans aq0; have ka1 := (hS.cell (p := ⟨w.heap.size, 1, none⟩) hA.lt).trans aq1; have ka2 := (hS.cell (p := ⟨w.heap.size + 1, 0, none⟩) hC.lt).trans cq0; have ka3 := (hS.cell (p := ⟨w.heap.size + 1, 1, none⟩) hC.lt).trans cq1; refine Free.run_yes (by rfl) ?_; (go_simp; go_at_call 13; refine (first16_any _).mono ?_; rintro e w' ⟨rfl, hb⟩; (try simp only [Free.valOf, Act.put, List.setIfInBounds_toArray, List.set_cons_zero, List.set_cons_succ, Array.getD_eq_getD_getElem?, List.getElem?_toArray, List.getElem?_cons_succ, List.getElem?_cons_zero, Option.getD_some]); refine hK.out _ _ ?_ (Below.next hS hb (Nat.le_refl _)) (.inr hb); exact rfl)
  refine Free.cons ?_ ?_
  · intro w' hS; (rintro _ rfl); intro K hK; (try simp only [Act.put, List.setIfInBounds_toArray, List.set_cons_zero, List.set_cons_succ]); have ka0 := (hS.cell (p := ⟨w.heap.size, 0, none⟩) hA.lt).trans aq0; have ka1 := (hS.cell (p := ⟨w.heap.size, 1, none⟩) hA.lt).trans aq1; have ka2 := (hS.cell (p := ⟨w.heap.size + 1, 0, none⟩) hC.lt).trans cq0; have ka3 := (hS.cell (p := ⟨w.heap.size + 1, 1, none⟩) hC.lt).trans cq1; first | (refine Free.run_yes (by rfl) ?_; go_simp; refine Free.o hK hS ?_; exact rfl) | (refine Free.run_no (by rfl) (Free.o hK hS ?_); exact rfl)
  refine Free.cons ?_ ?_
  · intro w' hS; (rintro _ rfl); intro K hK; (try simp only [Act.put, List.setIfInBounds_toArray, List.set_cons_zero, List.set_cons_succ]); have ka0 := (hS.cell (p := ⟨w.heap.size, 0, none⟩) hA.lt).trans aq0; have ka1 := (hS.cell (p := ⟨w.heap.size, 1, none⟩) hA.lt).trans aq1; have ka2 := (hS.cell (p := ⟨w.heap.size + 1, 0, none⟩) hC.lt).trans cq0; have ka3 := (hS.cell (p := ⟨w.heap.size + 1, 1, none⟩) hC.lt).trans cq1; first | (refine Free.run_yes (by rfl) ?_; go_simp; refine Free.o hK hS ?_; exact rfl) | (refine Free.run_no (by rfl) (Free.o hK hS ?_); exact rfl)
  refine Free.cons ?_ ?_
  · intro w' hS; (rintro _ rfl); intro K hK; (try simp only [Act.put, List.setIfInBounds_toArray, List.set_cons_zero, List.set_cons_succ]); have ka0 := (hS.cell (p := ⟨w.heap.size, 0, none⟩) hA.lt).trans aq0; have ka1 := (hS.cell (p := ⟨w.heap.size, 1, none⟩) hA.lt).trans aq1; have ka2 := (hS.cell (p := ⟨w.heap.size + 1, 0, none⟩) hC.lt).trans cq0; have ka3 := (hS.cell (p := ⟨w.heap.size + 1, 1, none⟩) hC.lt).trans cq1; first | (refine Free.run_yes (by rfl) ?_; go_simp; refine Free.o hK hS ?_; exact rfl) | (refine Free.run_no (by rfl) (Free.o hK hS ?_); exact rfl)
  refine Free.cons ?_ ?_
  · intro w' hS; (rintro _ rfl); (rintro _ rfl); (rintro _ rfl); intro K hK; (try simp only [Act.put, List.setIfInBounds_toArray, List.set_cons_zero, List.set_cons_succ]); have ka0 := (hS.cell (p := ⟨w.heap.size, 0, none⟩) hA.lt).trans aq0; have ka1 := (hS.cell (p := ⟨w.heap.size, 1, none⟩) hA.lt).trans aq1; have ka2 := (hS.cell (p := ⟨w.heap.size + 1, 0, none⟩) hC.lt).trans cq0; have ka3 := (hS.cell (p := ⟨w.heap.size + 1, 1, none⟩) hC.lt).trans cq1; refine Free.run_yes (by rfl) ?_; (go_simp; go_at_call 36; refine (H5.out _ (h00.out.below (bl.trans (hS.mono bl.size))) (h1.below (bl.trans (hS.mono bl.size)))).mono ?_; rintro e w' ⟨rfl, hb⟩; (try simp only [Free.valOf, Act.put, List.setIfInBounds_toArray, List.set_cons_zero, List.set_cons_succ, Array.getD_eq_getD_getElem?, List.getElem?_toArray, List.getElem?_cons_succ, List.getElem?_cons_zero, Option.getD_some]); refine hK.out _ _ ?_ (Below.next hS hb (Nat.le_refl _)) (.inr hb); exact rfl)
  refine Free.cons ?_ ?_
  · intro w' hS; (rintro _ rfl); intro K hK; (try simp only [Act.put, List.setIfInBounds_toArray, List.set_cons_zero, List.set_cons_succ]); have ka0 := (hS.cell (p := ⟨w.heap.size, 0, none⟩) hA.lt).trans aq0; have ka1 := (hS.cell (p := ⟨w.heap.size, 1, none⟩) hA.lt).trans aq1; have ka2 := (hS.cell (p := ⟨w.heap.size + 1, 0, none⟩) hC.lt).trans cq0; have ka3 := (hS.cell (p := ⟨w.heap.size + 1, 1, none⟩) hC.lt).trans cq1; first | (refine Free.run_yes (by rfl) ?_; go_simp; refine Free.o hK hS ?_; exact rfl) | (refine Free.run_no (by rfl) (Free.o hK hS ?_); exact rfl)
  refine Free.cons ?_ ?_
  · intro w' hS; (rintro _ rfl); intro K hK; (try simp only [Act.put, List.setIfInBounds_toArray, List.set_cons_zero, List.set_cons_succ]); have ka0 := (hS.cell (p := ⟨w.heap.size, 0, none⟩) hA.lt).trans aq0; have ka1 := (hS.cell (p := ⟨w.heap.size, 1, none⟩) hA.lt).trans aq1; have ka2 := (hS.cell (p := ⟨w.heap.size + 1, 0, none⟩) hC.lt).trans cq0; have ka3 := (hS.cell (p := ⟨w.heap.size + 1, 1, none⟩) hC.lt).trans cq1; first | (refine Free.run_yes (by rfl) ?_; go_simp; refine Free.o hK hS ?_; exact rfl) | (refine Free.run_no (by rfl) (Free.o hK hS ?_); exact rfl)
  refine Free.cons ?_ ?_
  · intro w' hS; (rintro _ rfl); (rintro _ rfl); (rintro _ rfl); intro K hK; (try simp only [Act.put, List.setIfInBounds_toArray, List.set_cons_zero, List.set_cons_succ]); have ka0 := (hS.cell (p := ⟨w.heap.size, 0, none⟩) hA.lt).trans aq0; have ka1 := (hS.cell (p := ⟨w.heap.size, 1, none⟩) hA.lt).trans aq1; have ka2 := (hS.cell (p := ⟨w.heap.size + 1, 0, none⟩) hC.lt).trans cq0; have ka3 := (hS.cell (p := ⟨w.heap.size + 1, 1, none⟩) hC.lt).trans cq1; refine Free.run_yes (by rfl) ?_; (go_simp; go_at_call 41; refine (H6.out _ (h00.out.below (bl.trans (hS.mono bl.size))) (h1.below (bl.trans (hS.mono bl.size)))).mono ?_; rintro e w' ⟨rfl, hb⟩; (try simp only [Free.valOf, Act.put, List.setIfInBounds_toArray, List.set_cons_zero, List.set_cons_succ, Array.getD_eq_getD_getElem?, List.getElem?_toArray, List.getElem?_cons_succ, List.getElem?_cons_zero, Option.getD_some]); refine hK.out _ _ ?_ (Below.next hS hb (Nat.le_refl _)) (.inr hb); exact rfl)
  refine Free.cons ?_ ?_
  · intro w' hS; (rintro _ rfl); (rintro _ rfl); (rintro _ rfl); intro K hK; (try simp only [Act.put, List.setIfInBounds_toArray, List.set_cons_zero, List.set_cons_succ]); have ka0 := (hS.cell (p := ⟨w.heap.size, 0, none⟩) hA.lt).trans aq0; have ka1 := (hS.cell (p := ⟨w.heap.size, 1, none⟩) hA.lt).trans aq1; have ka2 := (hS.cell (p := ⟨w.heap.size + 1, 0, none⟩) hC.lt).trans cq0; have ka3 := (hS.cell (p := ⟨w.heap.size + 1, 1, none⟩) hC.lt).trans cq1; first | (refine Free.run_yes (by rfl) ?_; go_simp; refine Free.o hK hS ?_; exact rfl) | (refine Free.run_no (by rfl) (Free.o hK hS ?_); exact rfl)
  refine Free.cons ?_ ?_
  · intro w' hS; (rintro _ rfl); (rintro _ rfl); intro K hK; (try simp only [Act.put, List.setIfInBounds_toArray, List.set_cons_zero, List.set_cons_succ]); have ka0 := (hS.cell (p := ⟨w.heap.size, 0, none⟩) hA.lt).trans aq0; have ka1 := (hS.cell (p := ⟨w.heap.size, 1, none⟩) hA.lt).trans aq1; have ka2 := (hS.cell (p := ⟨w.heap.size + 1, 0, none⟩) hC.lt).trans cq0; have ka3 := (hS.cell (p := ⟨w.heap.size + 1, 1, none⟩) hC.lt).trans cq1; first | (refine Free.run_yes (by rfl) ?_; go_simp; refine Free.o hK hS ?_; exact rfl) | (refine Free.run_no (by rfl) (Free.o hK hS ?_); exact rfl)
  refine Free.cons ?_ ?_
  · intro w' hS; (rintro _ rfl); intro K hK; (try simp only [Act.put, List.setIfInBounds_toArray, List.set_cons_zero, List.set_cons_succ]); have ka0 := (hS.cell (p := ⟨w.heap.size, 0, none⟩) hA.lt).trans aq0; have ka1 := (hS.cell (p := ⟨w.heap.size, 1, none⟩) hA.lt).trans aq1; have ka2 := (hS.cell (p := ⟨w.heap.size + 1, 0, none⟩) hC.lt).trans cq0; have ka3 := (hS.cell (p := ⟨w.heap.size + 1, 1, none⟩) hC.lt).trans cq1; first | (refine Free.run_yes (by rfl) ?_; go_simp; refine Free.o hK hS ?_; exact rfl) | (refine Free.run_no (by rfl) (Free.o hK hS ?_); exact rfl)
  refine Free.cons ?_ ?_
  · intro w' hS; (rintro _ rfl); intro K hK; (try simp only [Act.put, List.setIfInBounds_toArray, List.set_cons_zero, List.set_cons_succ]); have ka0 := (hS.cell (p := ⟨w.heap.size, 0, none⟩) hA.lt).trans aq0; have ka1 := (hS.cell (p := ⟨w.heap.size, 1, none⟩) hA.lt).trans aq1; have ka2 := (hS.cell (p := ⟨w.heap.size + 1, 0, none⟩) hC.lt).trans cq0; have ka3 := (hS.cell (p := ⟨w.heap.size + 1, 1, none⟩) hC.lt).trans cq1; first | (refine Free.run_yes (by rfl) ?_; go_simp; refine Free.o hK hS ?_; exact rfl) | (refine Free.run_no (by rfl) (Free.o hK hS ?_); exact rfl)
  refine Free.cons ?_ ?_
  · intro w' hS; (rintro _ rfl); intro K hK; (try simp only [Act.put, List.setIfInBounds_toArray, List.set_cons_zero, List.set_cons_succ]); have ka0 := (hS.cell (p := ⟨w.heap.size, 0, none⟩) hA.lt).trans aq0; have ka1 := (hS.cell (p := ⟨w.heap.size, 1, none⟩) hA.lt).trans aq1; have ka2 := (hS.cell (p := ⟨w.heap.size + 1, 0, none⟩) hC.lt).trans cq0; have ka3 := (hS.cell (p := ⟨w.heap.size + 1, 1, none⟩) hC.lt).trans cq1; first | (refine Free.run_yes (by rfl) ?_; go_simp; refine Free.o hK hS ?_; exact rfl) | (refine Free.run_no (by rfl) (Free.o hK hS ?_); exact rfl)
  refine Free.cons ?_ ?_
  · intro w' hS; (rintro _ rfl); (rintro _ rfl); (rintro _ rfl); intro K hK; (try simp only [Act.put, List.setIfInBounds_toArray, List.set_cons_zero, List.set_cons_succ]); have ka0 := (hS.cell (p := ⟨w.heap.size, 0, none⟩) hA.lt).trans aq0; have ka1 := (hS.cell (p := ⟨w.heap.size, 1, none⟩) hA.lt).trans aq1; have ka2 := (hS.cell (p := ⟨w.heap.size + 1, 0, none⟩) hC.lt).trans cq0; have ka3 := (hS.cell (p := ⟨w.heap.size + 1, 1, none⟩) hC.lt).trans cq1; first | (refine Free.run_yes (by rfl) ?_; go_simp; refine Free.o hK hS ?_; exact rfl) | (refine Free.run_no (by rfl) (Free.o hK hS ?_); exact rfl)
  refine Free.cons ?_ ?_
  · intro w' hS; (rintro _ rfl); (rintro _ rfl); intro K hK; (try simp only [Act.put, List.setIfInBounds_toArray, List.set_cons_zero, List.set_cons_succ]); have ka0 := (hS.cell (p := ⟨w.heap.size, 0, none⟩) hA.lt).trans aq0; have ka1 := (hS.cell (p := ⟨w.heap.size, 1, none⟩) hA.lt).trans aq1; have ka2 := (hS.cell (p := ⟨w.heap.size + 1, 0, none⟩) hC.lt).trans cq0; have ka3 := (hS.cell (p := ⟨w.heap.size + 1, 1, none⟩) hC.lt).trans cq1; first | (refine Free.run_yes (by rfl) ?_; go_simp; refine Free.o hK hS ?_; exact rfl) | (refine Free.run_no (by rfl) (Free.o hK hS ?_); exact rfl)
  refine Free.cons ?_ ?_
  · intro w' hS; (rintro _ rfl); intro K hK; (try simp only [Act.put, List.setIfInBounds_toArray, List.set_cons_zero, List.set_cons_succ]); have ka0 := (hS.cell (p := ⟨w.heap.size, 0, none⟩) hA.lt).trans aq0; have ka1 := (hS.cell (p := ⟨w.heap.size, 1, none⟩) hA.lt).trans aq1; have ka2 := (hS.cell (p := ⟨w.heap.size + 1, 0, none⟩) hC.lt).trans cq0; have ka3 := (hS.cell (p := ⟨w.heap.size + 1, 1, none⟩) hC.lt).trans cq1; first | (refine Free.run_yes (by rfl) ?_; go_simp; refine Free.o hK hS ?_; exact rfl) | (refine Free.run_no (by rfl) (Free.o hK hS ?_); exact rfl)
  refine Free.cons ?_ ?_
  · intro w' hS; (rintro _ rfl); intro K hK; (try simp only [Act.put, List.setIfInBounds_toArray, List.set_cons_zero, List.set_cons_succ]); have ka0 := (hS.cell (p := ⟨w.heap.size, 0, none⟩) hA.lt).trans aq0; have ka1 := (hS.cell (p := ⟨w.heap.size, 1, none⟩) hA.lt).trans aq1; have ka2 := (hS.cell (p := ⟨w.heap.size + 1, 0, none⟩) hC.lt).trans cq0; have ka3 := (hS.cell (p := ⟨w.heap.size + 1, 1, none⟩) hC.lt).trans cq1; first | (refine Free.run_yes (by rfl) ?_; go_simp; refine Free.o hK hS ?_; exact rfl) | (refine Free.run_no (by rfl) (Free.o hK hS ?_); exact rfl)
  refine Free.cons ?_ ?_
  · intro w' hS; (rintro _ rfl); intro K hK; (try simp only [Act.put, List.setIfInBounds_toArray, List.set_cons_zero, List.set_cons_succ]); have ka0 := (hS.cell (p := ⟨w.heap.size, 0, none⟩) hA.lt).trans aq0; have ka1 := (hS.cell (p := ⟨w.heap.size, 1, none⟩) hA.lt).trans aq1; have ka2 := (hS.cell (p := ⟨w.heap.size + 1, 0, none⟩) hC.lt).trans cq0; have ka3 := (hS.cell (p := ⟨w.heap.size + 1, 1, none⟩) hC.lt).trans cq1; first | (refine Free.run_yes (by rfl) ?_; go_simp; refine Free.o hK hS ?_; exact rfl) | (refine Free.run_no (by rfl) (Free.o hK hS ?_); exact rfl)
  refine Free.cons ?_ ?_
  · intro w' hS; (rintro _ rfl); (rintro _ rfl); (rintro _ rfl); intro K hK; (try simp only [Act.put, List.setIfInBounds_toArray, List.set_cons_zero, List.set_cons_succ]); have ka0 := (hS.cell (p := ⟨w.heap.size, 0, none⟩) hA.lt).trans aq0; have ka1 := (hS.cell (p := ⟨w.heap.size, 1, none⟩) hA.lt).trans aq1; have ka2 := (hS.cell (p := ⟨w.heap.size + 1, 0, none⟩) hC.lt).trans cq0; have ka3 := (hS.cell (p := ⟨w.heap.size + 1, 1, none⟩) hC.lt).trans cq1; first | (refine Free.run_yes (by rfl) ?_; go_simp; refine Free.o hK hS ?_; exact rfl) | (refine Free.run_no (by rfl) (Free.o hK hS ?_); exact rfl)
  refine Free.cons ?_ ?_
  · intro w' hS; (rintro _ rfl); (rintro _ rfl); intro K hK; (try simp only [Act.put, List.setIfInBounds_toArray, List.set_cons_zero, List.set_cons_succ]); have ka0 := (hS.cell (p := ⟨w.heap.size, 0, none⟩) hA.lt).trans aq0; have ka1 := (hS.cell (p := ⟨w.heap.size, 1, none⟩) hA.lt).trans aq1; have ka2 := (hS.cell (p := ⟨w.heap.size + 1, 0, none⟩) hC.lt).trans cq0; have ka3 := (hS.cell (p := ⟨w.heap.size + 1, 1, none⟩) hC.lt).trans cq1; first | (refine Free.run_yes (by rfl) ?_; go_simp; refine Free.o hK hS ?_; exact rfl) | (refine Free.run_no (by rfl) (Free.o hK hS ?_); exact rfl)
  refine Free.cons ?_ ?_
  · intro w' hS; (rintro _ rfl); intro K hK; (try simp only [Act.put, List.setIfInBounds_toArray, List.set_cons_zero, List.set_cons_succ]); have ka0 := (hS.cell (p := ⟨w.heap.size, 0, none⟩) hA.lt).trans aq0; have ka1 := (hS.cell (p := ⟨w.heap.size, 1, none⟩) hA.lt).trans aq1; have ka2 := (hS.cell (p := ⟨w.heap.size + 1, 0, none⟩) hC.lt).trans cq0; have ka3 := (hS.cell (p := ⟨w.heap.size + 1, 1, none⟩) hC.lt).trans cq1; first | (refine Free.run_yes (by rfl) ?_; go_simp; refine Free.o hK hS ?_; exact rfl) | (refine Free.run_no (by rfl) (Free.o hK hS ?_); exact rfl)
  refine Free.cons ?_ ?_
  · intro w' hS; (rintro _ rfl); intro K hK; (try simp only [Act.put, List.setIfInBounds_toArray, List.set_cons_zero, List.set_cons_succ]); have ka0 := (hS.cell (p := ⟨w.heap.size, 0, none⟩) hA.lt).trans aq0; have ka1 := (hS.cell (p := ⟨w.heap.size, 1, none⟩) hA.lt).trans aq1; have ka2 := (hS.cell (p := ⟨w.heap.size + 1, 0, none⟩) hC.lt).trans cq0; have ka3 := (hS.cell (p := ⟨w.heap.size + 1, 1, none⟩) hC.lt).trans cq1; first | (refine Free.run_yes (by rfl) ?_; go_simp; refine Free.o hK hS ?_; exact rfl) | (refine Free.run_no (by rfl) (Free.o hK hS ?_); exact rfl)
  refine Free.cons ?_ ?_
  · intro w' hS; (rintro _ rfl); intro K hK; (try simp only [Act.put, List.setIfInBounds_toArray, List.set_cons_zero, List.set_cons_succ]); have ka0 := (hS.cell (p := ⟨w.heap.size, 0, none⟩) hA.lt).trans aq0; have ka1 := (hS.cell (p := ⟨w.heap.size, 1, none⟩) hA.lt).trans aq1; have ka2 := (hS.cell (p := ⟨w.heap.size + 1, 0, none⟩) hC.lt).trans cq0; have ka3 := (hS.cell (p := ⟨w.heap.size + 1, 1, none⟩) hC.lt).trans cq1; first | (refine Free.run_yes (by rfl) ?_; go_simp; refine Free.o hK hS ?_; exact rfl) | (refine Free.run_no (by rfl) (Free.o hK hS ?_); exact rfl)
  refine Free.cons ?_ ?_
  · intro w' hS; (rintro _ rfl); (rintro _ rfl); (rintro _ rfl); intro K hK; (try simp only [Act.put, List.setIfInBounds_toArray, List.set_cons_zero, List.set_cons_succ]); have ka0 := (hS.cell (p := ⟨w.heap.size, 0, none⟩) hA.lt).trans aq0; have ka1 := (hS.cell (p := ⟨w.heap.size, 1, none⟩) hA.lt).trans aq1; have ka2 := (hS.cell (p := ⟨w.heap.size + 1, 0, none⟩) hC.lt).trans cq0; have ka3 := (hS.cell (p := ⟨w.heap.size + 1, 1, none⟩) hC.lt).trans cq1; refine Free.run_yes (by rfl) ?_; (go_simp; go_at_call 20; refine (H9.out _ (hP1.below hS) (hP2.below hS)).mono ?_; rintro e w' ⟨rfl, hb⟩; (try simp only [Free.valOf, Act.put, List.setIfInBounds_toArray, List.set_cons_zero, List.set_cons_succ, Array.getD_eq_getD_getElem?, List.getElem?_toArray, List.getElem?_cons_succ, List.getElem?_cons_zero, Option.getD_some]); refine hK.out _ _ ?_ (Below.next hS hb (Nat.le_refl _)) (.inr hb); exact rfl)
  refine Free.cons ?_ ?_
  · intro w' hS; (rintro _ rfl); (rintro _ rfl); intro K hK; (try simp only [Act.put, List.setIfInBounds_toArray, List.set_cons_zero, List.set_cons_succ]); have ka0 := (hS.cell (p := ⟨w.heap.size, 0, none⟩) hA.lt).trans aq0; have ka1 := (hS.cell (p := ⟨w.heap.size, 1, none⟩) hA.lt).trans aq1; have ka2 := (hS.cell (p := ⟨w.heap.size + 1, 0, none⟩) hC.lt).trans cq0; have ka3 := (hS.cell (p := ⟨w.heap.size + 1, 1, none⟩) hC.lt).trans cq1; first | (refine Free.run_yes (by rfl) ?_; go_simp; refine Free.o hK hS ?_; exact rfl) | (refine Free.run_no (by rfl) (Free.o hK hS ?_); exact rfl)
  refine Free.cons ?_ ?_
  · intro w' hS; (rintro _ rfl); intro K hK; (try simp only [Act.put, List.setIfInBounds_toArray, List.set_cons_zero, List.set_cons_succ]); have ka0 := (hS.cell (p := ⟨w.heap.size, 0, none⟩) hA.lt).trans aq0; have ka1 := (hS.cell (p := ⟨w.heap.size, 1, none⟩) hA.lt).trans aq1; have ka2 := (hS.cell (p := ⟨w.heap.size + 1, 0, none⟩) hC.lt).trans cq0; have ka3 := (hS.cell (p := ⟨w.heap.size + 1, 1, none⟩) hC.lt).trans cq1; first | (refine Free.run_yes (by rfl) ?_; go_simp; refine Free.o hK hS ?_; exact rfl) | (refine Free.run_no (by rfl) (Free.o hK hS ?_); exact rfl)
  refine Free.cons ?_ ?_
  · intro w' hS; (rintro _ rfl); intro K hK; (try simp only [Act.put, List.setIfInBounds_toArray, List.set_cons_zero, List.set_cons_succ]); have ka0 := (hS.cell (p := ⟨w.heap.size, 0, none⟩) hA.lt).trans aq0; have ka1 := (hS.cell (p := ⟨w.heap.size, 1, none⟩) hA.lt).trans aq1; have ka2 := (hS.cell (p := ⟨w.heap.size + 1, 0, none⟩) hC.lt).trans cq0; have ka3 := (hS.cell (p := ⟨w.heap.size + 1, 1, none⟩) hC.lt).trans cq1; first | (refine Free.run_yes (by rfl) ?_; go_simp; refine Free.o hK hS ?_; exact rfl) | (refine Free.run_no (by rfl) (Free.o hK hS ?_); exact rfl)
  refine Free.cons ?_ ?_
  · intro w' hS; (rintro _ rfl); intro K hK; (try simp only [Act.put, List.setIfInBounds_toArray, List.set_cons_zero, List.set_cons_succ]); have ka0 := (hS.cell (p := ⟨w.heap.size, 0, none⟩) hA.lt).trans aq0; have ka1 := (hS.cell (p := ⟨w.heap.size, 1, none⟩) hA.lt).trans aq1; have ka2 := (hS.cell (p := ⟨w.heap.size + 1, 0, none⟩) hC.lt).trans cq0; have ka3 := (hS.cell (p := ⟨w.heap.size + 1, 1, none⟩) hC.lt).trans cq1; first | (refine Free.run_yes (by rfl) ?_; go_simp; refine Free.o hK hS ?_; exact rfl) | (refine Free.run_no (by rfl) (Free.o hK hS ?_); exact rfl)
  refine Free.cons ?_ ?_
  · intro w' hS; (rintro _ rfl); (rintro _ rfl); (rintro _ rfl); intro K hK; (try simp only [Act.put, List.setIfInBounds_toArray, List.set_cons_zero, List.set_cons_succ]); have ka0 := (hS.cell (p := ⟨w.heap.size, 0, none⟩) hA.lt).trans aq0; have ka1 := (hS.cell (p := ⟨w.heap.size, 1, none⟩) hA.lt).trans aq1; have ka2 := (hS.cell (p := ⟨w.heap.size + 1, 0, none⟩) hC.lt).trans cq0; have ka3 := (hS.cell (p := ⟨w.heap.size + 1, 1, none⟩) hC.lt).trans cq1; first | (refine Free.run_yes (by rfl) ?_; go_simp; refine Free.o hK hS ?_; exact rfl) | (refine Free.run_no (by rfl) (Free.o hK hS ?_); exact rfl)
  refine Free.cons ?_ ?_
  · intro w' hS; (rintro _ rfl); (rintro _ rfl); intro K hK; (try simp only [Act.put, List.setIfInBounds_toArray, List.set_cons_zero, List.set_cons_succ]); have ka0 := (hS.cell (p := ⟨w.heap.size, 0, none⟩) hA.lt).trans aq0; have ka1 := (hS.cell (p := ⟨w.heap.size, 1, none⟩) hA.lt).trans aq1; have ka2 := (hS.cell (p := ⟨w.heap.size + 1, 0, none⟩) hC.lt).trans cq0; have ka3 := (hS.cell (p := ⟨w.heap.size + 1, 1, none⟩) hC.lt).trans cq1; first | (refine Free.run_yes (by rfl) ?_; go_simp; refine Free.o hK hS ?_; exact rfl) | (refine Free.run_no (by rfl) (Free.o hK hS ?_); exact rfl)
  refine Free.cons ?_ ?_
  · intro w' hS; (rintro _ rfl); intro K hK; (try simp only [Act.put, List.setIfInBounds_toArray, List.set_cons_zero, List.set_cons_succ]); have ka0 := (hS.cell (p := ⟨w.heap.size, 0, none⟩) hA.lt).trans aq0; have ka1 := (hS.cell (p := ⟨w.heap.size, 1, none⟩) hA.lt).trans aq1; have ka2 := (hS.cell (p := ⟨w.heap.size + 1, 0, none⟩) hC.lt).trans cq0; have ka3 := (hS.cell (p := ⟨w.heap.size + 1, 1, none⟩) hC.lt).trans cq1; first | (refine Free.run_yes (by rfl) ?_; go_simp; refine Free.o hK hS ?_; exact rfl) | (refine Free.run_no (by rfl) (Free.o hK hS ?_); exact rfl)
  refine Free.cons ?_ ?_
  · intro w' hS; (rintro _ rfl); intro K hK; (try simp only [Act.put, List.setIfInBounds_toArray, List.set_cons_zero, List.set_cons_succ]); have ka0 := (hS.cell (p := ⟨w.heap.size, 0, none⟩) hA.lt).trans aq0; have ka1 := (hS.cell (p := ⟨w.heap.size, 1, none⟩) hA.lt).trans aq1; have ka2 := (hS.cell (p := ⟨w.heap.size + 1, 0, none⟩) hC.lt).trans cq0; have ka3 := (hS.cell (p := ⟨w.heap.size + 1, 1, none⟩) hC.lt).trans cq1; first | (refine Free.run_yes (by rfl) ?_; go_simp; refine Free.o hK hS ?_; exact rfl) | (refine Free.run_no (by rfl) (Free.o hK hS ?_); exact rfl)
  refine Free.cons ?_ ?_
  · intro w' hS; (rintro _ rfl); intro K hK; (try simp only [Act.put, List.setIfInBounds_toArray, List.set_cons_zero, List.set_cons_succ]); have ka0 := (hS.cell (p := ⟨w.heap.size, 0, none⟩) hA.lt).trans aq0; have ka1 := (hS.cell (p := ⟨w.heap.size, 1, none⟩) hA.lt).trans aq1; have ka2 := (hS.cell (p := ⟨w.heap.size + 1, 0, none⟩) hC.lt).trans cq0; have ka3 := (hS.cell (p := ⟨w.heap.size + 1, 1, none⟩) hC.lt).trans cq1; first | (refine Free.run_yes (by rfl) ?_; go_simp; refine Free.o hK hS ?_; exact rfl) | (refine Free.run_no (by rfl) (Free.o hK hS ?_); exact rfl)
  refine Free.cons ?_ ?_
  · intro w' hS; (rintro _ rfl); (rintro _ rfl); (rintro _ rfl); intro K hK; (try simp only [Act.put, List.setIfInBounds_toArray, List.set_cons_zero, List.set_cons_succ]); have ka0 := (hS.cell (p := ⟨w.heap.size, 0, none⟩) hA.lt).trans aq0; have ka1 := (hS.cell (p := ⟨w.heap.size, 1, none⟩) hA.lt).trans aq1; have ka2 := (hS.cell (p := ⟨w.heap.size + 1, 0, none⟩) hC.lt).trans cq0; have ka3 := (hS.cell (p := ⟨w.heap.size + 1, 1, none⟩) hC.lt).trans cq1; refine Free.run_yes (by rfl) ?_; (go_simp; go_at_call 19; refine (H7.out _ (h1.below (bl.trans (hS.mono bl.size))) (h2.below (bl.trans (hS.mono bl.size)))).mono ?_; rintro e w' ⟨rfl, hb⟩; (try simp only [Free.valOf, Act.put, List.setIfInBounds_toArray, List.set_cons_zero, List.set_cons_succ, Array.getD_eq_getD_getElem?, List.getElem?_toArray, List.getElem?_cons_succ, List.getElem?_cons_zero, Option.getD_some]); refine hK.out _ _ ?_ (Below.next hS hb (Nat.le_refl _)) (.inr hb); exact rfl)
  refine Free.cons ?_ ?_
  · intro w' hS; (rintro _ rfl); intro K hK; (try simp only [Act.put, List.setIfInBounds_toArray, List.set_cons_zero, List.set_cons_succ]); have ka0 := (hS.cell (p := ⟨w.heap.size, 0, none⟩) hA.lt).trans aq0; have ka1 := (hS.cell (p := ⟨w.heap.size, 1, none⟩) hA.lt).trans aq1; have ka2 := (hS.cell (p := ⟨w.heap.size + 1, 0, none⟩) hC.lt).trans cq0; have ka3 := (hS.cell (p := ⟨w.heap.size + 1, 1, none⟩) hC.lt).trans cq1; first | (refine Free.run_yes (by rfl) ?_; go_simp; refine Free.o hK hS ?_; exact rfl) | (refine Free.run_no (by rfl) (Free.o hK hS ?_); exact rfl)
  refine Free.cons ?_ ?_
  · intro w' hS; (rintro _ rfl); intro K hK; (try simp only [Act.put, List.setIfInBounds_toArray, List.set_cons_zero, List.set_cons_succ]); have ka0 := (hS.cell (p := ⟨w.heap.size, 0, none⟩) hA.lt).trans aq0; have ka1 := (hS.cell (p := ⟨w.heap.size, 1, none⟩) hA.lt).trans aq1; have ka2 := (hS.cell (p := ⟨w.heap.size + 1, 0, none⟩) hC.lt).trans cq0; have ka3 := (hS.cell (p := ⟨w.heap.size + 1, 1, none⟩) hC.lt).trans cq1; first | (refine Free.run_yes (by rfl) ?_; go_simp; refine Free.o hK hS ?_; exact rfl) | (refine Free.run_no (by rfl) (Free.o hK hS ?_); exact rfl)
  refine Free.cons ?_ ?_
  · intro w' hS; (rintro _ rfl); (rintro _ rfl); (rintro _ rfl); intro K hK; (try simp only [Act.put, List.setIfInBounds_toArray, List.set_cons_zero, List.set_cons_succ]); have ka0 := (hS.cell (p := ⟨w.heap.size, 0, none⟩) hA.lt).trans aq0; have ka1 := (hS.cell (p := ⟨w.heap.size, 1, none⟩) hA.lt).trans aq1; have ka2 := (hS.cell (p := ⟨w.heap.size + 1, 0, none⟩) hC.lt).trans cq0; have ka3 := (hS.cell (p := ⟨w.heap.size + 1, 1, none⟩) hC.lt).trans cq1; refine Free.run_yes (by rfl) ?_; (go_simp; go_at_call 16; refine (H8.out _ (h1.below (bl.trans (hS.mono bl.size))) (h2.below (bl.trans (hS.mono bl.size)))).mono ?_; rintro e w' ⟨rfl, hb⟩; (try simp only [Free.valOf, Act.put, List.setIfInBounds_toArray, List.set_cons_zero, List.set_cons_succ, Array.getD_eq_getD_getElem?, List.getElem?_toArray, List.getElem?_cons_succ, List.getElem?_cons_zero, Option.getD_some]); refine hK.out _ _ ?_ (Below.next hS hb (Nat.le_refl _)) (.inr hb); exact rfl)
  refine Free.cons ?_ ?_
  · intro w' hS; (rintro _ rfl); (rintro _ rfl); (rintro _ rfl); intro K hK; (try simp only [Act.put, List.setIfInBounds_toArray, List.set_cons_zero, List.set_cons_succ]); have ka0 := (hS.cell (p := ⟨w.heap.size, 0, none⟩) hA.lt).trans aq0; have ka1 := (hS.cell (p := ⟨w.heap.size, 1, none⟩) hA.lt).trans aq1; have ka2 := (hS.cell (p := ⟨w.heap.size + 1, 0, none⟩) hC.lt).trans cq0; have ka3 := (hS.cell (p := ⟨w.heap.size + 1, 1, none⟩) hC.lt).trans cq1; first | (refine Free.run_yes (by rfl) ?_; go_simp; refine Free.o hK hS ?_; exact rfl) | (refine Free.run_no (by rfl) (Free.o hK hS ?_); exact rfl)
  refine Free.cons ?_ ?_
  · intro w' hS; (rintro _ rfl); (rintro _ rfl); intro K hK; (try simp only [Act.put, List.setIfInBounds_toArray, List.set_cons_zero, List.set_cons_succ]); have ka0 := (hS.cell (p := ⟨w.heap.size, 0, none⟩) hA.lt).trans aq0; have ka1 := (hS.cell (p := ⟨w.heap.size, 1, none⟩) hA.lt).trans aq1; have ka2 := (hS.cell (p := ⟨w.heap.size + 1, 0, none⟩) hC.lt).trans cq0; have ka3 := (hS.cell (p := ⟨w.heap.size + 1, 1, none⟩) hC.lt).trans cq1; first | (refine Free.run_yes (by rfl) ?_; go_simp; refine Free.o hK hS ?_; exact rfl) | (refine Free.run_no (by rfl) (Free.o hK hS ?_); exact rfl)
  refine Free.cons ?_ ?_
  · intro w' hS; (rintro _ rfl); intro K hK; (try simp only [Act.put, List.setIfInBounds_toArray, List.set_cons_zero, List.set_cons_succ]); have ka0 := (hS.cell (p := ⟨w.heap.size, 0, none⟩) hA.lt).trans aq0; have ka1 := (hS.cell (p := ⟨w.heap.size, 1, none⟩) hA.lt).trans aq1; have ka2 := (hS.cell (p := ⟨w.heap.size + 1, 0, none⟩) hC.lt).trans cq0; have ka3 := (hS.cell (p := ⟨w.heap.size + 1, 1, none⟩) hC.lt).trans cq1; first | (refine Free.run_yes (by rfl) ?_; go_simp; refine Free.o hK hS ?_; exact rfl) | (refine Free.run_no (by rfl) (Free.o hK hS ?_); exact rfl)
  refine Free.cons ?_ ?_
  · intro w' hS; (rintro _ rfl); intro K hK; (try simp only [Act.put, List.setIfInBounds_toArray, List.set_cons_zero, List.set_cons_succ]); have ka0 := (hS.cell (p := ⟨w.heap.size, 0, none⟩) hA.lt).trans aq0; have ka1 := (hS.cell (p := ⟨w.heap.size, 1, none⟩) hA.lt).trans aq1; have ka2 := (hS.cell (p := ⟨w.heap.size + 1, 0, none⟩) hC.lt).trans cq0; have ka3 := (hS.cell (p := ⟨w.heap.size + 1, 1, none⟩) hC.lt).trans cq1; first | (refine Free.run_yes (by rfl) ?_; go_simp; refine Free.o hK hS ?_; exact rfl) | (refine Free.run_no (by rfl) (Free.o hK hS ?_); exact rfl)
  refine Free.cons ?_ ?_
  · intro w' hS; (rintro _ rfl); intro K hK; (try simp only [Act.put, List.setIfInBounds_toArray, List.set_cons_zero, List.set_cons_succ]); have ka0 := (hS.cell (p := ⟨w.heap.size, 0, none⟩) hA.lt).trans aq0; have ka1 := (hS.cell (p := ⟨w.heap.size, 1, none⟩) hA.lt).trans aq1; have ka2 := (hS.cell (p := ⟨w.heap.size + 1, 0, none⟩) hC.lt).trans cq0; have ka3 := (hS.cell (p := ⟨w.heap.size + 1, 1, none⟩) hC.lt).trans cq1; first | (refine Free.run_yes (by rfl) ?_; go_simp; refine Free.o hK hS ?_; exact rfl) | (refine Free.run_no (by rfl) (Free.o hK hS ?_); exact rfl)
  refine Free.cons ?_ ?_
  · intro w' hS; (rintro _ rfl); (rintro _ rfl); (rintro _ rfl); intro K hK; (try simp only [Act.put, List.setIfInBounds_toArray, List.set_cons_zero, List.set_cons_succ]); have ka0 := (hS.cell (p := ⟨w.heap.size, 0, none⟩) hA.lt).trans aq0; have ka1 := (hS.cell (p := ⟨w.heap.size, 1, none⟩) hA.lt).trans aq1; have ka2 := (hS.cell (p := ⟨w.heap.size + 1, 0, none⟩) hC.lt).trans cq0; have ka3 := (hS.cell (p := ⟨w.heap.size + 1, 1, none⟩) hC.lt).trans cq1; refine Free.run_yes (by rfl) ?_; (go_simp; go_at_call 35; refine (H10.out _ (h1.below (bl.trans (hS.mono bl.size)))).mono ?_; rintro e w' ⟨rfl, hb⟩; (try simp only [Free.valOf, Act.put, List.setIfInBounds_toArray, List.set_cons_zero, List.set_cons_succ, Array.getD_eq_getD_getElem?, List.getElem?_toArray, List.getElem?_cons_succ, List.getElem?_cons_zero, Option.getD_some]); refine hK.out _ _ ?_ (Below.next hS hb (Nat.le_refl _)) (.inr hb); exact rfl)
  refine Free.cons ?_ ?_
  · intro w' hS; (rintro _ rfl); intro K hK; (try simp only [Act.put, List.setIfInBounds_toArray, List.set_cons_zero, List.set_cons_succ]); have ka0 := (hS.cell (p := ⟨w.heap.size, 0, none⟩) hA.lt).trans aq0; have ka1 := (hS.cell (p := ⟨w.heap.size, 1, none⟩) hA.lt).trans aq1; have ka2 := (hS.cell (p := ⟨w.heap.size + 1, 0, none⟩) hC.lt).trans cq0; have ka3 := (hS.cell (p := ⟨w.heap.size + 1, 1, none⟩) hC.lt).trans cq1; first | (refine Free.run_yes (by rfl) ?_; go_simp; refine Free.o hK hS ?_; exact rfl) | (refine Free.run_no (by rfl) (Free.o hK hS ?_); exact rfl)
  refine Free.cons ?_ ?_
  · intro w' hS; (rintro _ rfl); intro K hK; (try simp only [Act.put, List.setIfInBounds_toArray, List.set_cons_zero, List.set_cons_succ]); have ka0 := (hS.cell (p := ⟨w.heap.size, 0, none⟩) hA.lt).trans aq0; have ka1 := (hS.cell (p := ⟨w.heap.size, 1, none⟩) hA.lt).trans aq1; have ka2 := (hS.cell (p := ⟨w.heap.size + 1, 0, none⟩) hC.lt).trans cq0; have ka3 := (hS.cell (p := ⟨w.heap.size + 1, 1, none⟩) hC.lt).trans cq1; first | (refine Free.run_yes (by rfl) ?_; go_simp; refine Free.o hK hS ?_; exact rfl) | (refine Free.run_no (by rfl) (Free.o hK hS ?_); exact rfl)
  refine Free.cons ?_ ?_
  · intro w' hS; (rintro _ rfl); (rintro _ rfl); (rintro _ rfl); intro K hK; (try simp only [Act.put, List.setIfInBounds_toArray, List.set_cons_zero, List.set_cons_succ]); have ka0 := (hS.cell (p := ⟨w.heap.size, 0, none⟩) hA.lt).trans aq0; have ka1 := (hS.cell (p := ⟨w.heap.size, 1, none⟩) hA.lt).trans aq1; have ka2 := (hS.cell (p := ⟨w.heap.size + 1, 0, none⟩) hC.lt).trans cq0; have ka3 := (hS.cell (p := ⟨w.heap.size + 1, 1, none⟩) hC.lt).trans cq1; refine Free.run_yes (by rfl) ?_; (go_simp; go_at_call 42; refine (H11.out _ (h1.below (bl.trans (hS.mono bl.size)))).mono ?_; rintro e w' ⟨rfl, hb⟩; (try simp only [Free.valOf, Act.put, List.setIfInBounds_toArray, List.set_cons_zero, List.set_cons_succ, Array.getD_eq_getD_getElem?, List.getElem?_toArray, List.getElem?_cons_succ, List.getElem?_cons_zero, Option.getD_some]); refine hK.out _ _ ?_ (Below.next hS hb (Nat.le_refl _)) (.inr hb); exact rfl)
  refine Free.cons ?_ ?_
  · intro w' hS; (rintro _ rfl); (rintro _ rfl); (rintro _ rfl); intro K hK; (try simp only [Act.put, List.setIfInBounds_toArray, List.set_cons_zero, List.set_cons_succ]); have ka0 := (hS.cell (p := ⟨w.heap.size, 0, none⟩) hA.lt).trans aq0; have ka1 := (hS.cell (p := ⟨w.heap.size, 1, none⟩) hA.lt).trans aq1; have ka2 := (hS.cell (p := ⟨w.heap.size + 1, 0, none⟩) hC.lt).trans cq0; have ka3 := (hS.cell (p := ⟨w.heap.size + 1, 1, none⟩) hC.lt).trans cq1; first | (refine Free.run_yes (by rfl) ?_; go_simp; refine Free.o hK hS ?_; exact rfl) | (refine Free.run_no (by rfl) (Free.o hK hS ?_); exact rfl)
  refine Free.cons ?_ ?_
  · intro w' hS; (rintro _ rfl); (rintro _ rfl); intro K hK; (try simp only [Act.put, List.setIfInBounds_toArray, List.set_cons_zero, List.set_cons_succ]); have ka0 := (hS.cell (p := ⟨w.heap.size, 0, none⟩) hA.lt).trans aq0; have ka1 := (hS.cell (p := ⟨w.heap.size, 1, none⟩) hA.lt).trans aq1; have ka2 := (hS.cell (p := ⟨w.heap.size + 1, 0, none⟩) hC.lt).trans cq0; have ka3 := (hS.cell (p := ⟨w.heap.size + 1, 1, none⟩) hC.lt).trans cq1; first | (refine Free.run_yes (by rfl) ?_; go_simp; refine Free.o hK hS ?_; exact rfl) | (refine Free.run_no (by rfl) (Free.o hK hS ?_); exact rfl)
  refine Free.cons ?_ ?_
  · intro w' hS; (rintro _ rfl); intro K hK; (try simp only [Act.put, List.setIfInBounds_toArray, List.set_cons_zero, List.set_cons_succ]); have ka0 := (hS.cell (p := ⟨w.heap.size, 0, none⟩) hA.lt).trans aq0; have ka1 := (hS.cell (p := ⟨w.heap.size, 1, none⟩) hA.lt).trans aq1; have ka2 := (hS.cell (p := ⟨w.heap.size + 1, 0, none⟩) hC.lt).trans cq0; have ka3 := (hS.cell (p := ⟨w.heap.size + 1, 1, none⟩) hC.lt).trans cq1; first | (refine Free.run_yes (by rfl) ?_; go_simp; refine Free.o hK hS ?_; exact rfl) | (refine Free.run_no (by rfl) (Free.o hK hS ?_); exact rfl)
  exact Free.nil
  clear hvo
  intro w' hS; intro v0; intro v1; intro v2; intro v3; intro v4; intro v5; intro v6; intro v7; intro v8; intro v9; intro v10; intro v11; intro v12; intro v13; intro v14; intro v15; intro v16; intro v17; intro v18; intro v19; intro v20; intro v21; intro v22; intro v23; intro v24; intro v25; intro v26; intro v27; intro v28; intro v29; intro v30; intro v31; intro v32; intro v33; intro v34; intro v35; intro v36; intro v37; intro v38; intro v39; intro v40; intro v41; intro v42; intro v43; intro v44; intro v45; intro v46; intro v47; (rintro _ rfl); (try simp only [Act.put, List.setIfInBounds_toArray, List.set_cons_zero, List.set_cons_succ]); refine Free.toldE_nil ?_
  replace bl := Below.next bl hS (Nat.le_refl _)
  go_wp2
  go_ret
  exact ⟨rfl, bl⟩
end Go.Proofs.Ytfldmejjepakeaa
