/- Merged: RwQ, RwR, RwU, FreeW, FreeR, RwV. -/
import Derived.Test.YtfldmejjepakeaaRk3
/- row.Fits, row.May, and the document's MayRow. -/
namespace Go.Proofs.Ytfldmejjepakeaa
open Go.ChangeShapes Go.WideShapes Go.ChangeAt Go.RowKit
open Go.ChangeMaps (open_string shut_string)
set_option linter.unusedVariables false
set_option linter.unusedSimpArgs false
set_option maxRecDepth 100000
open Go.Deep

theorem valmay_q (k n : Int) (l : List UInt8) (b : Bool) (w : World) (h : mayV k n l = b) : Calls Try.prog 65 #[.agg #[.int .i64 (k), .int .i64 (n), .string (str (l))]] w fun e w' => e = .returned (.bool b) ∧ Below w.heap.size w w' := by
  have := val_may k n l w
  rw [h] at this
  exact this
theorem fits_cl (k : Int) (p : ValR) (y : Bool) (w : World) (hy : fit1 k p = y) : Calls Try.prog 64 #[.int .i64 k, .agg #[.int .i64 (p.k), .int .i64 (p.n), .string (str (p.s))]] w fun e w' => e = .returned (.bool y) ∧ Below w.heap.size w w' := by
  obtain ⟨m, hm⟩ : ∃ m, mayVR p = m := ⟨_, rfl⟩
  have HM := Lib.hid (fun w => valmay_q p.k p.n p.s m w hm)
  unfold fit1 at hy
  rw [hm] at hy
  clear hm
  have bb : Below w.heap.size w (w.alloc (.cells #[.int .i64 (p.k), .int .i64 (p.n), .string (str (p.s))] 51)) := (by repeat (first | exact Below.refl _ _ | assumption | apply below_drewN' | apply Below.drew | refine Below.alloc ?_ (by first | omega | (simp; done) | (simp; omega)) _ | refine Below.setCell ?_ (by first | omega | (simp; done) | (simp; omega)) _))
  by_cases e : p.k = k
  · have e1 : (p.k == k) = true := by rw [beq_iff_eq]; exact e
    have e2 := Lib.hid (show m = y from by rw [e1] at hy; exact hy)
    clear e hy
    go_enter Try.func64, Try.ntmps64
    go_wp2_with fail
    refine (HM.out _).mono ?_
    rintro x w2 ⟨rfl, b2⟩
    go_wp2
    go_ret
    exact ⟨(show Ending.returned (.bool m) = .returned (.bool y) from by rewrite [e2.out]; rfl), Below.next bb b2 (by omega)⟩
  · have e1 : (p.k == k) = false := by rw [beq_eq_false_iff_ne]; exact e
    have e2 := Lib.hid (show false = y from by rw [e1] at hy; exact hy)
    clear hy
    go_enter Try.func64, Try.ntmps64
    go_wp2
    go_ret
    exact ⟨(show Ending.returned (.bool false) = .returned (.bool y) from by rewrite [← e2.out]; rfl), bb⟩
set_option maxHeartbeats 4000000 in
theorem eqf_fits (A : Option Addr) (n c : Nat) (K : List Int) (A2 : Option Addr) (n2 c2 : Nat) (V : List ValR) (w : World) (h : RN w A n c K) (h2 : RV w A2 n2 c2 V) :
    Calls Try.prog 63 #[.slice A n c, .slice A2 n2 c2, .func (.func 64) #[] #[]] w fun e w' => e = .returned (.bool (fitsL K V)) ∧ Below w.heap.size w w' := by
  obtain ⟨R, hR⟩ : ∃ R, fitsL K V = R := ⟨_, rfl⟩
  rw [hR]
  have hres := Lib.hid hR
  clear hR
  have hnm : n ≤ maxLen := Nat.le_trans h.cap h.max
  have hnm2 : n2 ≤ maxLen := Nat.le_trans h2.cap h2.max
  unfold maxLen at hnm hnm2
  have hKn := h.len
  have hVn := h2.len
  by_cases hl : n = n2
  rotate_left
  · have hno := Lib.hid (fits_len (K := K) (V := V) (by omega))
    have e1 : ((n : Int) != (n2 : Int)) = true := by rw [bne_iff_ne]; omega
    go_enter Try.func63, Try.ntmps63
    go_wp2
    go_ret
    exact ⟨(show Ending.returned (.bool false) = .returned (.bool R) from by rewrite [← hres.out, hno.out]; rfl), Below.refl _ _⟩
  subst hl
  go_enter Try.func63, Try.ntmps63
  go_wp2
  go_loopw [17] (fun i wr => ∃ k : Nat, k ≤ n ∧ i = .int .i64 k ∧ Below w.heap.size w wr ∧ Hid (∀ i k' v, i < k → K[i]? = some k' → V[i]? = some v → fit1 k' v = true)) (fun i _ => n - (intOf i).toNat)
  case atStart => exact ⟨0, by omega, rfl, (by repeat (first | exact Below.refl _ _ | assumption | apply below_drewN' | apply Below.drew | refine Below.alloc ?_ (by first | omega | (simp; done) | (simp; omega)) _ | refine Below.setCell ?_ (by first | omega | (simp; done) | (simp; omega)) _)), Lib.hid (fun i a b hi => absurd hi (by omega))⟩
  case round =>
    obtain ⟨k, hk, rfl, bl, hall⟩ := hrel
    by_cases hlt : k < n
    · obtain ⟨q, hq⟩ : ∃ q, K[k]? = some q := ⟨_, List.getElem?_eq_getElem (by omega)⟩
      obtain ⟨p, hp⟩ : ∃ p, V[k]? = some p := ⟨_, List.getElem?_eq_getElem (by omega)⟩
      obtain ⟨g, o, rfl, hc⟩ := (h.below bl).at_ (by omega)
      have hc0 := hc k q hq
      obtain ⟨g2, o2, rfl, hd⟩ := (h2.below bl).at_ (by omega)
      obtain ⟨hd0, hd1, hd2⟩ := hd k p hp
      have hph := Lib.hid hp
      have hqh := Lib.hid hq
      clear hc hd hp hq
      obtain ⟨r, hr⟩ : ∃ r, fit1 q p = r := ⟨_, rfl⟩
      have HS := Lib.hid (fun w => fits_cl q p r w hr)
      have hr := Lib.hid hr
      have bx : Below wr.heap.size wr (wr.alloc (.cells #[.int .i64 (p.k), .int .i64 (p.n), .string (str (p.s))] 51)) := (by repeat (first | exact Below.refl _ _ | assumption | apply below_drewN' | apply Below.drew | refine Below.alloc ?_ (by first | omega | (simp; done) | (simp; omega)) _ | refine Below.setCell ?_ (by first | omega | (simp; done) | (simp; omega)) _))
      have bl2 := Below.next bl bx (Nat.le_refl _)
      go_wp2_with fail
      refine (HS.out _).mono ?_
      rintro e w2 ⟨rfl, hb⟩
      replace bl2 := Below.next bl2 hb (Nat.le_refl _)
      clear bx hb hc0 hd0 hd1 hd2
      cases r with
      | true =>
        go_wp2
        go_roundw
        case rel =>
          refine ⟨k + 1, by omega, by go_num, bl2, Lib.hid fun i a b hi ha hb => ?_⟩
          by_cases ei : i = k
          · subst ei; rw [hqh.out] at ha; rw [hph.out] at hb; injection ha with ha; injection hb with hb; rw [← ha, ← hb]; exact hr.out
          · exact hall.out i a b (by omega) ha hb
        case measure => simp [intOf]; omega
      | false =>
        have hno := Lib.hid (fits_no hqh.out hph.out hr.out)
        go_wp2
        go_ret
        exact ⟨(show Ending.returned (.bool false) = .returned (.bool R) from by rewrite [← hres.out, hno.out]; rfl), bl2⟩
    · have hkn : n = k := by omega
      have hyes := Lib.hid (fits_yes (K := K) (V := V) (by omega) (fun i a b hi ha hb => hall.out i a b (by omega) ha hb))
      subst hkn
      go_wp2
      go_ret
      exact ⟨(show Ending.returned (.bool true) = .returned (.bool R) from by rewrite [← hres.out, hyes.out]; rfl), bl⟩
theorem row_fits (A : Option Addr) (n c : Nat) (K : List Int) (A2 : Option Addr) (n2 c2 : Nat) (V : List ValR) (w : World) (h : RN w A n c K) (h2 : RV w A2 n2 c2 V) :
    Calls Try.prog 39 #[.slice A n c, .slice A2 n2 c2] w fun e w' => e = .returned (.bool (fitsL K V)) ∧ Below w.heap.size w w' := by
  have HE := Lib.hid (fun w h h2 => eqf_fits A n c K A2 n2 c2 V w h h2)
  generalize fitsL K V = R at *
  go_enter Try.func39, Try.ntmps39
  go_wp2_with fail
  refine (HE.out _ h h2).mono ?_
  rintro x w2 ⟨rfl, b2⟩
  go_wp2
  go_ret
  exact ⟨rfl, b2⟩
/-- May a row be of the tables Z? -/
def mayRow (Z : List (List Int)) (r : RowR) : Bool := decide (0 ≤ r.t) && (decide (r.t < (Z.length : Int)) && fitsL (Z.getD r.t.toNat []) r.V)
theorem mayRow_neg {Z : List (List Int)} {t : Int} {V : List ValR} (h : t < 0) : mayRow Z ⟨t, V⟩ = false := by
  unfold mayRow
  rw [decide_eq_false (show ¬ (0 : Int) ≤ t by omega)]
  rfl
theorem mayRow_far {Z : List (List Int)} {t : Int} {V : List ValR} (h : (Z.length : Int) ≤ t) : mayRow Z ⟨t, V⟩ = false := by
  unfold mayRow
  rw [decide_eq_false (show ¬ t < (Z.length : Int) by omega), Bool.and_comm]
  rfl
theorem mayRow_in {Z : List (List Int)} {j : Nat} {z : List Int} {V : List ValR} (h : Z[j]? = some z) : mayRow Z ⟨(j : Int), V⟩ = fitsL z V := by
  have hj := (List.getElem?_eq_some_iff.1 h).1
  unfold mayRow
  rw [decide_eq_true (show (0 : Int) ≤ (j : Int) by omega), decide_eq_true (show ((j : Nat) : Int) < (Z.length : Int) by omega), List.getD_eq_getElem?_getD, Int.toNat_natCast, h]
  rfl
set_option maxHeartbeats 4000000 in
theorem row_may (A : Option Addr) (n c : Nat) (Z : List (List Int)) (t : Int) (A2 : Option Addr) (n2 c2 : Nat) (V : List ValR) (w : World) (h : RG w A n c Z) (h2 : RV w A2 n2 c2 V) :
    Calls Try.prog 36 #[.slice A n c, .agg #[.int .i64 t, .slice A2 n2 c2]] w fun e w' => e = .returned (.bool (mayRow Z ⟨t, V⟩)) ∧ Below w.heap.size w w' := by
  have hnm : n ≤ maxLen := Nat.le_trans h.cap h.max
  unfold maxLen at hnm
  have hl := h.len
  have hX := Blk.new w #[.int .i64 t, .slice A2 n2 c2] 26
  have bb : Below w.heap.size w (w.alloc (.cells #[.int .i64 t, .slice A2 n2 c2] 26)) := (by repeat (first | exact Below.refl _ _ | assumption | apply below_drewN' | apply Below.drew | refine Below.alloc ?_ (by first | omega | (simp; done) | (simp; omega)) _ | refine Below.setCell ?_ (by first | omega | (simp; done) | (simp; omega)) _))
  rcases (show t < 0 ∨ (¬ t < 0 ∧ (n : Int) ≤ t) ∨ (∃ j : Nat, t = j ∧ j < n) by
    rcases Int.lt_or_le t 0 with a | a
    · exact .inl a
    · rcases Int.lt_or_le t n with b | b
      · exact .inr (.inr ⟨t.toNat, by omega, by omega⟩)
      · exact .inr (.inl ⟨by omega, b⟩)) with i1 | ⟨i1, i2⟩ | ⟨j, rfl, hj⟩
  · have he := Lib.hid (mayRow_neg (Z := Z) (V := V) i1)
    have f1 : decide (0 ≤ t) = false := decide_eq_false (by omega)
    have f2 : decide (t ≥ 0) = false := decide_eq_false (by omega)
    go_enter Try.func36, Try.ntmps36
    go_wp2_with fail
    obtain ⟨w1, hw1⟩ : ∃ w1, w.alloc (.cells #[.int .i64 t, .slice A2 n2 c2] 26) = w1 := ⟨_, rfl⟩
    rw [hw1] at bb hX ⊢
    have x0 := hX.cell 0 (v := .int .i64 t) rfl
    have x1 := hX.cell 1 (v := .slice A2 n2 c2) rfl
    have hvo := Free.val
    refine Free.wp_facts (M := [0, 1, 3, 7, 15, 31, 15, 79, 255, 511, 1023, 2047, 2047, 6143, 16383, 32767, 2047, 67583, 262143, 524287, 1048575]) (D := [[], [(0, 5)], [(1, 6)], [(2, 7)], [(3, 8)], [(4, 9), (3, 8)], [(3, 8)], [(6, 11), (3, 8)], [(5, 10), (7, 12), (3, 8)], [(3, 8), (8, 13)], [(9, 14)], [(10, 15)], [(10, 15)], [(12, 17), (10, 15)], [(11, 16), (13, 18), (10, 15)], [(14, 19), (10, 15)], [(10, 15)], [(16, 21), (10, 15)], [(15, 20), (17, 22), (10, 15)], [(10, 15), (18, 23)], [(19, 24)]]) (outs := [20]) (soles := []) (E := [(0, 5, false), (1, 6, false), (2, 7, false), (3, 8, false), (4, 9, false), (5, 10, false), (6, 11, false), (7, 12, false), (8, 13, false), (9, 14, false), (10, 15, false), (11, 16, false), (12, 17, false), (13, 18, false), (14, 19, false), (15, 20, false), (16, 21, false), (17, 22, false), (18, 23, false), (19, 24, false), (20, 4, true)]) (N := 25) (S := (fun w' => Below w1.heap.size w1 w')) [Free.Fact.is ?_, Free.Fact.is ?_, Free.Fact.is ?_, Free.Fact.is ?_, Free.Fact.is ?_, Free.Fact.is ?_, Free.Fact.is ?_, Free.Fact.is ?_, Free.Fact.is ?_, Free.Fact.is ?_, Free.Fact.is ?_, Free.Fact.is ?_, Free.Fact.is ?_, Free.Fact.is ?_, Free.Fact.is ?_, Free.Fact.is ?_, Free.Fact.is ?_, Free.Fact.is ?_, Free.Fact.is ?_, Free.Fact.is ?_, Free.Fact.is ?_] (by kernel_rfl) (by kernel_rfl) rfl ((Below.refl _ _).drew) ?_ ?_
    rotate_left 21
    refine Free.cons ?_ ?_
    · intro w' hS; intro K hK; have k0 := (hS.cell (p := ⟨w.heap.size, 0, none⟩) hX.lt).trans x0; have k1 := (hS.cell (p := ⟨w.heap.size, 1, none⟩) hX.lt).trans x1; first | (refine Free.run_yes (by rfl) ?_; go_simp; refine Free.o hK hS ?_; exact rfl) | (refine Free.run_no (by rfl) (Free.o hK hS ?_); exact rfl)
    refine Free.cons ?_ ?_
    · intro w' hS; (rintro _ rfl); intro K hK; have k0 := (hS.cell (p := ⟨w.heap.size, 0, none⟩) hX.lt).trans x0; have k1 := (hS.cell (p := ⟨w.heap.size, 1, none⟩) hX.lt).trans x1; first | (refine Free.run_yes (by rfl) ?_; go_simp; refine Free.o hK hS ?_; exact rfl) | (refine Free.run_no (by rfl) (Free.o hK hS ?_); exact rfl)
    refine Free.cons ?_ ?_
    · intro w' hS; (rintro _ rfl); intro K hK; have k0 := (hS.cell (p := ⟨w.heap.size, 0, none⟩) hX.lt).trans x0; have k1 := (hS.cell (p := ⟨w.heap.size, 1, none⟩) hX.lt).trans x1; first | (refine Free.run_yes (by rfl) ?_; go_simp; refine Free.o hK hS ?_; exact rfl) | (refine Free.run_no (by rfl) (Free.o hK hS ?_); exact rfl)
    refine Free.cons ?_ ?_
    · intro w' hS; (rintro _ rfl); intro K hK; have k0 := (hS.cell (p := ⟨w.heap.size, 0, none⟩) hX.lt).trans x0; have k1 := (hS.cell (p := ⟨w.heap.size, 1, none⟩) hX.lt).trans x1; first | (refine Free.run_yes (by rfl) ?_; go_simp; refine Free.o hK hS ?_; exact rfl) | (refine Free.run_no (by rfl) (Free.o hK hS ?_); exact rfl)
    refine Free.cons ?_ ?_
    · intro w' hS; (rintro _ rfl); intro K hK; have k0 := (hS.cell (p := ⟨w.heap.size, 0, none⟩) hX.lt).trans x0; have k1 := (hS.cell (p := ⟨w.heap.size, 1, none⟩) hX.lt).trans x1; first | (refine Free.run_yes (by rfl) ?_; go_simp; refine Free.o hK hS ?_; exact rfl) | (refine Free.run_no (by rfl) (Free.o hK hS ?_); exact rfl)
    refine Free.cons ?_ ?_
    · intro w' hS; (rintro _ rfl); (rintro _ rfl); intro K hK; have k0 := (hS.cell (p := ⟨w.heap.size, 0, none⟩) hX.lt).trans x0; have k1 := (hS.cell (p := ⟨w.heap.size, 1, none⟩) hX.lt).trans x1; first | (refine Free.run_yes (by rfl) ?_; go_simp; refine Free.o hK hS ?_; exact rfl) | (refine Free.run_no (by rfl) (Free.o hK hS ?_); exact rfl)
    refine Free.cons ?_ ?_
    · intro w' hS; (rintro _ rfl); intro K hK; have k0 := (hS.cell (p := ⟨w.heap.size, 0, none⟩) hX.lt).trans x0; have k1 := (hS.cell (p := ⟨w.heap.size, 1, none⟩) hX.lt).trans x1; first | (refine Free.run_yes (by rfl) ?_; go_simp; refine Free.o hK hS ?_; exact rfl) | (refine Free.run_no (by rfl) (Free.o hK hS ?_); exact rfl)
    refine Free.cons ?_ ?_
    · intro w' hS; (rintro _ rfl); (rintro _ rfl); intro K hK; have k0 := (hS.cell (p := ⟨w.heap.size, 0, none⟩) hX.lt).trans x0; have k1 := (hS.cell (p := ⟨w.heap.size, 1, none⟩) hX.lt).trans x1; first | (refine Free.run_yes (by rfl) ?_; go_simp; refine Free.o hK hS ?_; exact rfl) | (refine Free.run_no (by rfl) (Free.o hK hS ?_); exact rfl)
    refine Free.cons ?_ ?_
    · intro w' hS; (rintro _ rfl); (rintro _ rfl); (rintro _ rfl); intro K hK; have k0 := (hS.cell (p := ⟨w.heap.size, 0, none⟩) hX.lt).trans x0; have k1 := (hS.cell (p := ⟨w.heap.size, 1, none⟩) hX.lt).trans x1; first | (refine Free.run_yes (by rfl) ?_; go_simp; refine Free.o hK hS ?_; exact rfl) | (refine Free.run_no (by rfl) (Free.o hK hS ?_); exact rfl)
    refine Free.cons ?_ ?_
    · intro w' hS; (rintro _ rfl); (rintro _ rfl); intro K hK; have k0 := (hS.cell (p := ⟨w.heap.size, 0, none⟩) hX.lt).trans x0; have k1 := (hS.cell (p := ⟨w.heap.size, 1, none⟩) hX.lt).trans x1; first | (refine Free.run_yes (by rfl) ?_; go_simp; refine Free.o hK hS ?_; exact rfl) | (refine Free.run_no (by rfl) (Free.o hK hS ?_); exact rfl)
    refine Free.cons ?_ ?_
    · intro w' hS; (rintro _ rfl); intro K hK; have k0 := (hS.cell (p := ⟨w.heap.size, 0, none⟩) hX.lt).trans x0; have k1 := (hS.cell (p := ⟨w.heap.size, 1, none⟩) hX.lt).trans x1; first | (refine Free.run_yes (by rfl) ?_; go_simp; refine Free.o hK hS ?_; exact rfl) | (refine Free.run_no (by rfl) (Free.o hK hS ?_); exact rfl)
    refine Free.cons ?_ ?_
    · intro w' hS; (rintro _ rfl); intro K hK; have k0 := (hS.cell (p := ⟨w.heap.size, 0, none⟩) hX.lt).trans x0; have k1 := (hS.cell (p := ⟨w.heap.size, 1, none⟩) hX.lt).trans x1; first | (refine Free.run_yes (by rfl) ?_; go_simp; refine Free.o hK hS ?_; exact rfl) | (refine Free.run_no (by rfl) (Free.o hK hS ?_); exact rfl)
    refine Free.cons ?_ ?_
    · intro w' hS; (rintro _ rfl); intro K hK; have k0 := (hS.cell (p := ⟨w.heap.size, 0, none⟩) hX.lt).trans x0; have k1 := (hS.cell (p := ⟨w.heap.size, 1, none⟩) hX.lt).trans x1; first | (refine Free.run_yes (by rfl) ?_; go_simp; refine Free.o hK hS ?_; exact rfl) | (refine Free.run_no (by rfl) (Free.o hK hS ?_); exact rfl)
    refine Free.cons ?_ ?_
    · intro w' hS; (rintro _ rfl); (rintro _ rfl); intro K hK; have k0 := (hS.cell (p := ⟨w.heap.size, 0, none⟩) hX.lt).trans x0; have k1 := (hS.cell (p := ⟨w.heap.size, 1, none⟩) hX.lt).trans x1; first | (refine Free.run_yes (by rfl) ?_; go_simp; refine Free.o hK hS ?_; exact rfl) | (refine Free.run_no (by rfl) (Free.o hK hS ?_); exact rfl)
    refine Free.cons ?_ ?_
    · intro w' hS; (rintro _ rfl); (rintro _ rfl); (rintro _ rfl); intro K hK; have k0 := (hS.cell (p := ⟨w.heap.size, 0, none⟩) hX.lt).trans x0; have k1 := (hS.cell (p := ⟨w.heap.size, 1, none⟩) hX.lt).trans x1; first | (refine Free.run_yes (by rfl) ?_; go_simp; refine Free.o hK hS ?_; exact rfl) | (refine Free.run_no (by rfl) (Free.o hK hS ?_); exact rfl)
    refine Free.cons ?_ ?_
    · intro w' hS; (rintro _ rfl); (rintro _ rfl); intro K hK; have k0 := (hS.cell (p := ⟨w.heap.size, 0, none⟩) hX.lt).trans x0; have k1 := (hS.cell (p := ⟨w.heap.size, 1, none⟩) hX.lt).trans x1; first | (refine Free.run_yes (by rfl) ?_; go_simp; refine Free.o hK hS ?_; exact rfl) | (refine Free.run_no (by rfl) (Free.o hK hS ?_); exact rfl)
    refine Free.cons ?_ ?_
    · intro w' hS; (rintro _ rfl); intro K hK; have k0 := (hS.cell (p := ⟨w.heap.size, 0, none⟩) hX.lt).trans x0; have k1 := (hS.cell (p := ⟨w.heap.size, 1, none⟩) hX.lt).trans x1; first | (refine Free.run_yes (by rfl) ?_; go_simp; refine Free.o hK hS ?_; exact rfl) | (refine Free.run_no (by rfl) (Free.o hK hS ?_); exact rfl)
    refine Free.cons ?_ ?_
    · intro w' hS; (rintro _ rfl); (rintro _ rfl); intro K hK; have k0 := (hS.cell (p := ⟨w.heap.size, 0, none⟩) hX.lt).trans x0; have k1 := (hS.cell (p := ⟨w.heap.size, 1, none⟩) hX.lt).trans x1; first | (refine Free.run_yes (by rfl) ?_; go_simp; refine Free.o hK hS ?_; exact rfl) | (refine Free.run_no (by rfl) (Free.o hK hS ?_); exact rfl)
    refine Free.cons ?_ ?_
    · intro w' hS; (rintro _ rfl); (rintro _ rfl); (rintro _ rfl); intro K hK; have k0 := (hS.cell (p := ⟨w.heap.size, 0, none⟩) hX.lt).trans x0; have k1 := (hS.cell (p := ⟨w.heap.size, 1, none⟩) hX.lt).trans x1; first | (refine Free.run_yes (by rfl) ?_; go_simp; (fail); go_simp; refine Free.c hK (keep hS hb) hb ?_; exact rfl) | (refine Free.run_no (by rfl) (Free.o hK hS ?_); exact rfl)
    refine Free.cons ?_ ?_
    · intro w' hS; (rintro _ rfl); (rintro _ rfl); intro K hK; have k0 := (hS.cell (p := ⟨w.heap.size, 0, none⟩) hX.lt).trans x0; have k1 := (hS.cell (p := ⟨w.heap.size, 1, none⟩) hX.lt).trans x1; first | (refine Free.run_yes (by rfl) ?_; go_simp; refine Free.o hK hS ?_; exact rfl) | (refine Free.run_no (by rfl) (Free.o hK hS ?_); exact rfl)
    refine Free.cons ?_ ?_
    · intro w' hS; (rintro _ rfl); intro K hK; have k0 := (hS.cell (p := ⟨w.heap.size, 0, none⟩) hX.lt).trans x0; have k1 := (hS.cell (p := ⟨w.heap.size, 1, none⟩) hX.lt).trans x1; first | (refine Free.run_yes (by rfl) ?_; go_simp; refine Free.o hK hS ?_; exact rfl) | (refine Free.run_no (by rfl) (Free.o hK hS ?_); exact rfl)
    exact Free.nil
    clear hvo
    intro w' hS; intro v0; intro v1; intro v2; intro v3; intro v4; intro v5; intro v6; intro v7; intro v8; intro v9; intro v10; intro v11; intro v12; intro v13; intro v14; intro v15; intro v16; intro v17; intro v18; intro v19; (rintro _ rfl); (try simp only [Act.put, List.setIfInBounds_toArray, List.set_cons_zero, List.set_cons_succ]); refine Free.toldE_nil ?_
    go_wp2
    go_ret
    exact ⟨(show Ending.returned (.bool false) = .returned (.bool (mayRow Z ⟨t, V⟩)) from by rewrite [he.out]; rfl), Below.next bb hS (Nat.le_refl _)⟩
  · have he := Lib.hid (mayRow_far (Z := Z) (V := V) (t := t) (by omega))
    have f1 : decide (0 ≤ t) = true := decide_eq_true (by omega)
    have f2 : decide (t ≥ 0) = true := decide_eq_true (by omega)
    have f3 : decide (t < (n : Int)) = false := decide_eq_false (by omega)
    go_enter Try.func36, Try.ntmps36
    go_wp2_with fail
    obtain ⟨w1, hw1⟩ : ∃ w1, w.alloc (.cells #[.int .i64 t, .slice A2 n2 c2] 26) = w1 := ⟨_, rfl⟩
    rw [hw1] at bb hX ⊢
    have x0 := hX.cell 0 (v := .int .i64 t) rfl
    have x1 := hX.cell 1 (v := .slice A2 n2 c2) rfl
    have hvo := Free.val
    refine Free.wp_facts (M := [0, 1, 3, 7, 15, 31, 15, 79, 255, 511, 1023, 2047, 2047, 6143, 16383, 32767, 2047, 67583, 262143, 524287, 1048575]) (D := [[], [(0, 5)], [(1, 6)], [(2, 7)], [(3, 8)], [(4, 9), (3, 8)], [(3, 8)], [(6, 11), (3, 8)], [(5, 10), (7, 12), (3, 8)], [(3, 8), (8, 13)], [(9, 14)], [(10, 15)], [(10, 15)], [(12, 17), (10, 15)], [(11, 16), (13, 18), (10, 15)], [(14, 19), (10, 15)], [(10, 15)], [(16, 21), (10, 15)], [(15, 20), (17, 22), (10, 15)], [(10, 15), (18, 23)], [(19, 24)]]) (outs := [20]) (soles := []) (E := [(0, 5, false), (1, 6, false), (2, 7, false), (3, 8, false), (4, 9, false), (5, 10, false), (6, 11, false), (7, 12, false), (8, 13, false), (9, 14, false), (10, 15, false), (11, 16, false), (12, 17, false), (13, 18, false), (14, 19, false), (15, 20, false), (16, 21, false), (17, 22, false), (18, 23, false), (19, 24, false), (20, 4, true)]) (N := 25) (S := (fun w' => Below w1.heap.size w1 w')) [Free.Fact.is ?_, Free.Fact.is ?_, Free.Fact.is ?_, Free.Fact.is ?_, Free.Fact.is ?_, Free.Fact.is ?_, Free.Fact.is ?_, Free.Fact.is ?_, Free.Fact.is ?_, Free.Fact.is ?_, Free.Fact.is ?_, Free.Fact.is ?_, Free.Fact.is ?_, Free.Fact.is ?_, Free.Fact.is ?_, Free.Fact.is ?_, Free.Fact.is ?_, Free.Fact.is ?_, Free.Fact.is ?_, Free.Fact.is ?_, Free.Fact.is ?_] (by kernel_rfl) (by kernel_rfl) rfl ((Below.refl _ _).drew) ?_ ?_
    rotate_left 21
    refine Free.cons ?_ ?_
    · intro w' hS; intro K hK; have k0 := (hS.cell (p := ⟨w.heap.size, 0, none⟩) hX.lt).trans x0; have k1 := (hS.cell (p := ⟨w.heap.size, 1, none⟩) hX.lt).trans x1; first | (refine Free.run_yes (by rfl) ?_; go_simp; refine Free.o hK hS ?_; exact rfl) | (refine Free.run_no (by rfl) (Free.o hK hS ?_); exact rfl)
    refine Free.cons ?_ ?_
    · intro w' hS; (rintro _ rfl); intro K hK; have k0 := (hS.cell (p := ⟨w.heap.size, 0, none⟩) hX.lt).trans x0; have k1 := (hS.cell (p := ⟨w.heap.size, 1, none⟩) hX.lt).trans x1; first | (refine Free.run_yes (by rfl) ?_; go_simp; refine Free.o hK hS ?_; exact rfl) | (refine Free.run_no (by rfl) (Free.o hK hS ?_); exact rfl)
    refine Free.cons ?_ ?_
    · intro w' hS; (rintro _ rfl); intro K hK; have k0 := (hS.cell (p := ⟨w.heap.size, 0, none⟩) hX.lt).trans x0; have k1 := (hS.cell (p := ⟨w.heap.size, 1, none⟩) hX.lt).trans x1; first | (refine Free.run_yes (by rfl) ?_; go_simp; refine Free.o hK hS ?_; exact rfl) | (refine Free.run_no (by rfl) (Free.o hK hS ?_); exact rfl)
    refine Free.cons ?_ ?_
    · intro w' hS; (rintro _ rfl); intro K hK; have k0 := (hS.cell (p := ⟨w.heap.size, 0, none⟩) hX.lt).trans x0; have k1 := (hS.cell (p := ⟨w.heap.size, 1, none⟩) hX.lt).trans x1; first | (refine Free.run_yes (by rfl) ?_; go_simp; refine Free.o hK hS ?_; exact rfl) | (refine Free.run_no (by rfl) (Free.o hK hS ?_); exact rfl)
    refine Free.cons ?_ ?_
    · intro w' hS; (rintro _ rfl); intro K hK; have k0 := (hS.cell (p := ⟨w.heap.size, 0, none⟩) hX.lt).trans x0; have k1 := (hS.cell (p := ⟨w.heap.size, 1, none⟩) hX.lt).trans x1; first | (refine Free.run_yes (by rfl) ?_; go_simp; refine Free.o hK hS ?_; exact rfl) | (refine Free.run_no (by rfl) (Free.o hK hS ?_); exact rfl)
    refine Free.cons ?_ ?_
    · intro w' hS; (rintro _ rfl); (rintro _ rfl); intro K hK; have k0 := (hS.cell (p := ⟨w.heap.size, 0, none⟩) hX.lt).trans x0; have k1 := (hS.cell (p := ⟨w.heap.size, 1, none⟩) hX.lt).trans x1; first | (refine Free.run_yes (by rfl) ?_; go_simp; refine Free.o hK hS ?_; exact rfl) | (refine Free.run_no (by rfl) (Free.o hK hS ?_); exact rfl)
    refine Free.cons ?_ ?_
    · intro w' hS; (rintro _ rfl); intro K hK; have k0 := (hS.cell (p := ⟨w.heap.size, 0, none⟩) hX.lt).trans x0; have k1 := (hS.cell (p := ⟨w.heap.size, 1, none⟩) hX.lt).trans x1; first | (refine Free.run_yes (by rfl) ?_; go_simp; refine Free.o hK hS ?_; exact rfl) | (refine Free.run_no (by rfl) (Free.o hK hS ?_); exact rfl)
    refine Free.cons ?_ ?_
    · intro w' hS; (rintro _ rfl); (rintro _ rfl); intro K hK; have k0 := (hS.cell (p := ⟨w.heap.size, 0, none⟩) hX.lt).trans x0; have k1 := (hS.cell (p := ⟨w.heap.size, 1, none⟩) hX.lt).trans x1; first | (refine Free.run_yes (by rfl) ?_; go_simp; refine Free.o hK hS ?_; exact rfl) | (refine Free.run_no (by rfl) (Free.o hK hS ?_); exact rfl)
    refine Free.cons ?_ ?_
    · intro w' hS; (rintro _ rfl); (rintro _ rfl); (rintro _ rfl); intro K hK; have k0 := (hS.cell (p := ⟨w.heap.size, 0, none⟩) hX.lt).trans x0; have k1 := (hS.cell (p := ⟨w.heap.size, 1, none⟩) hX.lt).trans x1; first | (refine Free.run_yes (by rfl) ?_; go_simp; refine Free.o hK hS ?_; exact rfl) | (refine Free.run_no (by rfl) (Free.o hK hS ?_); exact rfl)
    refine Free.cons ?_ ?_
    · intro w' hS; (rintro _ rfl); (rintro _ rfl); intro K hK; have k0 := (hS.cell (p := ⟨w.heap.size, 0, none⟩) hX.lt).trans x0; have k1 := (hS.cell (p := ⟨w.heap.size, 1, none⟩) hX.lt).trans x1; first | (refine Free.run_yes (by rfl) ?_; go_simp; refine Free.o hK hS ?_; exact rfl) | (refine Free.run_no (by rfl) (Free.o hK hS ?_); exact rfl)
    refine Free.cons ?_ ?_
    · intro w' hS; (rintro _ rfl); intro K hK; have k0 := (hS.cell (p := ⟨w.heap.size, 0, none⟩) hX.lt).trans x0; have k1 := (hS.cell (p := ⟨w.heap.size, 1, none⟩) hX.lt).trans x1; first | (refine Free.run_yes (by rfl) ?_; go_simp; refine Free.o hK hS ?_; exact rfl) | (refine Free.run_no (by rfl) (Free.o hK hS ?_); exact rfl)
    refine Free.cons ?_ ?_
    · intro w' hS; (rintro _ rfl); intro K hK; have k0 := (hS.cell (p := ⟨w.heap.size, 0, none⟩) hX.lt).trans x0; have k1 := (hS.cell (p := ⟨w.heap.size, 1, none⟩) hX.lt).trans x1; first | (refine Free.run_yes (by rfl) ?_; go_simp; refine Free.o hK hS ?_; exact rfl) | (refine Free.run_no (by rfl) (Free.o hK hS ?_); exact rfl)
    refine Free.cons ?_ ?_
    · intro w' hS; (rintro _ rfl); intro K hK; have k0 := (hS.cell (p := ⟨w.heap.size, 0, none⟩) hX.lt).trans x0; have k1 := (hS.cell (p := ⟨w.heap.size, 1, none⟩) hX.lt).trans x1; first | (refine Free.run_yes (by rfl) ?_; go_simp; refine Free.o hK hS ?_; exact rfl) | (refine Free.run_no (by rfl) (Free.o hK hS ?_); exact rfl)
    refine Free.cons ?_ ?_
    · intro w' hS; (rintro _ rfl); (rintro _ rfl); intro K hK; have k0 := (hS.cell (p := ⟨w.heap.size, 0, none⟩) hX.lt).trans x0; have k1 := (hS.cell (p := ⟨w.heap.size, 1, none⟩) hX.lt).trans x1; first | (refine Free.run_yes (by rfl) ?_; go_simp; refine Free.o hK hS ?_; exact rfl) | (refine Free.run_no (by rfl) (Free.o hK hS ?_); exact rfl)
    refine Free.cons ?_ ?_
    · intro w' hS; (rintro _ rfl); (rintro _ rfl); (rintro _ rfl); intro K hK; have k0 := (hS.cell (p := ⟨w.heap.size, 0, none⟩) hX.lt).trans x0; have k1 := (hS.cell (p := ⟨w.heap.size, 1, none⟩) hX.lt).trans x1; first | (refine Free.run_yes (by rfl) ?_; go_simp; refine Free.o hK hS ?_; exact rfl) | (refine Free.run_no (by rfl) (Free.o hK hS ?_); exact rfl)
    refine Free.cons ?_ ?_
    · intro w' hS; (rintro _ rfl); (rintro _ rfl); intro K hK; have k0 := (hS.cell (p := ⟨w.heap.size, 0, none⟩) hX.lt).trans x0; have k1 := (hS.cell (p := ⟨w.heap.size, 1, none⟩) hX.lt).trans x1; first | (refine Free.run_yes (by rfl) ?_; go_simp; refine Free.o hK hS ?_; exact rfl) | (refine Free.run_no (by rfl) (Free.o hK hS ?_); exact rfl)
    refine Free.cons ?_ ?_
    · intro w' hS; (rintro _ rfl); intro K hK; have k0 := (hS.cell (p := ⟨w.heap.size, 0, none⟩) hX.lt).trans x0; have k1 := (hS.cell (p := ⟨w.heap.size, 1, none⟩) hX.lt).trans x1; first | (refine Free.run_yes (by rfl) ?_; go_simp; refine Free.o hK hS ?_; exact rfl) | (refine Free.run_no (by rfl) (Free.o hK hS ?_); exact rfl)
    refine Free.cons ?_ ?_
    · intro w' hS; (rintro _ rfl); (rintro _ rfl); intro K hK; have k0 := (hS.cell (p := ⟨w.heap.size, 0, none⟩) hX.lt).trans x0; have k1 := (hS.cell (p := ⟨w.heap.size, 1, none⟩) hX.lt).trans x1; first | (refine Free.run_yes (by rfl) ?_; go_simp; refine Free.o hK hS ?_; exact rfl) | (refine Free.run_no (by rfl) (Free.o hK hS ?_); exact rfl)
    refine Free.cons ?_ ?_
    · intro w' hS; (rintro _ rfl); (rintro _ rfl); (rintro _ rfl); intro K hK; have k0 := (hS.cell (p := ⟨w.heap.size, 0, none⟩) hX.lt).trans x0; have k1 := (hS.cell (p := ⟨w.heap.size, 1, none⟩) hX.lt).trans x1; first | (refine Free.run_yes (by rfl) ?_; go_simp; (fail); go_simp; refine Free.c hK (keep hS hb) hb ?_; exact rfl) | (refine Free.run_no (by rfl) (Free.o hK hS ?_); exact rfl)
    refine Free.cons ?_ ?_
    · intro w' hS; (rintro _ rfl); (rintro _ rfl); intro K hK; have k0 := (hS.cell (p := ⟨w.heap.size, 0, none⟩) hX.lt).trans x0; have k1 := (hS.cell (p := ⟨w.heap.size, 1, none⟩) hX.lt).trans x1; first | (refine Free.run_yes (by rfl) ?_; go_simp; refine Free.o hK hS ?_; exact rfl) | (refine Free.run_no (by rfl) (Free.o hK hS ?_); exact rfl)
    refine Free.cons ?_ ?_
    · intro w' hS; (rintro _ rfl); intro K hK; have k0 := (hS.cell (p := ⟨w.heap.size, 0, none⟩) hX.lt).trans x0; have k1 := (hS.cell (p := ⟨w.heap.size, 1, none⟩) hX.lt).trans x1; first | (refine Free.run_yes (by rfl) ?_; go_simp; refine Free.o hK hS ?_; exact rfl) | (refine Free.run_no (by rfl) (Free.o hK hS ?_); exact rfl)
    exact Free.nil
    clear hvo
    intro w' hS; intro v0; intro v1; intro v2; intro v3; intro v4; intro v5; intro v6; intro v7; intro v8; intro v9; intro v10; intro v11; intro v12; intro v13; intro v14; intro v15; intro v16; intro v17; intro v18; intro v19; (rintro _ rfl); (try simp only [Act.put, List.setIfInBounds_toArray, List.set_cons_zero, List.set_cons_succ]); refine Free.toldE_nil ?_
    go_wp2
    go_ret
    exact ⟨(show Ending.returned (.bool false) = .returned (.bool (mayRow Z ⟨t, V⟩)) from by rewrite [he.out]; rfl), Below.next bb hS (Nat.le_refl _)⟩
  · obtain ⟨z, hz⟩ : ∃ z, Z[j]? = some z := ⟨_, List.getElem?_eq_getElem (by omega)⟩
    have he := Lib.hid (mayRow_in (V := V) hz)
    obtain ⟨g, o, rfl, hc⟩ := h.at_ (by omega)
    obtain ⟨B, kk, hc0, hRN⟩ := hc j z hz
    have HF := Lib.hid (fun w h h2 => row_fits B z.length kk z A2 n2 c2 V w h h2)
    have hRNh := Lib.hid hRN
    obtain ⟨y, hy⟩ : ∃ y, fitsL z V = y := ⟨_, rfl⟩
    rw [hy] at HF he
    have f1 : decide (0 ≤ (j : Int)) = true := decide_eq_true (by omega)
    have f2 : decide ((j : Int) ≥ 0) = true := decide_eq_true (by omega)
    have f3 : decide ((j : Int) < (n : Int)) = true := decide_eq_true (by omega)
    have hg := World.block_lt_of_cell? w _ hc0
    have d0 := (bb.cell (p := ⟨g, o + j, none⟩) hg).trans hc0
    obtain ⟨zl, hzl⟩ : ∃ m, z.length = m := ⟨_, rfl⟩
    rw [hzl] at d0 HF hRN hRNh
    clear hc hz hl hc0 hRN hy hzl
    go_enter Try.func36, Try.ntmps36
    go_wp2_with fail
    obtain ⟨w1, hw1⟩ : ∃ w1, w.alloc (.cells #[.int .i64 (j : Int), .slice A2 n2 c2] 26) = w1 := ⟨_, rfl⟩
    rw [hw1] at bb hX d0 ⊢
    have x0 := hX.cell 0 (v := .int .i64 (j : Int)) rfl
    have x1 := hX.cell 1 (v := .slice A2 n2 c2) rfl
    have hg1 := World.block_lt_of_cell? w1 _ d0
    clear hw1
    have hvo := Free.val
    refine Free.wp_facts (M := [0, 1, 3, 7, 15, 31, 15, 79, 255, 511, 1023, 2047, 2047, 6143, 16383, 32767, 2047, 67583, 262143, 524287, 1048575]) (D := [[], [(0, 5)], [(1, 6)], [(2, 7)], [(3, 8)], [(4, 9), (3, 8)], [(3, 8)], [(6, 11), (3, 8)], [(5, 10), (7, 12), (3, 8)], [(3, 8), (8, 13)], [(9, 14)], [(10, 15)], [(10, 15)], [(12, 17), (10, 15)], [(11, 16), (13, 18), (10, 15)], [(14, 19), (10, 15)], [(10, 15)], [(16, 21), (10, 15)], [(15, 20), (17, 22), (10, 15)], [(10, 15), (18, 23)], [(19, 24)]]) (outs := [20]) (soles := []) (E := [(0, 5, false), (1, 6, false), (2, 7, false), (3, 8, false), (4, 9, false), (5, 10, false), (6, 11, false), (7, 12, false), (8, 13, false), (9, 14, false), (10, 15, false), (11, 16, false), (12, 17, false), (13, 18, false), (14, 19, false), (15, 20, false), (16, 21, false), (17, 22, false), (18, 23, false), (19, 24, false), (20, 4, true)]) (N := 25) (S := (fun w' => Below w1.heap.size w1 w')) [Free.Fact.is ?_, Free.Fact.is ?_, Free.Fact.is ?_, Free.Fact.is ?_, Free.Fact.is ?_, Free.Fact.is ?_, Free.Fact.is ?_, Free.Fact.is ?_, Free.Fact.is ?_, Free.Fact.is ?_, Free.Fact.is ?_, Free.Fact.is ?_, Free.Fact.is ?_, Free.Fact.is ?_, Free.Fact.is ?_, Free.Fact.is ?_, Free.Fact.is ?_, Free.Fact.is ?_, Free.Fact.is ?_, Free.Fact.is ?_, Free.Fact.is ?_] (by kernel_rfl) (by kernel_rfl) rfl ((Below.refl _ _).drew) ?_ ?_
    rotate_left 21
    refine Free.cons ?_ ?_
    · intro w' hS; intro K hK; have ka0 := (hS.cell (p := ⟨w.heap.size, 0, none⟩) hX.lt).trans x0; have ka1 := (hS.cell (p := ⟨w.heap.size, 1, none⟩) hX.lt).trans x1; have ka2 := (hS.cell (p := ⟨g, o + j, none⟩) hg1).trans d0; first | (refine Free.run_yes (by rfl) ?_; go_simp; refine Free.o hK hS ?_; exact rfl) | (refine Free.run_no (by rfl) (Free.o hK hS ?_); exact rfl)
    refine Free.cons ?_ ?_
    · intro w' hS; (rintro _ rfl); intro K hK; have ka0 := (hS.cell (p := ⟨w.heap.size, 0, none⟩) hX.lt).trans x0; have ka1 := (hS.cell (p := ⟨w.heap.size, 1, none⟩) hX.lt).trans x1; have ka2 := (hS.cell (p := ⟨g, o + j, none⟩) hg1).trans d0; first | (refine Free.run_yes (by rfl) ?_; go_simp; refine Free.o hK hS ?_; exact rfl) | (refine Free.run_no (by rfl) (Free.o hK hS ?_); exact rfl)
    refine Free.cons ?_ ?_
    · intro w' hS; (rintro _ rfl); intro K hK; have ka0 := (hS.cell (p := ⟨w.heap.size, 0, none⟩) hX.lt).trans x0; have ka1 := (hS.cell (p := ⟨w.heap.size, 1, none⟩) hX.lt).trans x1; have ka2 := (hS.cell (p := ⟨g, o + j, none⟩) hg1).trans d0; first | (refine Free.run_yes (by rfl) ?_; go_simp; refine Free.o hK hS ?_; exact rfl) | (refine Free.run_no (by rfl) (Free.o hK hS ?_); exact rfl)
    refine Free.cons ?_ ?_
    · intro w' hS; (rintro _ rfl); intro K hK; have ka0 := (hS.cell (p := ⟨w.heap.size, 0, none⟩) hX.lt).trans x0; have ka1 := (hS.cell (p := ⟨w.heap.size, 1, none⟩) hX.lt).trans x1; have ka2 := (hS.cell (p := ⟨g, o + j, none⟩) hg1).trans d0; first | (refine Free.run_yes (by rfl) ?_; go_simp; refine Free.o hK hS ?_; exact rfl) | (refine Free.run_no (by rfl) (Free.o hK hS ?_); exact rfl)
    refine Free.cons ?_ ?_
    · intro w' hS; (rintro _ rfl); intro K hK; have ka0 := (hS.cell (p := ⟨w.heap.size, 0, none⟩) hX.lt).trans x0; have ka1 := (hS.cell (p := ⟨w.heap.size, 1, none⟩) hX.lt).trans x1; have ka2 := (hS.cell (p := ⟨g, o + j, none⟩) hg1).trans d0; first | (refine Free.run_yes (by rfl) ?_; go_simp; refine Free.o hK hS ?_; exact rfl) | (refine Free.run_no (by rfl) (Free.o hK hS ?_); exact rfl)
    refine Free.cons ?_ ?_
    · intro w' hS; (rintro _ rfl); (rintro _ rfl); intro K hK; have ka0 := (hS.cell (p := ⟨w.heap.size, 0, none⟩) hX.lt).trans x0; have ka1 := (hS.cell (p := ⟨w.heap.size, 1, none⟩) hX.lt).trans x1; have ka2 := (hS.cell (p := ⟨g, o + j, none⟩) hg1).trans d0; first | (refine Free.run_yes (by rfl) ?_; go_simp; refine Free.o hK hS ?_; exact rfl) | (refine Free.run_no (by rfl) (Free.o hK hS ?_); exact rfl)
    refine Free.cons ?_ ?_
    · intro w' hS; (rintro _ rfl); intro K hK; have ka0 := (hS.cell (p := ⟨w.heap.size, 0, none⟩) hX.lt).trans x0; have ka1 := (hS.cell (p := ⟨w.heap.size, 1, none⟩) hX.lt).trans x1; have ka2 := (hS.cell (p := ⟨g, o + j, none⟩) hg1).trans d0; first | (refine Free.run_yes (by rfl) ?_; go_simp; refine Free.o hK hS ?_; exact rfl) | (refine Free.run_no (by rfl) (Free.o hK hS ?_); exact rfl)
    refine Free.cons ?_ ?_
    · intro w' hS; (rintro _ rfl); (rintro _ rfl); intro K hK; have ka0 := (hS.cell (p := ⟨w.heap.size, 0, none⟩) hX.lt).trans x0; have ka1 := (hS.cell (p := ⟨w.heap.size, 1, none⟩) hX.lt).trans x1; have ka2 := (hS.cell (p := ⟨g, o + j, none⟩) hg1).trans d0; first | (refine Free.run_yes (by rfl) ?_; go_simp; refine Free.o hK hS ?_; exact rfl) | (refine Free.run_no (by rfl) (Free.o hK hS ?_); exact rfl)
    refine Free.cons ?_ ?_
    · intro w' hS; (rintro _ rfl); (rintro _ rfl); (rintro _ rfl); intro K hK; have ka0 := (hS.cell (p := ⟨w.heap.size, 0, none⟩) hX.lt).trans x0; have ka1 := (hS.cell (p := ⟨w.heap.size, 1, none⟩) hX.lt).trans x1; have ka2 := (hS.cell (p := ⟨g, o + j, none⟩) hg1).trans d0; first | (refine Free.run_yes (by rfl) ?_; go_simp; refine Free.o hK hS ?_; exact rfl) | (refine Free.run_no (by rfl) (Free.o hK hS ?_); exact rfl)
    refine Free.cons ?_ ?_
    · intro w' hS; (rintro _ rfl); (rintro _ rfl); intro K hK; have ka0 := (hS.cell (p := ⟨w.heap.size, 0, none⟩) hX.lt).trans x0; have ka1 := (hS.cell (p := ⟨w.heap.size, 1, none⟩) hX.lt).trans x1; have ka2 := (hS.cell (p := ⟨g, o + j, none⟩) hg1).trans d0; first | (refine Free.run_yes (by rfl) ?_; go_simp; refine Free.o hK hS ?_; exact rfl) | (refine Free.run_no (by rfl) (Free.o hK hS ?_); exact rfl)
    refine Free.cons ?_ ?_
    · intro w' hS; (rintro _ rfl); intro K hK; have ka0 := (hS.cell (p := ⟨w.heap.size, 0, none⟩) hX.lt).trans x0; have ka1 := (hS.cell (p := ⟨w.heap.size, 1, none⟩) hX.lt).trans x1; have ka2 := (hS.cell (p := ⟨g, o + j, none⟩) hg1).trans d0; first | (refine Free.run_yes (by rfl) ?_; go_simp; refine Free.o hK hS ?_; exact rfl) | (refine Free.run_no (by rfl) (Free.o hK hS ?_); exact rfl)
    refine Free.cons ?_ ?_
    · intro w' hS; (rintro _ rfl); intro K hK; have ka0 := (hS.cell (p := ⟨w.heap.size, 0, none⟩) hX.lt).trans x0; have ka1 := (hS.cell (p := ⟨w.heap.size, 1, none⟩) hX.lt).trans x1; have ka2 := (hS.cell (p := ⟨g, o + j, none⟩) hg1).trans d0; first | (refine Free.run_yes (by rfl) ?_; go_simp; refine Free.o hK hS ?_; exact rfl) | (refine Free.run_no (by rfl) (Free.o hK hS ?_); exact rfl)
    refine Free.cons ?_ ?_
    · intro w' hS; (rintro _ rfl); intro K hK; have ka0 := (hS.cell (p := ⟨w.heap.size, 0, none⟩) hX.lt).trans x0; have ka1 := (hS.cell (p := ⟨w.heap.size, 1, none⟩) hX.lt).trans x1; have ka2 := (hS.cell (p := ⟨g, o + j, none⟩) hg1).trans d0; first | (refine Free.run_yes (by rfl) ?_; go_simp; refine Free.o hK hS ?_; exact rfl) | (refine Free.run_no (by rfl) (Free.o hK hS ?_); exact rfl)
    refine Free.cons ?_ ?_
    · intro w' hS; (rintro _ rfl); (rintro _ rfl); intro K hK; have ka0 := (hS.cell (p := ⟨w.heap.size, 0, none⟩) hX.lt).trans x0; have ka1 := (hS.cell (p := ⟨w.heap.size, 1, none⟩) hX.lt).trans x1; have ka2 := (hS.cell (p := ⟨g, o + j, none⟩) hg1).trans d0; first | (refine Free.run_yes (by rfl) ?_; go_simp; refine Free.o hK hS ?_; exact rfl) | (refine Free.run_no (by rfl) (Free.o hK hS ?_); exact rfl)
    refine Free.cons ?_ ?_
    · intro w' hS; (rintro _ rfl); (rintro _ rfl); (rintro _ rfl); intro K hK; have ka0 := (hS.cell (p := ⟨w.heap.size, 0, none⟩) hX.lt).trans x0; have ka1 := (hS.cell (p := ⟨w.heap.size, 1, none⟩) hX.lt).trans x1; have ka2 := (hS.cell (p := ⟨g, o + j, none⟩) hg1).trans d0; first | (refine Free.run_yes (by rfl) ?_; go_simp; refine Free.o hK hS ?_; exact rfl) | (refine Free.run_no (by rfl) (Free.o hK hS ?_); exact rfl)
    refine Free.cons ?_ ?_
    · intro w' hS; (rintro _ rfl); (rintro _ rfl); intro K hK; have ka0 := (hS.cell (p := ⟨w.heap.size, 0, none⟩) hX.lt).trans x0; have ka1 := (hS.cell (p := ⟨w.heap.size, 1, none⟩) hX.lt).trans x1; have ka2 := (hS.cell (p := ⟨g, o + j, none⟩) hg1).trans d0; first | (refine Free.run_yes (by rfl) ?_; go_simp; refine Free.o hK hS ?_; exact rfl) | (refine Free.run_no (by rfl) (Free.o hK hS ?_); exact rfl)
    refine Free.cons ?_ ?_
    · intro w' hS; (rintro _ rfl); intro K hK; have ka0 := (hS.cell (p := ⟨w.heap.size, 0, none⟩) hX.lt).trans x0; have ka1 := (hS.cell (p := ⟨w.heap.size, 1, none⟩) hX.lt).trans x1; have ka2 := (hS.cell (p := ⟨g, o + j, none⟩) hg1).trans d0; first | (refine Free.run_yes (by rfl) ?_; go_simp; refine Free.o hK hS ?_; exact rfl) | (refine Free.run_no (by rfl) (Free.o hK hS ?_); exact rfl)
    refine Free.cons ?_ ?_
    · intro w' hS; (rintro _ rfl); (rintro _ rfl); intro K hK; have ka0 := (hS.cell (p := ⟨w.heap.size, 0, none⟩) hX.lt).trans x0; have ka1 := (hS.cell (p := ⟨w.heap.size, 1, none⟩) hX.lt).trans x1; have ka2 := (hS.cell (p := ⟨g, o + j, none⟩) hg1).trans d0; first | (refine Free.run_yes (by rfl) ?_; go_simp; refine Free.o hK hS ?_; exact rfl) | (refine Free.run_no (by rfl) (Free.o hK hS ?_); exact rfl)
    refine Free.cons ?_ ?_
    · intro w' hS; (rintro _ rfl); (rintro _ rfl); (rintro _ rfl); intro K hK; have ka0 := (hS.cell (p := ⟨w.heap.size, 0, none⟩) hX.lt).trans x0; have ka1 := (hS.cell (p := ⟨w.heap.size, 1, none⟩) hX.lt).trans x1; have ka2 := (hS.cell (p := ⟨g, o + j, none⟩) hg1).trans d0; refine Free.run_yes (by rfl) ?_; (go_simp; go_at_call 39; refine (HF.out _ (hRNh.out.below (bb.trans (hS.mono bb.size))) (h2.below (bb.trans (hS.mono bb.size)))).mono ?_; rintro e w' ⟨rfl, hb⟩; (try simp only [Free.valOf, Act.put, List.setIfInBounds_toArray, List.set_cons_zero, List.set_cons_succ, Array.getD_eq_getD_getElem?, List.getElem?_toArray, List.getElem?_cons_succ, List.getElem?_cons_zero, Option.getD_some]); refine hK.out _ _ ?_ (Below.next hS hb (Nat.le_refl _)) (.inr hb); exact rfl)
    refine Free.cons ?_ ?_
    · intro w' hS; (rintro _ rfl); (rintro _ rfl); intro K hK; have ka0 := (hS.cell (p := ⟨w.heap.size, 0, none⟩) hX.lt).trans x0; have ka1 := (hS.cell (p := ⟨w.heap.size, 1, none⟩) hX.lt).trans x1; have ka2 := (hS.cell (p := ⟨g, o + j, none⟩) hg1).trans d0; first | (refine Free.run_yes (by rfl) ?_; go_simp; refine Free.o hK hS ?_; exact rfl) | (refine Free.run_no (by rfl) (Free.o hK hS ?_); exact rfl)
    refine Free.cons ?_ ?_
    · intro w' hS; (rintro _ rfl); intro K hK; have ka0 := (hS.cell (p := ⟨w.heap.size, 0, none⟩) hX.lt).trans x0; have ka1 := (hS.cell (p := ⟨w.heap.size, 1, none⟩) hX.lt).trans x1; have ka2 := (hS.cell (p := ⟨g, o + j, none⟩) hg1).trans d0; first | (refine Free.run_yes (by rfl) ?_; go_simp; refine Free.o hK hS ?_; exact rfl) | (refine Free.run_no (by rfl) (Free.o hK hS ?_); exact rfl)
    exact Free.nil
    clear hvo
    intro w' hS; intro v0; intro v1; intro v2; intro v3; intro v4; intro v5; intro v6; intro v7; intro v8; intro v9; intro v10; intro v11; intro v12; intro v13; intro v14; intro v15; intro v16; intro v17; intro v18; intro v19; (rintro _ rfl); (try simp only [Act.put, List.setIfInBounds_toArray, List.set_cons_zero, List.set_cons_succ]); refine Free.toldE_nil ?_
    go_wp2
    go_ret
    exact ⟨(show Ending.returned (.bool y) = .returned (.bool (mayRow Z ⟨(j : Int), V⟩)) from by rewrite [he.out]; rfl), Below.next bb hS (Nat.le_refl _)⟩
set_option maxHeartbeats 4000000 in
theorem ref_mayrow (A : Option Addr) (n c : Nat) (Z : List (List Int)) (t : Int) (A2 : Option Addr) (n2 c2 : Nat) (V : List ValR) (w : World) (h : RG w A n c Z) (h2 : RV w A2 n2 c2 V) :
    Calls Try.prog 41 #[.slice A n c, .agg #[.int .i64 t, .slice A2 n2 c2]] w fun e w' => e = .returned (.bool (mayRow Z ⟨t, V⟩)) ∧ Below w.heap.size w w' := by
  have hnm : n ≤ maxLen := Nat.le_trans h.cap h.max
  unfold maxLen at hnm
  have hl := h.len
  have hX := Blk.new w #[.int .i64 t, .slice A2 n2 c2] 26
  have bb : Below w.heap.size w (w.alloc (.cells #[.int .i64 t, .slice A2 n2 c2] 26)) := (by repeat (first | exact Below.refl _ _ | assumption | apply below_drewN' | apply Below.drew | refine Below.alloc ?_ (by first | omega | (simp; done) | (simp; omega)) _ | refine Below.setCell ?_ (by first | omega | (simp; done) | (simp; omega)) _))
  rcases (show t < 0 ∨ (¬ t < 0 ∧ (n : Int) ≤ t) ∨ (∃ j : Nat, t = j ∧ j < n) by
    rcases Int.lt_or_le t 0 with a | a
    · exact .inl a
    · rcases Int.lt_or_le t n with b | b
      · exact .inr (.inr ⟨t.toNat, by omega, by omega⟩)
      · exact .inr (.inl ⟨by omega, b⟩)) with i1 | ⟨i1, i2⟩ | ⟨j, rfl, hj⟩
  · have he := Lib.hid (mayRow_neg (Z := Z) (V := V) i1)
    have f1 : decide (0 ≤ t) = false := decide_eq_false (by omega)
    have f2 : decide (t ≥ 0) = false := decide_eq_false (by omega)
    go_enter Try.func41, Try.ntmps41
    go_wp2_with fail
    obtain ⟨w1, hw1⟩ : ∃ w1, w.alloc (.cells #[.int .i64 t, .slice A2 n2 c2] 26) = w1 := ⟨_, rfl⟩
    rw [hw1] at bb hX ⊢
    have x0 := hX.cell 0 (v := .int .i64 t) rfl
    have x1 := hX.cell 1 (v := .slice A2 n2 c2) rfl
    have hvo := Free.val
    refine Free.wp_facts (M := [0, 1, 3, 7, 15, 31, 15, 79, 255, 511, 1023, 2047, 2047, 6143, 16383, 32767, 2047, 67583, 262143, 524287, 1048575]) (D := [[], [(0, 5)], [(1, 6)], [(2, 7)], [(3, 8)], [(4, 9), (3, 8)], [(3, 8)], [(6, 11), (3, 8)], [(5, 10), (7, 12), (3, 8)], [(3, 8), (8, 13)], [(9, 14)], [(10, 15)], [(10, 15)], [(12, 17), (10, 15)], [(11, 16), (13, 18), (10, 15)], [(14, 19), (10, 15)], [(10, 15)], [(16, 21), (10, 15)], [(15, 20), (17, 22), (10, 15)], [(10, 15), (18, 23)], [(19, 24)]]) (outs := [20]) (soles := []) (E := [(0, 5, false), (1, 6, false), (2, 7, false), (3, 8, false), (4, 9, false), (5, 10, false), (6, 11, false), (7, 12, false), (8, 13, false), (9, 14, false), (10, 15, false), (11, 16, false), (12, 17, false), (13, 18, false), (14, 19, false), (15, 20, false), (16, 21, false), (17, 22, false), (18, 23, false), (19, 24, false), (20, 4, true)]) (N := 25) (S := (fun w' => Below w1.heap.size w1 w')) [Free.Fact.is ?_, Free.Fact.is ?_, Free.Fact.is ?_, Free.Fact.is ?_, Free.Fact.is ?_, Free.Fact.is ?_, Free.Fact.is ?_, Free.Fact.is ?_, Free.Fact.is ?_, Free.Fact.is ?_, Free.Fact.is ?_, Free.Fact.is ?_, Free.Fact.is ?_, Free.Fact.is ?_, Free.Fact.is ?_, Free.Fact.is ?_, Free.Fact.is ?_, Free.Fact.is ?_, Free.Fact.is ?_, Free.Fact.is ?_, Free.Fact.is ?_] (by kernel_rfl) (by kernel_rfl) rfl ((Below.refl _ _).drew) ?_ ?_
    rotate_left 21
    refine Free.cons ?_ ?_
    · intro w' hS; intro K hK; have k0 := (hS.cell (p := ⟨w.heap.size, 0, none⟩) hX.lt).trans x0; have k1 := (hS.cell (p := ⟨w.heap.size, 1, none⟩) hX.lt).trans x1; first | (refine Free.run_yes (by rfl) ?_; go_simp; refine Free.o hK hS ?_; exact rfl) | (refine Free.run_no (by rfl) (Free.o hK hS ?_); exact rfl)
    refine Free.cons ?_ ?_
    · intro w' hS; (rintro _ rfl); intro K hK; have k0 := (hS.cell (p := ⟨w.heap.size, 0, none⟩) hX.lt).trans x0; have k1 := (hS.cell (p := ⟨w.heap.size, 1, none⟩) hX.lt).trans x1; first | (refine Free.run_yes (by rfl) ?_; go_simp; refine Free.o hK hS ?_; exact rfl) | (refine Free.run_no (by rfl) (Free.o hK hS ?_); exact rfl)
    refine Free.cons ?_ ?_
    · intro w' hS; (rintro _ rfl); intro K hK; have k0 := (hS.cell (p := ⟨w.heap.size, 0, none⟩) hX.lt).trans x0; have k1 := (hS.cell (p := ⟨w.heap.size, 1, none⟩) hX.lt).trans x1; first | (refine Free.run_yes (by rfl) ?_; go_simp; refine Free.o hK hS ?_; exact rfl) | (refine Free.run_no (by rfl) (Free.o hK hS ?_); exact rfl)
    refine Free.cons ?_ ?_
    · intro w' hS; (rintro _ rfl); intro K hK; have k0 := (hS.cell (p := ⟨w.heap.size, 0, none⟩) hX.lt).trans x0; have k1 := (hS.cell (p := ⟨w.heap.size, 1, none⟩) hX.lt).trans x1; first | (refine Free.run_yes (by rfl) ?_; go_simp; refine Free.o hK hS ?_; exact rfl) | (refine Free.run_no (by rfl) (Free.o hK hS ?_); exact rfl)
    refine Free.cons ?_ ?_
    · intro w' hS; (rintro _ rfl); intro K hK; have k0 := (hS.cell (p := ⟨w.heap.size, 0, none⟩) hX.lt).trans x0; have k1 := (hS.cell (p := ⟨w.heap.size, 1, none⟩) hX.lt).trans x1; first | (refine Free.run_yes (by rfl) ?_; go_simp; refine Free.o hK hS ?_; exact rfl) | (refine Free.run_no (by rfl) (Free.o hK hS ?_); exact rfl)
    refine Free.cons ?_ ?_
    · intro w' hS; (rintro _ rfl); (rintro _ rfl); intro K hK; have k0 := (hS.cell (p := ⟨w.heap.size, 0, none⟩) hX.lt).trans x0; have k1 := (hS.cell (p := ⟨w.heap.size, 1, none⟩) hX.lt).trans x1; first | (refine Free.run_yes (by rfl) ?_; go_simp; refine Free.o hK hS ?_; exact rfl) | (refine Free.run_no (by rfl) (Free.o hK hS ?_); exact rfl)
    refine Free.cons ?_ ?_
    · intro w' hS; (rintro _ rfl); intro K hK; have k0 := (hS.cell (p := ⟨w.heap.size, 0, none⟩) hX.lt).trans x0; have k1 := (hS.cell (p := ⟨w.heap.size, 1, none⟩) hX.lt).trans x1; first | (refine Free.run_yes (by rfl) ?_; go_simp; refine Free.o hK hS ?_; exact rfl) | (refine Free.run_no (by rfl) (Free.o hK hS ?_); exact rfl)
    refine Free.cons ?_ ?_
    · intro w' hS; (rintro _ rfl); (rintro _ rfl); intro K hK; have k0 := (hS.cell (p := ⟨w.heap.size, 0, none⟩) hX.lt).trans x0; have k1 := (hS.cell (p := ⟨w.heap.size, 1, none⟩) hX.lt).trans x1; first | (refine Free.run_yes (by rfl) ?_; go_simp; refine Free.o hK hS ?_; exact rfl) | (refine Free.run_no (by rfl) (Free.o hK hS ?_); exact rfl)
    refine Free.cons ?_ ?_
    · intro w' hS; (rintro _ rfl); (rintro _ rfl); (rintro _ rfl); intro K hK; have k0 := (hS.cell (p := ⟨w.heap.size, 0, none⟩) hX.lt).trans x0; have k1 := (hS.cell (p := ⟨w.heap.size, 1, none⟩) hX.lt).trans x1; first | (refine Free.run_yes (by rfl) ?_; go_simp; refine Free.o hK hS ?_; exact rfl) | (refine Free.run_no (by rfl) (Free.o hK hS ?_); exact rfl)
    refine Free.cons ?_ ?_
    · intro w' hS; (rintro _ rfl); (rintro _ rfl); intro K hK; have k0 := (hS.cell (p := ⟨w.heap.size, 0, none⟩) hX.lt).trans x0; have k1 := (hS.cell (p := ⟨w.heap.size, 1, none⟩) hX.lt).trans x1; first | (refine Free.run_yes (by rfl) ?_; go_simp; refine Free.o hK hS ?_; exact rfl) | (refine Free.run_no (by rfl) (Free.o hK hS ?_); exact rfl)
    refine Free.cons ?_ ?_
    · intro w' hS; (rintro _ rfl); intro K hK; have k0 := (hS.cell (p := ⟨w.heap.size, 0, none⟩) hX.lt).trans x0; have k1 := (hS.cell (p := ⟨w.heap.size, 1, none⟩) hX.lt).trans x1; first | (refine Free.run_yes (by rfl) ?_; go_simp; refine Free.o hK hS ?_; exact rfl) | (refine Free.run_no (by rfl) (Free.o hK hS ?_); exact rfl)
    refine Free.cons ?_ ?_
    · intro w' hS; (rintro _ rfl); intro K hK; have k0 := (hS.cell (p := ⟨w.heap.size, 0, none⟩) hX.lt).trans x0; have k1 := (hS.cell (p := ⟨w.heap.size, 1, none⟩) hX.lt).trans x1; first | (refine Free.run_yes (by rfl) ?_; go_simp; refine Free.o hK hS ?_; exact rfl) | (refine Free.run_no (by rfl) (Free.o hK hS ?_); exact rfl)
    refine Free.cons ?_ ?_
    · intro w' hS; (rintro _ rfl); intro K hK; have k0 := (hS.cell (p := ⟨w.heap.size, 0, none⟩) hX.lt).trans x0; have k1 := (hS.cell (p := ⟨w.heap.size, 1, none⟩) hX.lt).trans x1; first | (refine Free.run_yes (by rfl) ?_; go_simp; refine Free.o hK hS ?_; exact rfl) | (refine Free.run_no (by rfl) (Free.o hK hS ?_); exact rfl)
    refine Free.cons ?_ ?_
    · intro w' hS; (rintro _ rfl); (rintro _ rfl); intro K hK; have k0 := (hS.cell (p := ⟨w.heap.size, 0, none⟩) hX.lt).trans x0; have k1 := (hS.cell (p := ⟨w.heap.size, 1, none⟩) hX.lt).trans x1; first | (refine Free.run_yes (by rfl) ?_; go_simp; refine Free.o hK hS ?_; exact rfl) | (refine Free.run_no (by rfl) (Free.o hK hS ?_); exact rfl)
    refine Free.cons ?_ ?_
    · intro w' hS; (rintro _ rfl); (rintro _ rfl); (rintro _ rfl); intro K hK; have k0 := (hS.cell (p := ⟨w.heap.size, 0, none⟩) hX.lt).trans x0; have k1 := (hS.cell (p := ⟨w.heap.size, 1, none⟩) hX.lt).trans x1; first | (refine Free.run_yes (by rfl) ?_; go_simp; refine Free.o hK hS ?_; exact rfl) | (refine Free.run_no (by rfl) (Free.o hK hS ?_); exact rfl)
    refine Free.cons ?_ ?_
    · intro w' hS; (rintro _ rfl); (rintro _ rfl); intro K hK; have k0 := (hS.cell (p := ⟨w.heap.size, 0, none⟩) hX.lt).trans x0; have k1 := (hS.cell (p := ⟨w.heap.size, 1, none⟩) hX.lt).trans x1; first | (refine Free.run_yes (by rfl) ?_; go_simp; refine Free.o hK hS ?_; exact rfl) | (refine Free.run_no (by rfl) (Free.o hK hS ?_); exact rfl)
    refine Free.cons ?_ ?_
    · intro w' hS; (rintro _ rfl); intro K hK; have k0 := (hS.cell (p := ⟨w.heap.size, 0, none⟩) hX.lt).trans x0; have k1 := (hS.cell (p := ⟨w.heap.size, 1, none⟩) hX.lt).trans x1; first | (refine Free.run_yes (by rfl) ?_; go_simp; refine Free.o hK hS ?_; exact rfl) | (refine Free.run_no (by rfl) (Free.o hK hS ?_); exact rfl)
    refine Free.cons ?_ ?_
    · intro w' hS; (rintro _ rfl); (rintro _ rfl); intro K hK; have k0 := (hS.cell (p := ⟨w.heap.size, 0, none⟩) hX.lt).trans x0; have k1 := (hS.cell (p := ⟨w.heap.size, 1, none⟩) hX.lt).trans x1; first | (refine Free.run_yes (by rfl) ?_; go_simp; refine Free.o hK hS ?_; exact rfl) | (refine Free.run_no (by rfl) (Free.o hK hS ?_); exact rfl)
    refine Free.cons ?_ ?_
    · intro w' hS; (rintro _ rfl); (rintro _ rfl); (rintro _ rfl); intro K hK; have k0 := (hS.cell (p := ⟨w.heap.size, 0, none⟩) hX.lt).trans x0; have k1 := (hS.cell (p := ⟨w.heap.size, 1, none⟩) hX.lt).trans x1; first | (refine Free.run_yes (by rfl) ?_; go_simp; (fail); go_simp; refine Free.c hK (keep hS hb) hb ?_; exact rfl) | (refine Free.run_no (by rfl) (Free.o hK hS ?_); exact rfl)
    refine Free.cons ?_ ?_
    · intro w' hS; (rintro _ rfl); (rintro _ rfl); intro K hK; have k0 := (hS.cell (p := ⟨w.heap.size, 0, none⟩) hX.lt).trans x0; have k1 := (hS.cell (p := ⟨w.heap.size, 1, none⟩) hX.lt).trans x1; first | (refine Free.run_yes (by rfl) ?_; go_simp; refine Free.o hK hS ?_; exact rfl) | (refine Free.run_no (by rfl) (Free.o hK hS ?_); exact rfl)
    refine Free.cons ?_ ?_
    · intro w' hS; (rintro _ rfl); intro K hK; have k0 := (hS.cell (p := ⟨w.heap.size, 0, none⟩) hX.lt).trans x0; have k1 := (hS.cell (p := ⟨w.heap.size, 1, none⟩) hX.lt).trans x1; first | (refine Free.run_yes (by rfl) ?_; go_simp; refine Free.o hK hS ?_; exact rfl) | (refine Free.run_no (by rfl) (Free.o hK hS ?_); exact rfl)
    exact Free.nil
    clear hvo
    intro w' hS; intro v0; intro v1; intro v2; intro v3; intro v4; intro v5; intro v6; intro v7; intro v8; intro v9; intro v10; intro v11; intro v12; intro v13; intro v14; intro v15; intro v16; intro v17; intro v18; intro v19; (rintro _ rfl); (try simp only [Act.put, List.setIfInBounds_toArray, List.set_cons_zero, List.set_cons_succ]); refine Free.toldE_nil ?_
    go_wp2
    go_ret
    exact ⟨(show Ending.returned (.bool false) = .returned (.bool (mayRow Z ⟨t, V⟩)) from by rewrite [he.out]; rfl), Below.next bb hS (Nat.le_refl _)⟩
  · have he := Lib.hid (mayRow_far (Z := Z) (V := V) (t := t) (by omega))
    have f1 : decide (0 ≤ t) = true := decide_eq_true (by omega)
    have f2 : decide (t ≥ 0) = true := decide_eq_true (by omega)
    have f3 : decide (t < (n : Int)) = false := decide_eq_false (by omega)
    go_enter Try.func41, Try.ntmps41
    go_wp2_with fail
    obtain ⟨w1, hw1⟩ : ∃ w1, w.alloc (.cells #[.int .i64 t, .slice A2 n2 c2] 26) = w1 := ⟨_, rfl⟩
    rw [hw1] at bb hX ⊢
    have x0 := hX.cell 0 (v := .int .i64 t) rfl
    have x1 := hX.cell 1 (v := .slice A2 n2 c2) rfl
    have hvo := Free.val
    refine Free.wp_facts (M := [0, 1, 3, 7, 15, 31, 15, 79, 255, 511, 1023, 2047, 2047, 6143, 16383, 32767, 2047, 67583, 262143, 524287, 1048575]) (D := [[], [(0, 5)], [(1, 6)], [(2, 7)], [(3, 8)], [(4, 9), (3, 8)], [(3, 8)], [(6, 11), (3, 8)], [(5, 10), (7, 12), (3, 8)], [(3, 8), (8, 13)], [(9, 14)], [(10, 15)], [(10, 15)], [(12, 17), (10, 15)], [(11, 16), (13, 18), (10, 15)], [(14, 19), (10, 15)], [(10, 15)], [(16, 21), (10, 15)], [(15, 20), (17, 22), (10, 15)], [(10, 15), (18, 23)], [(19, 24)]]) (outs := [20]) (soles := []) (E := [(0, 5, false), (1, 6, false), (2, 7, false), (3, 8, false), (4, 9, false), (5, 10, false), (6, 11, false), (7, 12, false), (8, 13, false), (9, 14, false), (10, 15, false), (11, 16, false), (12, 17, false), (13, 18, false), (14, 19, false), (15, 20, false), (16, 21, false), (17, 22, false), (18, 23, false), (19, 24, false), (20, 4, true)]) (N := 25) (S := (fun w' => Below w1.heap.size w1 w')) [Free.Fact.is ?_, Free.Fact.is ?_, Free.Fact.is ?_, Free.Fact.is ?_, Free.Fact.is ?_, Free.Fact.is ?_, Free.Fact.is ?_, Free.Fact.is ?_, Free.Fact.is ?_, Free.Fact.is ?_, Free.Fact.is ?_, Free.Fact.is ?_, Free.Fact.is ?_, Free.Fact.is ?_, Free.Fact.is ?_, Free.Fact.is ?_, Free.Fact.is ?_, Free.Fact.is ?_, Free.Fact.is ?_, Free.Fact.is ?_, Free.Fact.is ?_] (by kernel_rfl) (by kernel_rfl) rfl ((Below.refl _ _).drew) ?_ ?_
    rotate_left 21
    refine Free.cons ?_ ?_
    · intro w' hS; intro K hK; have k0 := (hS.cell (p := ⟨w.heap.size, 0, none⟩) hX.lt).trans x0; have k1 := (hS.cell (p := ⟨w.heap.size, 1, none⟩) hX.lt).trans x1; first | (refine Free.run_yes (by rfl) ?_; go_simp; refine Free.o hK hS ?_; exact rfl) | (refine Free.run_no (by rfl) (Free.o hK hS ?_); exact rfl)
    refine Free.cons ?_ ?_
    · intro w' hS; (rintro _ rfl); intro K hK; have k0 := (hS.cell (p := ⟨w.heap.size, 0, none⟩) hX.lt).trans x0; have k1 := (hS.cell (p := ⟨w.heap.size, 1, none⟩) hX.lt).trans x1; first | (refine Free.run_yes (by rfl) ?_; go_simp; refine Free.o hK hS ?_; exact rfl) | (refine Free.run_no (by rfl) (Free.o hK hS ?_); exact rfl)
    refine Free.cons ?_ ?_
    · intro w' hS; (rintro _ rfl); intro K hK; have k0 := (hS.cell (p := ⟨w.heap.size, 0, none⟩) hX.lt).trans x0; have k1 := (hS.cell (p := ⟨w.heap.size, 1, none⟩) hX.lt).trans x1; first | (refine Free.run_yes (by rfl) ?_; go_simp; refine Free.o hK hS ?_; exact rfl) | (refine Free.run_no (by rfl) (Free.o hK hS ?_); exact rfl)
    refine Free.cons ?_ ?_
    · intro w' hS; (rintro _ rfl); intro K hK; have k0 := (hS.cell (p := ⟨w.heap.size, 0, none⟩) hX.lt).trans x0; have k1 := (hS.cell (p := ⟨w.heap.size, 1, none⟩) hX.lt).trans x1; first | (refine Free.run_yes (by rfl) ?_; go_simp; refine Free.o hK hS ?_; exact rfl) | (refine Free.run_no (by rfl) (Free.o hK hS ?_); exact rfl)
    refine Free.cons ?_ ?_
    · intro w' hS; (rintro _ rfl); intro K hK; have k0 := (hS.cell (p := ⟨w.heap.size, 0, none⟩) hX.lt).trans x0; have k1 := (hS.cell (p := ⟨w.heap.size, 1, none⟩) hX.lt).trans x1; first | (refine Free.run_yes (by rfl) ?_; go_simp; refine Free.o hK hS ?_; exact rfl) | (refine Free.run_no (by rfl) (Free.o hK hS ?_); exact rfl)
    refine Free.cons ?_ ?_
    · intro w' hS; (rintro _ rfl); (rintro _ rfl); intro K hK; have k0 := (hS.cell (p := ⟨w.heap.size, 0, none⟩) hX.lt).trans x0; have k1 := (hS.cell (p := ⟨w.heap.size, 1, none⟩) hX.lt).trans x1; first | (refine Free.run_yes (by rfl) ?_; go_simp; refine Free.o hK hS ?_; exact rfl) | (refine Free.run_no (by rfl) (Free.o hK hS ?_); exact rfl)
    refine Free.cons ?_ ?_
    · intro w' hS; (rintro _ rfl); intro K hK; have k0 := (hS.cell (p := ⟨w.heap.size, 0, none⟩) hX.lt).trans x0; have k1 := (hS.cell (p := ⟨w.heap.size, 1, none⟩) hX.lt).trans x1; first | (refine Free.run_yes (by rfl) ?_; go_simp; refine Free.o hK hS ?_; exact rfl) | (refine Free.run_no (by rfl) (Free.o hK hS ?_); exact rfl)
    refine Free.cons ?_ ?_
    · intro w' hS; (rintro _ rfl); (rintro _ rfl); intro K hK; have k0 := (hS.cell (p := ⟨w.heap.size, 0, none⟩) hX.lt).trans x0; have k1 := (hS.cell (p := ⟨w.heap.size, 1, none⟩) hX.lt).trans x1; first | (refine Free.run_yes (by rfl) ?_; go_simp; refine Free.o hK hS ?_; exact rfl) | (refine Free.run_no (by rfl) (Free.o hK hS ?_); exact rfl)
    refine Free.cons ?_ ?_
    · intro w' hS; (rintro _ rfl); (rintro _ rfl); (rintro _ rfl); intro K hK; have k0 := (hS.cell (p := ⟨w.heap.size, 0, none⟩) hX.lt).trans x0; have k1 := (hS.cell (p := ⟨w.heap.size, 1, none⟩) hX.lt).trans x1; first | (refine Free.run_yes (by rfl) ?_; go_simp; refine Free.o hK hS ?_; exact rfl) | (refine Free.run_no (by rfl) (Free.o hK hS ?_); exact rfl)
    refine Free.cons ?_ ?_
    · intro w' hS; (rintro _ rfl); (rintro _ rfl); intro K hK; have k0 := (hS.cell (p := ⟨w.heap.size, 0, none⟩) hX.lt).trans x0; have k1 := (hS.cell (p := ⟨w.heap.size, 1, none⟩) hX.lt).trans x1; first | (refine Free.run_yes (by rfl) ?_; go_simp; refine Free.o hK hS ?_; exact rfl) | (refine Free.run_no (by rfl) (Free.o hK hS ?_); exact rfl)
    refine Free.cons ?_ ?_
    · intro w' hS; (rintro _ rfl); intro K hK; have k0 := (hS.cell (p := ⟨w.heap.size, 0, none⟩) hX.lt).trans x0; have k1 := (hS.cell (p := ⟨w.heap.size, 1, none⟩) hX.lt).trans x1; first | (refine Free.run_yes (by rfl) ?_; go_simp; refine Free.o hK hS ?_; exact rfl) | (refine Free.run_no (by rfl) (Free.o hK hS ?_); exact rfl)
    refine Free.cons ?_ ?_
    · intro w' hS; (rintro _ rfl); intro K hK; have k0 := (hS.cell (p := ⟨w.heap.size, 0, none⟩) hX.lt).trans x0; have k1 := (hS.cell (p := ⟨w.heap.size, 1, none⟩) hX.lt).trans x1; first | (refine Free.run_yes (by rfl) ?_; go_simp; refine Free.o hK hS ?_; exact rfl) | (refine Free.run_no (by rfl) (Free.o hK hS ?_); exact rfl)
    refine Free.cons ?_ ?_
    · intro w' hS; (rintro _ rfl); intro K hK; have k0 := (hS.cell (p := ⟨w.heap.size, 0, none⟩) hX.lt).trans x0; have k1 := (hS.cell (p := ⟨w.heap.size, 1, none⟩) hX.lt).trans x1; first | (refine Free.run_yes (by rfl) ?_; go_simp; refine Free.o hK hS ?_; exact rfl) | (refine Free.run_no (by rfl) (Free.o hK hS ?_); exact rfl)
    refine Free.cons ?_ ?_
    · intro w' hS; (rintro _ rfl); (rintro _ rfl); intro K hK; have k0 := (hS.cell (p := ⟨w.heap.size, 0, none⟩) hX.lt).trans x0; have k1 := (hS.cell (p := ⟨w.heap.size, 1, none⟩) hX.lt).trans x1; first | (refine Free.run_yes (by rfl) ?_; go_simp; refine Free.o hK hS ?_; exact rfl) | (refine Free.run_no (by rfl) (Free.o hK hS ?_); exact rfl)
    refine Free.cons ?_ ?_
    · intro w' hS; (rintro _ rfl); (rintro _ rfl); (rintro _ rfl); intro K hK; have k0 := (hS.cell (p := ⟨w.heap.size, 0, none⟩) hX.lt).trans x0; have k1 := (hS.cell (p := ⟨w.heap.size, 1, none⟩) hX.lt).trans x1; first | (refine Free.run_yes (by rfl) ?_; go_simp; refine Free.o hK hS ?_; exact rfl) | (refine Free.run_no (by rfl) (Free.o hK hS ?_); exact rfl)
    refine Free.cons ?_ ?_
    · intro w' hS; (rintro _ rfl); (rintro _ rfl); intro K hK; have k0 := (hS.cell (p := ⟨w.heap.size, 0, none⟩) hX.lt).trans x0; have k1 := (hS.cell (p := ⟨w.heap.size, 1, none⟩) hX.lt).trans x1; first | (refine Free.run_yes (by rfl) ?_; go_simp; refine Free.o hK hS ?_; exact rfl) | (refine Free.run_no (by rfl) (Free.o hK hS ?_); exact rfl)
    refine Free.cons ?_ ?_
    · intro w' hS; (rintro _ rfl); intro K hK; have k0 := (hS.cell (p := ⟨w.heap.size, 0, none⟩) hX.lt).trans x0; have k1 := (hS.cell (p := ⟨w.heap.size, 1, none⟩) hX.lt).trans x1; first | (refine Free.run_yes (by rfl) ?_; go_simp; refine Free.o hK hS ?_; exact rfl) | (refine Free.run_no (by rfl) (Free.o hK hS ?_); exact rfl)
    refine Free.cons ?_ ?_
    · intro w' hS; (rintro _ rfl); (rintro _ rfl); intro K hK; have k0 := (hS.cell (p := ⟨w.heap.size, 0, none⟩) hX.lt).trans x0; have k1 := (hS.cell (p := ⟨w.heap.size, 1, none⟩) hX.lt).trans x1; first | (refine Free.run_yes (by rfl) ?_; go_simp; refine Free.o hK hS ?_; exact rfl) | (refine Free.run_no (by rfl) (Free.o hK hS ?_); exact rfl)
    refine Free.cons ?_ ?_
    · intro w' hS; (rintro _ rfl); (rintro _ rfl); (rintro _ rfl); intro K hK; have k0 := (hS.cell (p := ⟨w.heap.size, 0, none⟩) hX.lt).trans x0; have k1 := (hS.cell (p := ⟨w.heap.size, 1, none⟩) hX.lt).trans x1; first | (refine Free.run_yes (by rfl) ?_; go_simp; (fail); go_simp; refine Free.c hK (keep hS hb) hb ?_; exact rfl) | (refine Free.run_no (by rfl) (Free.o hK hS ?_); exact rfl)
    refine Free.cons ?_ ?_
    · intro w' hS; (rintro _ rfl); (rintro _ rfl); intro K hK; have k0 := (hS.cell (p := ⟨w.heap.size, 0, none⟩) hX.lt).trans x0; have k1 := (hS.cell (p := ⟨w.heap.size, 1, none⟩) hX.lt).trans x1; first | (refine Free.run_yes (by rfl) ?_; go_simp; refine Free.o hK hS ?_; exact rfl) | (refine Free.run_no (by rfl) (Free.o hK hS ?_); exact rfl)
    refine Free.cons ?_ ?_
    · intro w' hS; (rintro _ rfl); intro K hK; have k0 := (hS.cell (p := ⟨w.heap.size, 0, none⟩) hX.lt).trans x0; have k1 := (hS.cell (p := ⟨w.heap.size, 1, none⟩) hX.lt).trans x1; first | (refine Free.run_yes (by rfl) ?_; go_simp; refine Free.o hK hS ?_; exact rfl) | (refine Free.run_no (by rfl) (Free.o hK hS ?_); exact rfl)
    exact Free.nil
    clear hvo
    intro w' hS; intro v0; intro v1; intro v2; intro v3; intro v4; intro v5; intro v6; intro v7; intro v8; intro v9; intro v10; intro v11; intro v12; intro v13; intro v14; intro v15; intro v16; intro v17; intro v18; intro v19; (rintro _ rfl); (try simp only [Act.put, List.setIfInBounds_toArray, List.set_cons_zero, List.set_cons_succ]); refine Free.toldE_nil ?_
    go_wp2
    go_ret
    exact ⟨(show Ending.returned (.bool false) = .returned (.bool (mayRow Z ⟨t, V⟩)) from by rewrite [he.out]; rfl), Below.next bb hS (Nat.le_refl _)⟩
  · obtain ⟨z, hz⟩ : ∃ z, Z[j]? = some z := ⟨_, List.getElem?_eq_getElem (by omega)⟩
    have he := Lib.hid (mayRow_in (V := V) hz)
    obtain ⟨g, o, rfl, hc⟩ := h.at_ (by omega)
    obtain ⟨B, kk, hc0, hRN⟩ := hc j z hz
    have HF := Lib.hid (fun w h h2 => ref_fits B z.length kk z A2 n2 c2 V w h h2)
    have hRNh := Lib.hid hRN
    obtain ⟨y, hy⟩ : ∃ y, fitsL z V = y := ⟨_, rfl⟩
    rw [hy] at HF he
    have f1 : decide (0 ≤ (j : Int)) = true := decide_eq_true (by omega)
    have f2 : decide ((j : Int) ≥ 0) = true := decide_eq_true (by omega)
    have f3 : decide ((j : Int) < (n : Int)) = true := decide_eq_true (by omega)
    have hg := World.block_lt_of_cell? w _ hc0
    have d0 := (bb.cell (p := ⟨g, o + j, none⟩) hg).trans hc0
    obtain ⟨zl, hzl⟩ : ∃ m, z.length = m := ⟨_, rfl⟩
    rw [hzl] at d0 HF hRN hRNh
    clear hc hz hl hc0 hRN hy hzl
    go_enter Try.func41, Try.ntmps41
    go_wp2_with fail
    obtain ⟨w1, hw1⟩ : ∃ w1, w.alloc (.cells #[.int .i64 (j : Int), .slice A2 n2 c2] 26) = w1 := ⟨_, rfl⟩
    rw [hw1] at bb hX d0 ⊢
    have x0 := hX.cell 0 (v := .int .i64 (j : Int)) rfl
    have x1 := hX.cell 1 (v := .slice A2 n2 c2) rfl
    have hg1 := World.block_lt_of_cell? w1 _ d0
    clear hw1
    have hvo := Free.val
    refine Free.wp_facts (M := [0, 1, 3, 7, 15, 31, 15, 79, 255, 511, 1023, 2047, 2047, 6143, 16383, 32767, 2047, 67583, 262143, 524287, 1048575]) (D := [[], [(0, 5)], [(1, 6)], [(2, 7)], [(3, 8)], [(4, 9), (3, 8)], [(3, 8)], [(6, 11), (3, 8)], [(5, 10), (7, 12), (3, 8)], [(3, 8), (8, 13)], [(9, 14)], [(10, 15)], [(10, 15)], [(12, 17), (10, 15)], [(11, 16), (13, 18), (10, 15)], [(14, 19), (10, 15)], [(10, 15)], [(16, 21), (10, 15)], [(15, 20), (17, 22), (10, 15)], [(10, 15), (18, 23)], [(19, 24)]]) (outs := [20]) (soles := []) (E := [(0, 5, false), (1, 6, false), (2, 7, false), (3, 8, false), (4, 9, false), (5, 10, false), (6, 11, false), (7, 12, false), (8, 13, false), (9, 14, false), (10, 15, false), (11, 16, false), (12, 17, false), (13, 18, false), (14, 19, false), (15, 20, false), (16, 21, false), (17, 22, false), (18, 23, false), (19, 24, false), (20, 4, true)]) (N := 25) (S := (fun w' => Below w1.heap.size w1 w')) [Free.Fact.is ?_, Free.Fact.is ?_, Free.Fact.is ?_, Free.Fact.is ?_, Free.Fact.is ?_, Free.Fact.is ?_, Free.Fact.is ?_, Free.Fact.is ?_, Free.Fact.is ?_, Free.Fact.is ?_, Free.Fact.is ?_, Free.Fact.is ?_, Free.Fact.is ?_, Free.Fact.is ?_, Free.Fact.is ?_, Free.Fact.is ?_, Free.Fact.is ?_, Free.Fact.is ?_, Free.Fact.is ?_, Free.Fact.is ?_, Free.Fact.is ?_] (by kernel_rfl) (by kernel_rfl) rfl ((Below.refl _ _).drew) ?_ ?_
    rotate_left 21
    refine Free.cons ?_ ?_
    · intro w' hS; intro K hK; have ka0 := (hS.cell (p := ⟨w.heap.size, 0, none⟩) hX.lt).trans x0; have ka1 := (hS.cell (p := ⟨w.heap.size, 1, none⟩) hX.lt).trans x1; have ka2 := (hS.cell (p := ⟨g, o + j, none⟩) hg1).trans d0; first | (refine Free.run_yes (by rfl) ?_; go_simp; refine Free.o hK hS ?_; exact rfl) | (refine Free.run_no (by rfl) (Free.o hK hS ?_); exact rfl)
    refine Free.cons ?_ ?_
    · intro w' hS; (rintro _ rfl); intro K hK; have ka0 := (hS.cell (p := ⟨w.heap.size, 0, none⟩) hX.lt).trans x0; have ka1 := (hS.cell (p := ⟨w.heap.size, 1, none⟩) hX.lt).trans x1; have ka2 := (hS.cell (p := ⟨g, o + j, none⟩) hg1).trans d0; first | (refine Free.run_yes (by rfl) ?_; go_simp; refine Free.o hK hS ?_; exact rfl) | (refine Free.run_no (by rfl) (Free.o hK hS ?_); exact rfl)
    refine Free.cons ?_ ?_
    · intro w' hS; (rintro _ rfl); intro K hK; have ka0 := (hS.cell (p := ⟨w.heap.size, 0, none⟩) hX.lt).trans x0; have ka1 := (hS.cell (p := ⟨w.heap.size, 1, none⟩) hX.lt).trans x1; have ka2 := (hS.cell (p := ⟨g, o + j, none⟩) hg1).trans d0; first | (refine Free.run_yes (by rfl) ?_; go_simp; refine Free.o hK hS ?_; exact rfl) | (refine Free.run_no (by rfl) (Free.o hK hS ?_); exact rfl)
    refine Free.cons ?_ ?_
    · intro w' hS; (rintro _ rfl); intro K hK; have ka0 := (hS.cell (p := ⟨w.heap.size, 0, none⟩) hX.lt).trans x0; have ka1 := (hS.cell (p := ⟨w.heap.size, 1, none⟩) hX.lt).trans x1; have ka2 := (hS.cell (p := ⟨g, o + j, none⟩) hg1).trans d0; first | (refine Free.run_yes (by rfl) ?_; go_simp; refine Free.o hK hS ?_; exact rfl) | (refine Free.run_no (by rfl) (Free.o hK hS ?_); exact rfl)
    refine Free.cons ?_ ?_
    · intro w' hS; (rintro _ rfl); intro K hK; have ka0 := (hS.cell (p := ⟨w.heap.size, 0, none⟩) hX.lt).trans x0; have ka1 := (hS.cell (p := ⟨w.heap.size, 1, none⟩) hX.lt).trans x1; have ka2 := (hS.cell (p := ⟨g, o + j, none⟩) hg1).trans d0; first | (refine Free.run_yes (by rfl) ?_; go_simp; refine Free.o hK hS ?_; exact rfl) | (refine Free.run_no (by rfl) (Free.o hK hS ?_); exact rfl)
    refine Free.cons ?_ ?_
    · intro w' hS; (rintro _ rfl); (rintro _ rfl); intro K hK; have ka0 := (hS.cell (p := ⟨w.heap.size, 0, none⟩) hX.lt).trans x0; have ka1 := (hS.cell (p := ⟨w.heap.size, 1, none⟩) hX.lt).trans x1; have ka2 := (hS.cell (p := ⟨g, o + j, none⟩) hg1).trans d0; first | (refine Free.run_yes (by rfl) ?_; go_simp; refine Free.o hK hS ?_; exact rfl) | (refine Free.run_no (by rfl) (Free.o hK hS ?_); exact rfl)
    refine Free.cons ?_ ?_
    · intro w' hS; (rintro _ rfl); intro K hK; have ka0 := (hS.cell (p := ⟨w.heap.size, 0, none⟩) hX.lt).trans x0; have ka1 := (hS.cell (p := ⟨w.heap.size, 1, none⟩) hX.lt).trans x1; have ka2 := (hS.cell (p := ⟨g, o + j, none⟩) hg1).trans d0; first | (refine Free.run_yes (by rfl) ?_; go_simp; refine Free.o hK hS ?_; exact rfl) | (refine Free.run_no (by rfl) (Free.o hK hS ?_); exact rfl)
    refine Free.cons ?_ ?_
    · intro w' hS; (rintro _ rfl); (rintro _ rfl); intro K hK; have ka0 := (hS.cell (p := ⟨w.heap.size, 0, none⟩) hX.lt).trans x0; have ka1 := (hS.cell (p := ⟨w.heap.size, 1, none⟩) hX.lt).trans x1; have ka2 := (hS.cell (p := ⟨g, o + j, none⟩) hg1).trans d0; first | (refine Free.run_yes (by rfl) ?_; go_simp; refine Free.o hK hS ?_; exact rfl) | (refine Free.run_no (by rfl) (Free.o hK hS ?_); exact rfl)
    refine Free.cons ?_ ?_
    · intro w' hS; (rintro _ rfl); (rintro _ rfl); (rintro _ rfl); intro K hK; have ka0 := (hS.cell (p := ⟨w.heap.size, 0, none⟩) hX.lt).trans x0; have ka1 := (hS.cell (p := ⟨w.heap.size, 1, none⟩) hX.lt).trans x1; have ka2 := (hS.cell (p := ⟨g, o + j, none⟩) hg1).trans d0; first | (refine Free.run_yes (by rfl) ?_; go_simp; refine Free.o hK hS ?_; exact rfl) | (refine Free.run_no (by rfl) (Free.o hK hS ?_); exact rfl)
    refine Free.cons ?_ ?_
    · intro w' hS; (rintro _ rfl); (rintro _ rfl); intro K hK; have ka0 := (hS.cell (p := ⟨w.heap.size, 0, none⟩) hX.lt).trans x0; have ka1 := (hS.cell (p := ⟨w.heap.size, 1, none⟩) hX.lt).trans x1; have ka2 := (hS.cell (p := ⟨g, o + j, none⟩) hg1).trans d0; first | (refine Free.run_yes (by rfl) ?_; go_simp; refine Free.o hK hS ?_; exact rfl) | (refine Free.run_no (by rfl) (Free.o hK hS ?_); exact rfl)
    refine Free.cons ?_ ?_
    · intro w' hS; (rintro _ rfl); intro K hK; have ka0 := (hS.cell (p := ⟨w.heap.size, 0, none⟩) hX.lt).trans x0; have ka1 := (hS.cell (p := ⟨w.heap.size, 1, none⟩) hX.lt).trans x1; have ka2 := (hS.cell (p := ⟨g, o + j, none⟩) hg1).trans d0; first | (refine Free.run_yes (by rfl) ?_; go_simp; refine Free.o hK hS ?_; exact rfl) | (refine Free.run_no (by rfl) (Free.o hK hS ?_); exact rfl)
    refine Free.cons ?_ ?_
    · intro w' hS; (rintro _ rfl); intro K hK; have ka0 := (hS.cell (p := ⟨w.heap.size, 0, none⟩) hX.lt).trans x0; have ka1 := (hS.cell (p := ⟨w.heap.size, 1, none⟩) hX.lt).trans x1; have ka2 := (hS.cell (p := ⟨g, o + j, none⟩) hg1).trans d0; first | (refine Free.run_yes (by rfl) ?_; go_simp; refine Free.o hK hS ?_; exact rfl) | (refine Free.run_no (by rfl) (Free.o hK hS ?_); exact rfl)
    refine Free.cons ?_ ?_
    · intro w' hS; (rintro _ rfl); intro K hK; have ka0 := (hS.cell (p := ⟨w.heap.size, 0, none⟩) hX.lt).trans x0; have ka1 := (hS.cell (p := ⟨w.heap.size, 1, none⟩) hX.lt).trans x1; have ka2 := (hS.cell (p := ⟨g, o + j, none⟩) hg1).trans d0; first | (refine Free.run_yes (by rfl) ?_; go_simp; refine Free.o hK hS ?_; exact rfl) | (refine Free.run_no (by rfl) (Free.o hK hS ?_); exact rfl)
    refine Free.cons ?_ ?_
    · intro w' hS; (rintro _ rfl); (rintro _ rfl); intro K hK; have ka0 := (hS.cell (p := ⟨w.heap.size, 0, none⟩) hX.lt).trans x0; have ka1 := (hS.cell (p := ⟨w.heap.size, 1, none⟩) hX.lt).trans x1; have ka2 := (hS.cell (p := ⟨g, o + j, none⟩) hg1).trans d0; first | (refine Free.run_yes (by rfl) ?_; go_simp; refine Free.o hK hS ?_; exact rfl) | (refine Free.run_no (by rfl) (Free.o hK hS ?_); exact rfl)
    refine Free.cons ?_ ?_
    · intro w' hS; (rintro _ rfl); (rintro _ rfl); (rintro _ rfl); intro K hK; have ka0 := (hS.cell (p := ⟨w.heap.size, 0, none⟩) hX.lt).trans x0; have ka1 := (hS.cell (p := ⟨w.heap.size, 1, none⟩) hX.lt).trans x1; have ka2 := (hS.cell (p := ⟨g, o + j, none⟩) hg1).trans d0; first | (refine Free.run_yes (by rfl) ?_; go_simp; refine Free.o hK hS ?_; exact rfl) | (refine Free.run_no (by rfl) (Free.o hK hS ?_); exact rfl)
    refine Free.cons ?_ ?_
    · intro w' hS; (rintro _ rfl); (rintro _ rfl); intro K hK; have ka0 := (hS.cell (p := ⟨w.heap.size, 0, none⟩) hX.lt).trans x0; have ka1 := (hS.cell (p := ⟨w.heap.size, 1, none⟩) hX.lt).trans x1; have ka2 := (hS.cell (p := ⟨g, o + j, none⟩) hg1).trans d0; first | (refine Free.run_yes (by rfl) ?_; go_simp; refine Free.o hK hS ?_; exact rfl) | (refine Free.run_no (by rfl) (Free.o hK hS ?_); exact rfl)
    refine Free.cons ?_ ?_
    · intro w' hS; (rintro _ rfl); intro K hK; have ka0 := (hS.cell (p := ⟨w.heap.size, 0, none⟩) hX.lt).trans x0; have ka1 := (hS.cell (p := ⟨w.heap.size, 1, none⟩) hX.lt).trans x1; have ka2 := (hS.cell (p := ⟨g, o + j, none⟩) hg1).trans d0; first | (refine Free.run_yes (by rfl) ?_; go_simp; refine Free.o hK hS ?_; exact rfl) | (refine Free.run_no (by rfl) (Free.o hK hS ?_); exact rfl)
    refine Free.cons ?_ ?_
    · intro w' hS; (rintro _ rfl); (rintro _ rfl); intro K hK; have ka0 := (hS.cell (p := ⟨w.heap.size, 0, none⟩) hX.lt).trans x0; have ka1 := (hS.cell (p := ⟨w.heap.size, 1, none⟩) hX.lt).trans x1; have ka2 := (hS.cell (p := ⟨g, o + j, none⟩) hg1).trans d0; first | (refine Free.run_yes (by rfl) ?_; go_simp; refine Free.o hK hS ?_; exact rfl) | (refine Free.run_no (by rfl) (Free.o hK hS ?_); exact rfl)
    refine Free.cons ?_ ?_
    · intro w' hS; (rintro _ rfl); (rintro _ rfl); (rintro _ rfl); intro K hK; have ka0 := (hS.cell (p := ⟨w.heap.size, 0, none⟩) hX.lt).trans x0; have ka1 := (hS.cell (p := ⟨w.heap.size, 1, none⟩) hX.lt).trans x1; have ka2 := (hS.cell (p := ⟨g, o + j, none⟩) hg1).trans d0; refine Free.run_yes (by rfl) ?_; (go_simp; go_at_call 40; refine (HF.out _ (hRNh.out.below (bb.trans (hS.mono bb.size))) (h2.below (bb.trans (hS.mono bb.size)))).mono ?_; rintro e w' ⟨rfl, hb⟩; (try simp only [Free.valOf, Act.put, List.setIfInBounds_toArray, List.set_cons_zero, List.set_cons_succ, Array.getD_eq_getD_getElem?, List.getElem?_toArray, List.getElem?_cons_succ, List.getElem?_cons_zero, Option.getD_some]); refine hK.out _ _ ?_ (Below.next hS hb (Nat.le_refl _)) (.inr hb); exact rfl)
    refine Free.cons ?_ ?_
    · intro w' hS; (rintro _ rfl); (rintro _ rfl); intro K hK; have ka0 := (hS.cell (p := ⟨w.heap.size, 0, none⟩) hX.lt).trans x0; have ka1 := (hS.cell (p := ⟨w.heap.size, 1, none⟩) hX.lt).trans x1; have ka2 := (hS.cell (p := ⟨g, o + j, none⟩) hg1).trans d0; first | (refine Free.run_yes (by rfl) ?_; go_simp; refine Free.o hK hS ?_; exact rfl) | (refine Free.run_no (by rfl) (Free.o hK hS ?_); exact rfl)
    refine Free.cons ?_ ?_
    · intro w' hS; (rintro _ rfl); intro K hK; have ka0 := (hS.cell (p := ⟨w.heap.size, 0, none⟩) hX.lt).trans x0; have ka1 := (hS.cell (p := ⟨w.heap.size, 1, none⟩) hX.lt).trans x1; have ka2 := (hS.cell (p := ⟨g, o + j, none⟩) hg1).trans d0; first | (refine Free.run_yes (by rfl) ?_; go_simp; refine Free.o hK hS ?_; exact rfl) | (refine Free.run_no (by rfl) (Free.o hK hS ?_); exact rfl)
    exact Free.nil
    clear hvo
    intro w' hS; intro v0; intro v1; intro v2; intro v3; intro v4; intro v5; intro v6; intro v7; intro v8; intro v9; intro v10; intro v11; intro v12; intro v13; intro v14; intro v15; intro v16; intro v17; intro v18; intro v19; (rintro _ rfl); (try simp only [Act.put, List.setIfInBounds_toArray, List.set_cons_zero, List.set_cons_succ]); refine Free.toldE_nil ?_
    go_wp2
    go_ret
    exact ⟨(show Ending.returned (.bool y) = .returned (.bool (mayRow Z ⟨(j : Int), V⟩)) from by rewrite [he.out]; rfl), Below.next bb hS (Nat.le_refl _)⟩
end Go.Proofs.Ytfldmejjepakeaa
/- oublaw16.Few: what it tells hangs on the rows alone. -/
namespace Go.Proofs.Ytfldmejjepakeaa
open Go.ChangeShapes Go.WideShapes Go.ChangeAt Go.RowKit
open Go.ChangeMaps (open_string shut_string)
set_option linter.unusedVariables false
set_option linter.unusedSimpArgs false
set_option maxRecDepth 100000
open Go.Deep

def fewX (m : Int) (v : ValR) : Int := wrap64 (wrap64 (m + 20) + if (20001 : Int) < (v.s.length : Int) then 20001 else (v.s.length : Int))
def fewI (V : List ValR) (j : Nat) (m : Int) : Int := (V.take j).foldl fewX m
def fewO (R : List RowR) (k : Nat) : Int := (R.take k).foldl (fun m r => fewI r.V r.V.length m) 0
def fewR (R : List RowR) : Bool := (R.take 100).all (fun r => decide (r.V.length ≤ 100)) && (decide (R.length ≤ 100) && decide (fewO R R.length ≤ 20000))
theorem fewI_step {V : List ValR} {j : Nat} {p : ValR} (h : V[j]? = some p) (m : Int) : fewI V (j + 1) m = fewX (fewI V j m) p := by
  unfold fewI
  rw [List.take_add_one, h, List.foldl_append]
  rfl
theorem fewO_step {R : List RowR} {k : Nat} {q : RowR} (h : R[k]? = some q) : fewO R (k + 1) = fewI q.V q.V.length (fewO R k) := by
  unfold fewO
  rw [List.take_add_one, h, List.foldl_append]
  rfl
theorem fewR_long {R : List RowR} {k : Nat} {q : RowR} (h : R[k]? = some q) (hk : k < 100) (hl : 100 < q.V.length) : fewR R = false := by
  unfold fewR
  rw [Bool.and_eq_false_iff]
  left
  rw [List.all_eq_false]
  refine ⟨q, List.mem_of_getElem? (i := k) (by rw [List.getElem?_take, if_pos hk]; exact h), by simp; omega⟩
theorem fewR_many {R : List RowR} (h : 100 < R.length) : fewR R = false := by
  unfold fewR
  rw [decide_eq_false (show ¬ R.length ≤ 100 by omega), Bool.and_comm]
  rfl
theorem fewR_end {R : List RowR} {n : Nat} (hn : R.length = n) (h : n ≤ 100) (ha : ∀ i q, i < n → R[i]? = some q → q.V.length ≤ 100) : fewR R = decide (fewO R n ≤ 20000) := by
  unfold fewR
  rw [hn, decide_eq_true h]
  have : (R.take 100).all (fun r => decide (r.V.length ≤ 100)) = true := by
    rw [List.all_eq_true]
    intro x hx
    obtain ⟨i, hi⟩ := List.mem_iff_getElem?.1 (List.mem_of_mem_take hx)
    exact decide_eq_true (ha i x (by rw [← hn]; exact (List.getElem?_eq_some_iff.1 hi).1) hi)
  rw [this]
  rfl
set_option maxHeartbeats 4000000 in
theorem few16_is (A : Option Addr) (n c : Nat) (R : List RowR) (w : World) (h : RR w A n c R) : Calls Try.prog 17 #[.slice A n c] w fun e w' => e = .returned (.bool (fewR R)) ∧ Below w.heap.size w w' := by
  have hnm : n ≤ maxLen := Nat.le_trans h.cap h.max
  unfold maxLen at hnm
  have hLn := h.len
  go_enter Try.func17, Try.ntmps17
  go_wp2
  go_loopw [3, 4] (fun s i wr => ∃ (k : Nat) (m : Int), k ≤ n ∧ k ≤ 100 ∧ s = .int .i64 m ∧ i = .int .i64 k ∧ wr = w ∧ Hid (m = fewO R k ∧ ∀ i q, i < k → R[i]? = some q → q.V.length ≤ 100)) (fun s i _ => 101 - (intOf i).toNat)
  case atStart => exact ⟨0, 0, by omega, by omega, rfl, rfl, rfl, Lib.hid ⟨rfl, fun i q hi => absurd hi (by omega)⟩⟩
  case round =>
    obtain ⟨k, m, hk, hk2, rfl, rfl, rfl, hm⟩ := hrel
    by_cases h1 : k < n
    · by_cases h2 : k < 100
      · obtain ⟨q, hq⟩ : ∃ q, R[k]? = some q := ⟨_, List.getElem?_eq_getElem (by omega)⟩
        obtain ⟨g, o, rfl, hc⟩ := h.at_ (by omega)
        obtain ⟨B, mm, kk, hE, hc0, hc1⟩ := hc k q hq
        have hmm : mm ≤ maxLen := Nat.le_trans hE.cap hE.max
        unfold maxLen at hmm
        have hEl := hE.len
        have hqh := Lib.hid hq
        clear hc hq
        go_wp2
        go_loopw [3, 5] (fun s i wq => ∃ (j : Nat) (m : Int), j ≤ mm ∧ j ≤ 100 ∧ s = .int .i64 m ∧ i = .int .i64 j ∧ wq = wr ∧ Hid (m = fewI q.V j (fewO R k))) (fun s i _ => 101 - (intOf i).toNat)
        case atStart => exact ⟨0, m, by omega, by omega, rfl, rfl, rfl, Lib.hid hm.out.1⟩
        case round =>
          obtain ⟨j, m2, hj, hj2, rfl, rfl, rfl, hm2⟩ := hrel
          by_cases h3 : j < mm
          · by_cases h4 : j < 100
            · obtain ⟨p, hp⟩ : ∃ p, q.V[j]? = some p := ⟨_, List.getElem?_eq_getElem (by omega)⟩
              obtain ⟨g2, o2, rfl, hd⟩ := hE.at_ (by omega)
              obtain ⟨d0, d1, d2⟩ := hd j p hp
              have hph := Lib.hid hp
              have hzs := str_size p.s
              clear hd hp
              go_wp2
              go_roundw
              case rel =>
                refine ⟨j + 1, _, by omega, by omega, rfl, by go_num, trivial, Lib.hid ?_⟩
                rw [fewI_step hph.out, ← hm2.out]
                rfl
              case measure => simp [intOf]; omega
            · have h5 : 100 < (mm : Int) := by omega
              have hno := Lib.hid (fewR_long hqh.out h2 (by omega))
              go_wp2
              go_ret
              exact ⟨(show Ending.returned (.bool false) = .returned (.bool (fewR R)) from by rewrite [hno.out]; rfl), Below.refl _ _⟩
          · by_cases h5 : 100 < (mm : Int)
            · exfalso; omega
            · go_wp2
              go_roundw
              case rel =>
                refine ⟨k + 1, _, by omega, by omega, rfl, by go_num, trivial, Lib.hid ⟨?_, fun i x hi hx => ?_⟩⟩
                · rw [fewO_step hqh.out, hEl, (show mm = j by omega)]; exact hm2.out
                · by_cases ei : i = k
                  · subst ei; rw [hqh.out] at hx; injection hx with hx; rw [← hx]; omega
                  · exact hm.out.2 i x (by omega) hx
              case measure => simp [intOf]; omega
      · by_cases h3 : n ≤ 100
        · omega
        · have hno := Lib.hid (fewR_many (R := R) (by omega))
          have h5 : ¬ (n : Int) ≤ 100 := by omega
          go_wp2
          go_ret
          exact ⟨(show Ending.returned (.bool false) = .returned (.bool (fewR R)) from by rewrite [hno.out]; rfl), Below.refl _ _⟩
    · have hkn : n = k := by omega
      have h5 : (n : Int) ≤ 100 := by omega
      have hy := Lib.hid (fewR_end (R := R) hLn (by omega) (by rw [hkn]; exact hm.out.2))
      have hm1 := Lib.hid (show m = fewO R n from by rw [hkn]; exact hm.out.1)
      subst hkn
      go_wp2
      go_ret
      exact ⟨(show Ending.returned (.bool (decide (m ≤ 20000))) = .returned (.bool (fewR R)) from by rewrite [hy.out, ← hm1.out]; rfl), Below.refl _ _⟩
end Go.Proofs.Ytfldmejjepakeaa
/- RowFits: what the walk needs. -/
namespace Go.Proofs.Ytfldmejjepakeaa
open Go.ChangeShapes Go.WideShapes Go.ChangeAt Go.RowKit
open Go.ChangeMaps (open_string shut_string)
set_option linter.unusedVariables false
set_option linter.unusedSimpArgs false
set_option maxRecDepth 100000
open Go.Deep

theorem fits_all {K : List Int} {V : List ValR} (h : fitsL K V = true) : K.length = V.length ∧ ∀ (i : Nat) (k : Int) (v : ValR), K[i]? = some k → V[i]? = some v → v.k = k ∧ mayVR v = true := by
  by_cases hl : K.length = V.length
  · refine ⟨hl, fun i k v hk hv => ?_⟩
    cases hf : fit1 k v with
    | false => rw [fits_no hk hv hf] at h; cases h
    | true =>
      unfold fit1 at hf
      rw [Bool.and_eq_true, beq_iff_eq] at hf
      exact hf
  · rw [fits_len hl] at h; cases h
theorem mayRow_yes {Z : List (List Int)} {t : Int} {V : List ValR} (h : mayRow Z ⟨t, V⟩ = true) : ∃ (j : Nat) (z : List Int), t = j ∧ j < Z.length ∧ Z[j]? = some z ∧ fitsL z V = true := by
  by_cases h1 : t < 0
  · rw [mayRow_neg h1] at h; cases h
  · by_cases h2 : (Z.length : Int) ≤ t
    · rw [mayRow_far h2] at h; cases h
    · have hj : t.toNat < Z.length := by omega
      have e := List.getElem?_eq_getElem hj
      refine ⟨t.toNat, Z[t.toNat], by omega, hj, e, ?_⟩
      rw [show t = ((t.toNat : Nat) : Int) by omega, mayRow_in e] at h
      exact h
theorem mayRow_keyE {Z : List (List Int)} {t : Int} {V : List ValR} (h : mayRow Z ⟨t, V⟩ = true) (h4 : Z.length ≤ 4) (h0 : V ≠ []) : rowKE ⟨t, V⟩ = 0 := by
  obtain ⟨j, z, rfl, hj, hz, hf⟩ := mayRow_yes h
  cases V with
  | nil => exact absurd rfl h0
  | cons v V =>
    obtain ⟨hl, ha⟩ := fits_all hf
    obtain ⟨k, hk⟩ : ∃ k, z[0]? = some k := ⟨_, List.getElem?_eq_getElem (by rw [hl]; simp)⟩
    have hv := (ha 0 k v hk rfl).2
    unfold mayVR at hv
    show keyE (j : Int) v.k v.n v.s = 0
    unfold keyE
    rw [tab_ok j (by omega), hv]
    rfl
theorem mayRow_rowE {Z : List (List Int)} {t : Int} {V : List ValR} (h : mayRow Z ⟨t, V⟩ = true) (h4 : Z.length ≤ 4) (h0 : 1 ≤ V.length) (h1 : V.length ≤ 4) : rowE ⟨t, V⟩ = 0 := by
  obtain ⟨j, z, rfl, hj, hz, hf⟩ := mayRow_yes h
  obtain ⟨hl, ha⟩ := fits_all hf
  refine rowE_ok (by simp only; omega) fun i v hi hv => ?_
  have hi : i < V.length := hi
  have hk : z[i]? = some (z[i]'(by omega)) := List.getElem?_eq_getElem (by omega)
  exact (ha i _ v hk hv).2
theorem mayRow_more {Z : List (List Int)} {t : Int} {V M : List ValR} (h : mayRow Z ⟨t, V⟩ = true) (hm : M ≠ []) : mayRow Z ⟨t, V ++ M⟩ = false := by
  obtain ⟨j, z, rfl, hj, hz, hf⟩ := mayRow_yes h
  rw [mayRow_in hz]
  refine fits_len ?_
  rw [(fits_all hf).1, List.length_append]
  have := List.length_pos_iff.2 hm
  omega
theorem mayRow_other {Z : List (List Int)} {t : Int} {V : List ValR} {k : Nat} {v q : ValR} (h : mayRow Z ⟨t, V⟩ = true) (hv : V[k]? = some v) (hq : q.k = 3 - v.k) : mayRow Z ⟨t, V.set k q⟩ = false := by
  obtain ⟨j, z, rfl, hj, hz, hf⟩ := mayRow_yes h
  rw [mayRow_in hz]
  have hk := (List.getElem?_eq_some_iff.1 hv).1
  obtain ⟨hl, ha⟩ := fits_all hf
  have hzk : z[k]? = some (z[k]'(by omega)) := List.getElem?_eq_getElem (by omega)
  refine fits_no hzk (v := q) (by rw [List.getElem?_set_self hk]) ?_
  have := (ha k _ v hzk hv).1
  unfold fit1
  rw [beq_eq_false_iff_ne.2 (by omega)]
  rfl
theorem mayRow_kind {Z : List (List Int)} {t : Int} {V : List ValR} {k : Nat} {v : ValR} (h : mayRow Z ⟨t, V⟩ = true) (hv : V[k]? = some v) : v.k = 1 ∨ v.k = 2 := by
  obtain ⟨j, z, rfl, hj, hz, hf⟩ := mayRow_yes h
  have hk := (List.getElem?_eq_some_iff.1 hv).1
  obtain ⟨hl, ha⟩ := fits_all hf
  have hzk : z[k]? = some (z[k]'(by omega)) := List.getElem?_eq_getElem (by omega)
  have := (ha k _ v hzk hv).2
  unfold mayVR at this
  rcases mayV_cases this with ⟨h, _⟩ | ⟨h, _⟩
  · exact .inl h
  · exact .inr h
theorem mayRow_none (r : RowR) : mayRow [] r = false := by
  obtain ⟨t, V⟩ := r
  by_cases h1 : t < 0
  · exact mayRow_neg h1
  · exact mayRow_far (by simp; omega)
/-- A value stored into a slice of one's own. -/
theorem RV.store {w : World} {B g n c k : Nat} {V : List ValR} {q : ValR} (hO : VO w B (.slice (some ⟨g, 0, none⟩) n c) V) (hn : V.length = n) (hk : k < n) :
    RV (((w.setCell ⟨g, k * 3, none⟩ (.int .i64 q.k)).setCell ⟨g, k * 3 + 1, none⟩ (.int .i64 q.n)).setCell ⟨g, k * 3 + 2, none⟩ (.string (str q.s))) (some ⟨g, 0, none⟩) n c (V.set k q) := by
  subst hn
  obtain ⟨hl, ho⟩ := hO
  rcases ho with ⟨he, h0⟩ | ⟨g', cap, cur, he, hg, hheap, hnc, hcm, hcs, htake⟩
  · cases he
  · cases he
    have hB : Blk w g cur 51 := hheap
    have hF := ((hB.set (k * 3) (.int .i64 q.k)).set (k * 3 + 1) (.int .i64 q.n)).set (k * 3 + 2) (.string (str q.s))
    have hcl : (cellsV V).length = V.length * 3 := cellsV_len V
    have hsz : V.length * 3 ≤ cur.size := by
      rw [← hcl, ← htake, List.length_take, Array.length_toList]
      exact Nat.min_le_right _ _
    refine RV.of_cells (by rw [List.length_set]) hnc hcm fun j u hu => ?_
    obtain ⟨i, v, hv, hh⟩ := cellsV_inv hu
    have hi : i < V.length := by have := (List.getElem?_eq_some_iff.1 hv).1; rw [List.length_set] at this; exact this
    rw [Nat.zero_add]
    refine hF.cell j ?_
    by_cases hik : i = k
    · subst hik
      rw [List.getElem?_set_self (by omega)] at hv
      injection hv with hv
      subst hv
      rcases hh with ⟨rfl, rfl⟩ | ⟨rfl, rfl⟩ | ⟨rfl, rfl⟩
      · rw [Array.getElem?_setIfInBounds_ne (by omega), Array.getElem?_setIfInBounds_ne (by omega), Array.getElem?_setIfInBounds_self_of_lt (by omega)]
      · rw [Array.getElem?_setIfInBounds_ne (by omega), Array.getElem?_setIfInBounds_self_of_lt (by simp; omega)]
      · rw [Array.getElem?_setIfInBounds_self_of_lt (by simp; omega)]
    · rw [List.getElem?_set_ne (fun e => hik e.symm)] at hv
      have hcell : (cellsV V)[j]? = some u := by
        obtain ⟨a0, a1, a2⟩ := cellsV_at hv
        rcases hh with ⟨rfl, rfl⟩ | ⟨rfl, rfl⟩ | ⟨rfl, rfl⟩ <;> assumption
      have hj : j < V.length * 3 := by rw [← hcl]; exact (List.getElem?_eq_some_iff.1 hcell).1
      have hcur : cur[j]? = some u := by
        rw [← htake, List.getElem?_take, if_pos hj] at hcell
        rw [← Array.getElem?_toList]
        exact hcell
      rw [Array.getElem?_setIfInBounds_ne (by omega), Array.getElem?_setIfInBounds_ne (by omega), Array.getElem?_setIfInBounds_ne (by omega)]
      exact hcur
end Go.Proofs.Ytfldmejjepakeaa
/- Free.wp_facts where an operation without a slot (a store) tells something behind the region. -/
namespace Go.Proofs.Ytfldmejjepakeaa
open Go.ChangeShapes Go.WideShapes Go.ChangeAt Go.RowKit
open Go.ChangeMaps (open_string shut_string)
set_option linter.unusedVariables false
set_option linter.unusedSimpArgs false
set_option maxRecDepth 100000
namespace Free
variable {P : Program} {ops : Array Oper}
def ToldW (F : Nat → Value → World → Prop) (w : World) : List (Nat × Option Tmp × Bool) → Act → (Act → Prop) → Prop
  | [], a, k => k a
  | (i, some t, true) :: r, a, k => ∀ v, F i v w → ToldW F w r (a.put (some t) v) k
  | (_, some t, false) :: r, a, k => ∀ v, ToldW F w r (a.put (some t) v) k
  | (i, none, _) :: r, a, k => ∀ v, F i v w → ToldW F w r a k
def told (ops : Array Oper) (outs : List Nat) (i : Nat) : Option (Nat × Option Tmp × Bool) :=
  match dst ops i with
  | some t => some (i, some t, outs.contains i)
  | none => if outs.contains i = true then some (i, none, true) else none
theorem ToldW.told {F : Nat → Value → World → Prop} {outs : List Nat} {w : World} {k : Act → Prop} : ∀ (R : List Nat) (a : Act), ToldW F w (R.filterMap (Free.told ops outs)) a k → ToldE ops F outs w R a k
  | [], _, h => h
  | i :: r, a, h => fun v hv => by
    rw [List.filterMap_cons] at h
    unfold Free.told at h
    cases hd : dst ops i with
    | none =>
      rw [hd] at h
      cases ho : outs.contains i with
      | true =>
        rw [ho] at h
        rw [if_pos ho] at hv
        exact ToldW.told r _ (h v hv)
      | false =>
        rw [ho] at h
        exact ToldW.told r _ h
    | some t =>
      rw [hd] at h
      cases ho : outs.contains i with
      | true =>
        rw [ho] at h
        rw [if_pos ho] at hv
        exact ToldW.told r _ (h v hv)
      | false =>
        rw [ho] at h
        exact ToldW.told r _ (h v)
def chkW (ops : Array Oper) (M : List Nat) (D : List (List (Nat × Tmp))) (outs soles : List Nat) (E : List (Nat × Option Tmp × Bool)) (N : Nat) : Bool :=
  chk ops M (D.map fun l => l.map (·.1)) outs soles N && (D.all fun l => l.all fun p => dst ops p.1 == some p.2) && ((List.range ops.size).filterMap (told ops outs)) == E
theorem wp_factsW {M : List Nat} {D : List (List (Nat × Tmp))} {outs soles : List Nat} {E : List (Nat × Option Tmp × Bool)} {N : Nat} {id : Nat} {w : World} {a : Act} {Q : Exit → Act → World → Prop} {S : World → Prop} (L : List Fact)
    (hm : P.follows .mixedOrders = true) (hc : chkW ops M D outs soles E N = true) (hN : a.tmps.size = N) (hS : S w.drew)
    (hstep : StepsFrom (fun j o => ∀ w', S w' → Told' (facts L) w' (D.getD j []) a (StepAt P ops S (facts L) soles j o a.defers w')) 0 ops.toList)
    (hend : ∀ w', S w' → ToldW (facts L) w' E a (fun a' => Q .normal a' w')) : (Code.region id ops true).wp P Q a w := by
  unfold chkW at hc
  simp only [Bool.and_eq_true, beq_iff_eq] at hc
  obtain ⟨⟨hc1, hc2⟩, hc3⟩ := hc
  refine wp_free hc1 (F := facts L) (S := S) hm hN (fun i v w w' h hb => (L.getD i Fact.any).stab v w w' h hb) hS ?_ ?_
  · intro j o hj w' hw'
    have h := StepsFrom.all ops.toList 0 hstep j o (by simpa using hj)
    rw [Nat.zero_add] at h
    have h2 := h w' hw'
    have e : (D.map fun l => l.map (·.1)).getD j [] = (D.getD j []).map (·.1) := by
      simp only [List.getD_eq_getElem?_getD, List.getElem?_map]
      cases D[j]? <;> rfl
    rw [e]
    refine Told'.told _ _ ?_ h2
    cases hd : D[j]? with
    | none => simp [List.getD_eq_getElem?_getD, hd]
    | some l =>
      rw [List.all_eq_true] at hc2
      simp only [List.getD_eq_getElem?_getD, hd, Option.getD_some]
      exact hc2 l (List.mem_of_getElem? hd)
  · intro w' hw'
    refine ToldW.told _ _ ?_
    rw [hc3]
    exact hend w' hw'
theorem toldW_nil {F : Nat → Value → World → Prop} {w : World} {a : Act} {k : Act → Prop} (h : k a) : ToldW F w [] a k := h
/-- A row of cells stands in a block. -/
def Fact.blk (g : Nat) (cs : Array Value) (t : Nat) : Fact := ⟨fun _ w => Blk w g cs t, fun _ _ _ h hb => h.below hb h.lt⟩
end Free
end Go.Proofs.Ytfldmejjepakeaa
/- Free.wp_facts where facts are stable under a relation of one's own, and what holds of the world turns at the operations ss (an append onto a row that was there, a call that writes). -/
namespace Go.Proofs.Ytfldmejjepakeaa
open Go.ChangeShapes Go.WideShapes Go.ChangeAt Go.RowKit
open Go.ChangeMaps (open_string shut_string)
set_option linter.unusedVariables false
set_option linter.unusedSimpArgs false
set_option maxRecDepth 100000
namespace Free
variable {P : Program} {ops : Array Oper} {M : List Nat} {D : List (List Nat)} {outs soles pures : List Nat} {N : Nat}
/-- As chkS, where the facts of pures speak of no world. -/
def chkSP (ops : Array Oper) (M : List Nat) (D : List (List Nat)) (outs pures : List Nat) (j : Nat) : Bool :=
  ((List.range ops.size).all fun k => k == j || bit M j k || (D.getD k []).all fun i => pures.contains i || i == j || bit M i j) && outs.all fun i => pures.contains i || i == j || bit M i j
/-- How many of ss have been carried out, where j is about to be. -/
def agrees (M ss : List Nat) (j st : Nat) : Prop := (ss.filter (bit M j)).length ≤ st ∧ st ≤ (ss.filter fun s => !(j == s || bit M s j)).length
def done (ss : List Nat) (listed : Array Bool) : Nat := (ss.filter fun s => listed.getD s false).length
theorem filter_le {p q : Nat → Bool} : ∀ L : List Nat, (∀ x ∈ L, p x = true → q x = true) → (L.filter p).length ≤ (L.filter q).length
  | [], _ => Nat.le_refl _
  | x :: r, h => by
    have ih := filter_le r (fun y hy => h y (by simp [hy]))
    rw [List.filter_cons, List.filter_cons]
    by_cases hp : p x = true
    · rw [if_pos hp, if_pos (h x (by simp) hp)]; simp; exact ih
    · rw [if_neg hp]
      split
      · simp; omega
      · exact ih
theorem done_set {listed : Array Bool} {j : Nat} (hj : j < listed.size) (hun : listed.getD j false = false) : ∀ ss : List Nat, done ss (listed.setIfInBounds j true) = done ss listed + (ss.filter fun s => j == s).length
  | [] => rfl
  | x :: r => by
    have ih := done_set hj hun r
    unfold done at *
    rw [List.filter_cons, List.filter_cons, List.filter_cons]
    by_cases e : j = x
    · subst e
      have e1 : (listed.setIfInBounds j true).getD j false = true := by simp [hj]
      rw [e1, hun, beq_self_eq_true]
      simp only [if_true, Bool.false_eq_true, if_false, List.length_cons]
      omega
    · rw [getD_set_ne false e, beq_eq_false_iff_ne.2 e]
      split
      · simp only [List.length_cons, Bool.false_eq_true, if_false]; omega
      · simp only [Bool.false_eq_true, if_false]; exact ih
def StepAtR (R : World → World → Prop) (P : Program) (ops : Array Oper) (S : World → Prop) (F : Nat → Value → World → Prop) (soles : List Nat) (j : Nat) (o : Oper) (dfs : List Deferred) (w : World) (a : Act) : Prop :=
  ∀ K : Value → World → Prop, Shut (∀ v w', F j v w' → S w' → (soles.contains j = true ∨ R w w') → K v w') →
    if Region.wanted o (yielded ops a.tmps) = true then o.wp P a w (fun a' w' => a'.defers = dfs ∧ K (valOf o.dst a') w') (fun _ _ _ => False) else K undef w

structure InvR (ops : Array Oper) (D : List (List Nat)) (outs : List Nat) (N : Nat) (ss : List Nat) (S : Nat → World → Prop) (F : Nat → Value → World → Prop) (a : Act) (listed : Array Bool) (vs : Nat → Value) (a' : Act) (w' : World) : Prop where
  size : listed.size = ops.size
  closed : ∀ j, listed.getD j false = true → ∀ d ∈ deps ops j, listed.getD d false = true
  dfs : a'.defers = a.defers
  n : a'.tmps.size = N
  new : ∀ i d, listed.getD i false = true → dst ops i = some d → a'.tmps[d]? = some (vs i)
  old : ∀ t, (∀ i, listed.getD i false = true → dst ops i ≠ some t) → a'.tmps[t]? = a.tmps[t]?
  st : S (done ss listed) w'
  f : ∀ i, listed.getD i false = true → Need D outs ops listed i → F i (vs i) w'

section
variable {ss : List Nat} {S : Nat → World → Prop} {F : Nat → Value → World → Prop} {a : Act} {Q : Exit → Act → World → Prop}
theorem seesR (hc : chk ops M D outs soles N = true) {listed : Array Bool} {vs : Nat → Value} {a' : Act} {w' : World} (hI : InvR ops D outs N ss S F a listed vs a' w') (hN : a.tmps.size = N) {j : Nat} {o : Oper} (hj : ops[j]? = some o)
    (hd : ∀ d ∈ deps ops j, listed.getD d false = true) (hun : listed.getD j false = false) :
    execOp a'.eval o = execOp (putAll ops vs (D.getD j []) a).eval o ∧ Region.wanted o (yielded ops a'.tmps) = Region.wanted o (yielded ops (putAll ops vs (D.getD j []) a).tmps) ∧ ∀ i ∈ D.getD j [], listed.getD i false = true := by
  have hlt := (Array.getElem?_eq_some_iff.1 hj).1
  have h1 := chk_one hc hj
  unfold chk1 at h1
  simp only [Bool.and_eq_true] at h1
  have hanc : ∀ i ∈ D.getD j [], listed.getD i false = true := fun i hi => by
    have := h1.1.1.2
    rw [List.all_eq_true] at this
    exact anc_listed hc hI.closed j i hd hlt (this i hi)
  have hlk := h1.1.2
  rw [List.all_eq_true] at hlk
  have same : ∀ t ∈ o.looksAt ops, a'.tmps[t]? = (putAll ops vs (D.getD j []) a).tmps[t]? := by
    intro t ht
    have hall := hlk t ht
    rw [List.all_eq_true] at hall
    by_cases hex : ∃ i ∈ D.getD j [], dst ops i = some t
    · obtain ⟨i, hi, hdi⟩ := hex
      rw [hI.new i t (hanc i hi) hdi, putAll_in vs (dst_inj hc) _ i t hdi a hi (by rw [hN]; exact dst_lt hc hdi)]
    · rw [putAll_out vs _ t a (fun i hi e => hex ⟨i, hi, e⟩)]
      refine hI.old t fun i hli hdi => ?_
      have hin : i < ops.size := by rw [← hI.size]; exact listed_lt hli
      have := hall i (List.mem_range.2 hin)
      simp only [Bool.or_eq_true, bne_iff_ne, ne_eq, List.contains_iff_mem, beq_iff_eq] at this
      rcases this with ((h | h) | h) | h
      · exact h hdi
      · exact hex ⟨i, h, hdi⟩
      · subst h; rw [hun] at hli; cases hli
      · have := anc_listed hc hI.closed i j (hI.closed i hli) hin h
        rw [hun] at this; cases this
  refine ⟨?_, ?_, hanc⟩
  · refine execOp_congr o (Region.noSelect_spec (chk_sel hc) j o · · hj) fun x hx => ?_
    cases x with
    | tmp t =>
      have ht : t ∈ o.looksAt ops := List.mem_append_left _ (List.mem_filterMap.2 ⟨.tmp t, by simpa using hx, rfl⟩)
      have := same t ht
      simp only [Act.eval, Array.getD_eq_getD_getElem?, this]
    | _ => rfl
  · unfold Region.wanted
    cases hg : o.guard with
    | none => rfl
    | some gw =>
      obtain ⟨g, want⟩ := gw
      have hy : yielded ops a'.tmps g = yielded ops (putAll ops vs (D.getD j []) a).tmps g := by
        unfold yielded
        cases ht : (ops[g]?).bind (·.dst) with
        | none => rfl
        | some t =>
          have := same t (List.mem_append_right _ (by simp [hg, ht]))
          simp only [Option.bind_some, this]
      simp only [hy]

theorem inv_stepR (R : World → World → Prop) (hc : chk ops M D outs [] N = true) (hso : soles.all (chkSP ops M D outs pures) = true) (hpu : ∀ i, pures.contains i = true → ∀ v w w', F i v w → F i v w') {listed : Array Bool} {vs : Nat → Value} {a' : Act} {w' : World} (hI : InvR ops D outs N ss S F a listed vs a' w') {j : Nat} {o : Oper} (hj : ops[j]? = some o)
    (hd : ∀ d ∈ deps ops j, listed.getD d false = true) (hun : listed.getD j true = false)
    (hstab : ∀ i v w w', F i v w → R w w' → F i v w') (v : Value) (w2 : World) (hF : F j v w2) (hS : S (done ss listed + (ss.filter fun s => j == s).length) w2) (hT : soles.contains j = true ∨ R w' w2) :
    InvR ops D outs N ss S F a (listed.setIfInBounds j true) (fun i => if i = j then v else vs i) (a'.put o.dst v) w2 := by
  have hlt := (Array.getElem?_eq_some_iff.1 hj).1
  have hls : j < listed.size := by rw [hI.size]; exact hlt
  have hunf : listed.getD j false = false := by simp [hls] at hun ⊢; exact hun
  have hdj : dst ops j = o.dst := by unfold dst; rw [hj]; rfl
  have hS2 : S (done ss (listed.setIfInBounds j true)) w2 := by rw [done_set hls hunf]; exact hS
  refine ⟨by simpa using hI.size, ?_, by rw [put_defers]; exact hI.dfs, by rw [put_size]; exact hI.n, ?_, ?_, hS2, ?_⟩
  · intro k hk d hdk
    rcases getD_set hk with rfl | hk
    · exact getD_set_true (hd d hdk)
    · exact getD_set_true (hI.closed k hk d hdk)
  · intro i d hi hdi
    by_cases e : i = j
    · subst e
      rw [hdj] at hdi
      rw [hdi, put_same _ _ _ (by rw [hI.n]; exact dst_lt hc (by rw [hdj]; exact hdi)), if_pos rfl]
    · rw [if_neg e]
      rcases getD_set hi with h | h
      · exact absurd h e
      · rw [put_other _ _ _ _ (fun he => e (dst_inj hc i j d hdi (by rw [hdj]; exact he)))]
        exact hI.new i d h hdi
  · intro t ht
    have hjt : dst ops j ≠ some t := ht j (by simp [hls])
    rw [put_other _ _ _ _ (by rw [← hdj]; exact hjt)]
    exact hI.old t fun i hi => ht i (getD_set_true hi)
  · intro i hi hn
    by_cases e : i = j
    · subst e; rw [if_pos rfl]; exact hF
    · rw [if_neg e]
      rcases getD_set hi with h | h
      · exact absurd h e
      have hold : Need D outs ops listed i := by
        rcases hn with ho | ⟨k, hk1, hk2, hk3⟩
        · exact .inl ho
        · by_cases ek : j = k
          · subst ek; simp [hls] at hk2
          · rw [getD_set_ne true ek] at hk2
            exact .inr ⟨k, hk1, hk2, hk3⟩
      by_cases hpi : pures.contains i = true
      · exact hpu i hpi _ _ _ (hI.f i h hold)
      rcases hT with hs | hb
      · -- nobody else's fact is wanted any more
        exfalso
        have hk := List.all_eq_true.1 hso j (by simpa using hs)
        unfold chkSP at hk
        simp only [Bool.and_eq_true, List.all_eq_true, List.mem_range, Bool.or_eq_true, beq_iff_eq] at hk
        have late : ∀ i, listed.getD i false = true → bit M i j = true → False := fun i hi hb => by
          have := anc_listed hc hI.closed i j (hI.closed i hi) (by rw [← hI.size]; exact listed_lt hi) hb
          rw [hunf] at this; cases this
        rcases hn with ho | ⟨k, hk1, hk2, hk3⟩
        · rcases hk.2 i ho with (h1 | h1) | h1
          · exact hpi h1
          · exact e h1
          · exact late i h h1
        · have hkj : k ≠ j := by
            intro e2
            subst e2
            simp [hls] at hk2
          rw [getD_set_ne true (Ne.symm hkj)] at hk2
          rcases hk.1 k hk1 with (h1 | h1) | h1
          · exact hkj h1
          · have := anc_listed hc hI.closed j k hd hlt h1
            have hks : k < listed.size := by rw [hI.size]; exact hk1
            simp [hks] at hk2 this
            rw [hk2] at this; cases this
          · rcases h1 i hk3 with (h2 | h2) | h2
            · exact hpi h2
            · exact e h2
            · exact late i h h2
      · exact hstab i _ _ _ (hI.f i h hold) hb

theorem wp_freeR (R : World → World → Prop) (hc : chk ops M D outs [] N = true) (hso : soles.all (chkSP ops M D outs pures) = true) (hpu : ∀ i, pures.contains i = true → ∀ v w w', F i v w → F i v w') {id : Nat} {w : World} (hm : P.follows .mixedOrders = true) (hN : a.tmps.size = N)
    (hstab : ∀ i v w w', F i v w → R w w' → F i v w') (hsz : (ss.all fun s => decide (s < ops.size)) = true) (hS : S 0 w.drew)
    (hstep : ∀ j o, ops[j]? = some o → ∀ st, agrees M ss j st → ∀ w', S st w' → Told ops F w' (D.getD j []) a (StepAtR R P ops (S (st + (ss.filter fun s => j == s).length)) F soles j o a.defers w'))
    (hend : ∀ w', S ss.length w' → ToldE ops F outs w' (List.range ops.size) a (fun a' => Q .normal a' w')) : (Code.region id ops true).wp P Q a w := by
  refine wp_region_any hm ?_
  suffices H : ∀ (fuel : Nat) (listed : Array Bool) (vs : Nat → Value) (a' : Act) (w' : World), InvR ops D outs N ss S F a listed vs a' w' → cnt ops.size listed ≤ fuel → wpAny P .any ops Q fuel listed a' w' by
    have hS0 : S (done ss (Array.replicate ops.size false)) w.drew := by
      have : done ss (Array.replicate ops.size false) = 0 := by
        unfold done
        rw [List.length_eq_zero_iff, List.filter_eq_nil_iff]
        intro x hx
        rw [List.all_eq_true] at hsz
        have hx := of_decide_eq_true (hsz x hx)
        rw [Array.getD_eq_getD_getElem?, Array.getElem?_replicate, if_pos hx]
        simp
      rw [this]; exact hS
    refine H _ _ (fun _ => undef) _ _ ⟨by simp, ?_, rfl, hN, ?_, fun _ _ => rfl, hS0, ?_⟩ ?_
    · intro j hj; exfalso; have hl := listed_lt hj; simp at hl hj; simp [hl] at hj
    · intro j d hj; exfalso; have hl := listed_lt hj; simp at hl hj; simp [hl] at hj
    · intro j hj; exfalso; have hl := listed_lt hj; simp at hl hj; simp [hl] at hj
    · unfold cnt; exact Nat.le_trans List.countP_le_length (by simp)
  have fin : ∀ (listed : Array Bool) (vs : Nat → Value) (a' : Act) (w' : World), InvR ops D outs N ss S F a listed vs a' w' → Region.ready .any ops listed = [] → Q .normal a' w' := by
    intro listed vs a' w' hI hr
    have hall := none_ready hc hI.size hr
    have ho : ∀ i ∈ outs, F i (vs i) w' := fun i hi => by
      have hlt : i < ops.size := by
        unfold chk at hc
        simp only [Bool.and_eq_true, List.all_eq_true] at hc
        exact of_decide_eq_true (hc.2 i hi)
      exact hI.f i (hall i hlt) (.inl hi)
    have hst : S ss.length w' := by
      have := hI.st
      have e : done ss listed = ss.length := by
        unfold done
        rw [List.filter_eq_self.2]
        intro x hx
        rw [List.all_eq_true] at hsz
        exact hall x (of_decide_eq_true (hsz x hx))
      rw [e] at this
      exact this
    have := (hend w' hst).all vs ho _ _
    have e : putAll ops vs (List.range ops.size) a = a' := by
      have e1 : (putAll ops vs (List.range ops.size) a).defers = a'.defers := by rw [putAll_defers, hI.dfs]
      have e2 : (putAll ops vs (List.range ops.size) a).tmps = a'.tmps := by
        apply Array.ext_getElem?
        intro t
        by_cases hex : ∃ i, i < ops.size ∧ dst ops i = some t
        · obtain ⟨i, hi, hdi⟩ := hex
          rw [putAll_in vs (dst_inj hc) _ i t hdi a (List.mem_range.2 hi) (by rw [hN]; exact dst_lt hc hdi), hI.new i t (hall i hi) hdi]
        · rw [putAll_out vs _ t a (fun i hi e => hex ⟨i, List.mem_range.1 hi, e⟩)]
          exact (hI.old t fun i hi e => hex ⟨i, by rw [← hI.size]; exact listed_lt hi, e⟩).symm
      cases h1 : putAll ops vs (List.range ops.size) a
      cases h2 : a'
      rw [h1, h2] at e1 e2
      simp only at e1 e2
      rw [e1, e2]
    rw [e] at this
    exact this
  intro fuel
  induction fuel with
  | zero =>
    intro listed vs a' w' hI hcn
    have hr : Region.ready .any ops listed = [] := by
      rw [List.eq_nil_iff_forall_not_mem]
      intro j hj
      obtain ⟨hl, o, ho, _⟩ := mem_ready.1 hj
      have := cnt_set (Array.getElem?_eq_some_iff.1 ho).1 hI.size hl
      omega
    exact ⟨hr, fin _ _ _ _ hI hr⟩
  | succ fuel ih =>
    intro listed vs a' w' hI hcn
    refine ⟨fin _ _ _ _ hI, fun j hj => ?_⟩
    obtain ⟨hun, o, hjo, hall⟩ := mem_ready.1 hj
    have hlt := (Array.getElem?_eq_some_iff.1 hjo).1
    have hls : j < listed.size := by rw [hI.size]; exact hlt
    have hunf : listed.getD j false = false := by simp [hls] at hun ⊢; exact hun
    have hd : ∀ d ∈ deps ops j, listed.getD d false = true := fun d hdm => by
      unfold deps at hdm
      rw [hjo] at hdm
      obtain ⟨e, he, rfl⟩ := List.mem_map.1 hdm
      obtain ⟨he1, he2⟩ := List.mem_filter.1 he
      exact hall e (by simpa using he1) he2
    obtain ⟨hex, hwn, hlD⟩ := seesR hc hI hN hjo hd hunf
    have hcn2 := cnt_set hlt hI.size hun
    have hsz' : ∀ x ∈ ss, x < ops.size := fun x hx => by
      rw [List.all_eq_true] at hsz
      exact of_decide_eq_true (hsz x hx)
    have hag : agrees M ss j (done ss listed) := by
      refine ⟨filter_le ss fun x hx h => anc_listed hc hI.closed j x hd hlt h, filter_le ss fun x hx h => ?_⟩
      simp only [Bool.not_eq_true', Bool.or_eq_false_iff, beq_eq_false_iff_ne]
      refine ⟨fun e => ?_, ?_⟩
      · subst e; rw [hunf] at h; cases h
      · cases hb : bit M x j with
        | false => rfl
        | true =>
          have := anc_listed hc hI.closed x j (hI.closed x h) (hsz' x hx) hb
          rw [hunf] at this; cases this
    have hst := (hstep j o hjo _ hag w' hI.st).all vs _ _ fun i hi => hI.f i (hlD i hi) (.inr ⟨j, hlt, hun, hi⟩)
    have hst2 := hst (fun v w2 => wpAny P .any ops Q fuel (listed.setIfInBounds j true) (a'.put o.dst v) w2)
      (fun v w2 hF hS2 hT => ih _ _ _ _ (inv_stepR R hc hso hpu hI hjo hd hun hstab v w2 hF hS2 hT) (by omega))
    have hdfs : (putAll ops vs (D.getD j []) a).defers = a.defers := putAll_defers _ _ _
    have hval : ∀ v, a'.put o.dst (valOf o.dst ((putAll ops vs (D.getD j []) a).put o.dst v)) = a'.put o.dst v := fun v => by
      cases ho : o.dst with
      | none => rfl
      | some d =>
        have hdl : d < N := dst_lt hc (i := j) (by unfold dst; rw [hjo]; exact ho)
        have : ((putAll ops vs (D.getD j []) a).put (some d) v).tmps[d]? = some v := put_same _ _ _ (by rw [putAll_size, hN]; exact hdl)
        unfold valOf
        simp only [Array.getD_eq_getD_getElem?, this, Option.getD_some]
    unfold wpOp
    simp only [hjo]
    rw [hwn]
    split
    · rename_i hw
      rw [if_pos hw] at hst2
      refine .inl ?_
      unfold Oper.wp at hst2 ⊢
      rw [hex]
      generalize (execOp (putAll ops vs (D.getD j []) a).eval o).run P w' = r at *
      cases r with
      | ok n w2 =>
        cases n <;> simp only [Oper.upon] at hst2 ⊢
        case value v => have := hst2.2; rw [hval] at this; exact this
        case skip => have := hst2.2; rw [hval] at this; exact this
        case defer d => exact absurd hst2.1 (by rw [put_defers]; show ¬ (d :: _) = _; rw [hdfs]; exact List.cons_ne_self _ _)
        case enter f args =>
          refine Calls.mono hst2 fun e w3 he => ?_
          cases e with
          | returned v => have := he.2; rw [hval] at this; exact this
          | panicked c => exact he.elim
          | outgrown => obtain ⟨_, _, h⟩ := he; exact h.elim
        case row row args => exact Rows.mono hst2 fun v w3 he => by have := he.2; rw [hval] at this; exact this
      | halt x w2 => cases x <;> simp only [Oper.upon] at hst2 ⊢
    · rename_i hw
      rw [if_neg hw] at hst2
      exact hst2
end
/-- A fact on a value that R leaves true. -/
structure FactR (R : World → World → Prop) where
  f : Value → World → Prop
  stab : ∀ v w w', f v w → R w w' → f v w'
  pure : Bool := false
  ispure : pure = true → ∀ v w w', f v w → f v w' := by intro h; cases h
/-- It is x. -/
def FactR.is {R : World → World → Prop} (x : Value) : FactR R := ⟨fun v _ => v = x, fun _ _ _ h _ => h, true, fun _ _ _ _ h => h⟩
def FactR.any {R : World → World → Prop} : FactR R := { f := fun _ _ => True, stab := fun _ _ _ _ _ => trivial }
def factsR {R : World → World → Prop} (L : List (FactR R)) (i : Nat) (v : Value) (w : World) : Prop := (L.getD i FactR.any).f v w
theorem oR {R : World → World → Prop} {F : Value → World → Prop} {S : World → Prop} {b : Bool} {w : World} {K : Value → World → Prop} {v : Value} (hK : Shut (∀ v w', F v w' → S w' → (b = true ∨ R w w') → K v w')) (hR : R w w) (hS : S w) (hf : F v w) : K v w := hK.out _ _ hf hS (.inr hR)
theorem cR {R : World → World → Prop} {F : Value → World → Prop} {S : World → Prop} {b : Bool} {w w' : World} {K : Value → World → Prop} {v : Value} (hK : Shut (∀ v w', F v w' → S w' → (b = true ∨ R w w') → K v w')) (hS : S w') (hR : R w w') (hf : F v w') : K v w' := hK.out _ _ hf hS (.inr hR)
/-- **A region whose order is open**, by what each operation leaves, written out. -/
theorem wp_factsR {R : World → World → Prop} {ss : List Nat} {M : List Nat} {D : List (List (Nat × Tmp))} {outs soles pures : List Nat} {E : List (Nat × Tmp × Bool)} {N : Nat} {id : Nat} {w : World} {a : Act} {Q : Exit → Act → World → Prop} {S : Nat → World → Prop} (L : List (FactR R))
    (hm : P.follows .mixedOrders = true) (hc : chk' ops M D outs [] E N = true) (hso : soles.all (chkSP ops M (D.map fun l => l.map (·.1)) outs pures) = true) (hp : (pures.all fun i => (L.getD i FactR.any).pure) = true) (hN : a.tmps.size = N) (hsz : (ss.all fun s => decide (s < ops.size)) = true) (hS : S 0 w.drew)
    (hstep : StepsFrom (fun j o => ∀ st, agrees M ss j st → ∀ w', S st w' → Told' (factsR L) w' (D.getD j []) a (StepAtR R P ops (S (st + (ss.filter fun s => j == s).length)) (factsR L) soles j o a.defers w')) 0 ops.toList)
    (hend : ∀ w', S ss.length w' → ToldE' (factsR L) w' E a (fun a' => Q .normal a' w')) : (Code.region id ops true).wp P Q a w := by
  unfold chk' at hc
  simp only [Bool.and_eq_true, beq_iff_eq] at hc
  obtain ⟨⟨hc1, hc2⟩, hc3⟩ := hc
  refine wp_freeR R hc1 hso (fun i hi v w w' h => (L.getD i FactR.any).ispure (List.all_eq_true.1 hp i (by simpa using hi)) v w w' h) (F := factsR L) (S := S) hm hN (fun i v w w' h hb => (L.getD i FactR.any).stab v w w' h hb) hsz hS ?_ ?_
  · intro j o hj st hag w' hw'
    have h := StepsFrom.all ops.toList 0 hstep j o (by simpa using hj)
    rw [Nat.zero_add] at h
    have h2 := h st hag w' hw'
    have e : (D.map fun l => l.map (·.1)).getD j [] = (D.getD j []).map (·.1) := by
      simp only [List.getD_eq_getElem?_getD, List.getElem?_map]
      cases D[j]? <;> rfl
    rw [e]
    refine Told'.told _ _ ?_ h2
    cases hd : D[j]? with
    | none => simp [List.getD_eq_getElem?_getD, hd]
    | some l =>
      rw [List.all_eq_true] at hc2
      simp only [List.getD_eq_getElem?_getD, hd, Option.getD_some]
      exact hc2 l (List.mem_of_getElem? hd)
  · intro w' hw'
    refine ToldE'.told _ _ ?_
    rw [hc3]
    exact hend w' hw'
theorem wp_factsRW {R : World → World → Prop} {ss : List Nat} {M : List Nat} {D : List (List (Nat × Tmp))} {outs soles pures : List Nat} {E : List (Nat × Option Tmp × Bool)} {N : Nat} {id : Nat} {w : World} {a : Act} {Q : Exit → Act → World → Prop} {S : Nat → World → Prop} (L : List (FactR R))
    (hm : P.follows .mixedOrders = true) (hc : chkW ops M D outs [] E N = true) (hso : soles.all (chkSP ops M (D.map fun l => l.map (·.1)) outs pures) = true) (hp : (pures.all fun i => (L.getD i FactR.any).pure) = true) (hN : a.tmps.size = N) (hsz : (ss.all fun s => decide (s < ops.size)) = true) (hS : S 0 w.drew)
    (hstep : StepsFrom (fun j o => ∀ st, agrees M ss j st → ∀ w', S st w' → Told' (factsR L) w' (D.getD j []) a (StepAtR R P ops (S (st + (ss.filter fun s => j == s).length)) (factsR L) soles j o a.defers w')) 0 ops.toList)
    (hend : ∀ w', S ss.length w' → ToldW (factsR L) w' E a (fun a' => Q .normal a' w')) : (Code.region id ops true).wp P Q a w := by
  unfold chkW at hc
  simp only [Bool.and_eq_true, beq_iff_eq] at hc
  obtain ⟨⟨hc1, hc2⟩, hc3⟩ := hc
  refine wp_freeR R hc1 hso (fun i hi v w w' h => (L.getD i FactR.any).ispure (List.all_eq_true.1 hp i (by simpa using hi)) v w w' h) (F := factsR L) (S := S) hm hN (fun i v w w' h hb => (L.getD i FactR.any).stab v w w' h hb) hsz hS ?_ ?_
  · intro j o hj st hag w' hw'
    have h := StepsFrom.all ops.toList 0 hstep j o (by simpa using hj)
    rw [Nat.zero_add] at h
    have h2 := h st hag w' hw'
    have e : (D.map fun l => l.map (·.1)).getD j [] = (D.getD j []).map (·.1) := by
      simp only [List.getD_eq_getElem?_getD, List.getElem?_map]
      cases D[j]? <;> rfl
    rw [e]
    refine Told'.told _ _ ?_ h2
    cases hd : D[j]? with
    | none => simp [List.getD_eq_getElem?_getD, hd]
    | some l =>
      rw [List.all_eq_true] at hc2
      simp only [List.getD_eq_getElem?_getD, hd, Option.getD_some]
      exact hc2 l (List.mem_of_getElem? hd)
  · intro w' hw'
    refine ToldW.told _ _ ?_
    rw [hc3]
    exact hend w' hw'
end Free
end Go.Proofs.Ytfldmejjepakeaa
/- RowFits: the walk. -/
namespace Go.Proofs.Ytfldmejjepakeaa
open Go.ChangeShapes Go.WideShapes Go.ChangeAt Go.RowKit
open Go.ChangeMaps (open_string shut_string)
set_option linter.unusedVariables false
set_option linter.unusedSimpArgs false
set_option maxRecDepth 100000
open Go.Deep

/-- Two boxes of one content, laid in any order. -/
def Boxes (a : Act) (w : World) (s1 s2 s3 s4 : Nat) (v : Value) (cs : Array Value) (t : Nat) (x : Exit) (a' : Act) (w' : World) : Prop :=
  x = .normal ∧ ∃ g1 g2, g1 ≠ g2 ∧ w.heap.size ≤ g1 ∧ w.heap.size ≤ g2 ∧ g1 < w'.heap.size ∧ g2 < w'.heap.size ∧ Blk w' g1 cs t ∧ Blk w' g2 cs t ∧ Below w.heap.size w w' ∧
    a' = { tmps := (((a.tmps.setIfInBounds s1 v).setIfInBounds s2 v).setIfInBounds s3 (.pointer (some ⟨g1, 0, none⟩))).setIfInBounds s4 (.pointer (some ⟨g2, 0, none⟩)), defers := a.defers }
theorem wp_boxes {c : Code} {a : Act} {w : World} {Q : Exit → Act → World → Prop} (s1 s2 s3 s4 : Nat) (v : Value) (cs : Array Value) (t : Nat) (h : c.wp Try.prog (Boxes a w s1 s2 s3 s4 v cs t) a w)
    (hq : ∀ g1 g2 w', g1 ≠ g2 → w.heap.size ≤ g1 → w.heap.size ≤ g2 → g1 < w'.heap.size → g2 < w'.heap.size → Blk w' g1 cs t → Blk w' g2 cs t → Below w.heap.size w w' → Q .normal { tmps := (((a.tmps.setIfInBounds s1 v).setIfInBounds s2 v).setIfInBounds s3 (.pointer (some ⟨g1, 0, none⟩))).setIfInBounds s4 (.pointer (some ⟨g2, 0, none⟩)), defers := a.defers } w') : c.wp Try.prog Q a w := by
  refine Code.wp_mono (fun x a' w' hb => ?_) h
  obtain ⟨rfl, g1, g2, h1, h2, h3, h4, h5, h6, h7, h8, rfl⟩ := hb
  exact hq g1 g2 w' h1 h2 h3 h4 h5 h6 h7 h8
theorem build_val (d : Int) (w : World) : (Instr.build 51 #[(0, .int .i64 d)]).run Try.prog w = .ok (.agg #[.int .i64 d, .int .i64 0, .string (str [])]) w := by kernel_rfl
theorem build_row (t : Int) (A : Option Addr) (n c : Nat) (w : World) : (Instr.build 26 #[(0, .int .i64 t), (1, .slice A n c)]).run Try.prog w = .ok (.agg #[.int .i64 t, .slice A n c]) w := by kernel_rfl
theorem wp_build1 {o : Oper} {a : Act} {w : World} {K : Act → World → Prop} {H : Exit → Act → World → Prop} {t i : Nat} {x : Operand} {u r : Value} (hop : o.op = .build t #[(i, x)]) (hx : a.eval x = u)
    (hr : (Instr.build t #[(i, u)]).run Try.prog w = .ok r w) (h : K (a.put o.dst r) w) : o.wp Try.prog a w K H := by
  unfold Oper.wp execOp
  simp only [hop, List.map_toArray, List.map_cons, List.map_nil, hx, Sem.run_bind, hr, Result.andThen_ok, Sem.run_pure]
  exact h
theorem VO.form {w : World} {B : Nat} {A : Option Addr} {n c : Nat} {V : List ValR} (h : VO w B (.slice A n c) V) (hn : 0 < V.length) : ∃ g, A = some ⟨g, 0, none⟩ ∧ B ≤ g ∧ g < w.heap.size := by
  have hlt := h.lt
  obtain ⟨hl, ho⟩ := h
  rcases ho with ⟨_, h0⟩ | ⟨g', cap, cur, he, hg, hheap, _⟩
  · omega
  · cases he
    exact ⟨g', rfl, hg, (Array.getElem?_eq_some_iff.1 hheap).1⟩
set_option maxHeartbeats 16000000 in
theorem fits16 (A0 : Option Addr) (n0 c0 : Nat) (Z : List (List Int)) (t1 : Int) (A1 : Option Addr) (n1 c1 : Nat) (V1 : List ValR) (i : Int) (w : World) (h0 : RG w A0 n0 c0 Z) (h1 : RV w A1 n1 c1 V1) (hi63 : i ≤ 9223372036854775807) :
    Calls Try.prog 8 #[.slice A0 n0 c0, .agg #[.int .i64 t1, .slice A1 n1 c1], .int .i64 i] w fun e w' => e = .returned (.bool true) ∧ Below w.heap.size w w' := by
  have hnm : n0 ≤ maxLen := Nat.le_trans h0.cap h0.max
  have hnm1 : n1 ≤ maxLen := Nat.le_trans h1.cap h1.max
  unfold maxLen at hnm hnm1
  have hl0 := Lib.hid h0.len
  have h00 := Lib.hid h0
  have hl1 := Lib.hid h1.len
  have hA := Blk.new w #[.int .i64 t1, .slice A1 n1 c1] 26
  have bl : Below w.heap.size w (w.alloc (.cells #[.int .i64 t1, .slice A1 n1 c1] 26)) := (by repeat (first | exact Below.refl _ _ | assumption | apply below_drewN' | apply Below.drew | refine Below.alloc ?_ (by first | omega | (simp; done) | (simp; omega)) _ | refine Below.setCell ?_ (by first | omega | (simp; done) | (simp; omega)) _))
  go_enter Try.func8, Try.ntmps8
  go_wp2_with fail
  refine (first16_any _).mono ?_
  rintro e w2 ⟨rfl, e3⟩
  replace bl := Below.next bl e3 (Nat.le_refl _)
  replace hA := hA.below e3 hA.lt
  clear e3
  have aq0 := hA.cell 0 (v := .int .i64 t1) rfl
  have aq1 := hA.cell 1 (v := .slice A1 n1 c1) rfl
  go_wp2
  go_loopw [7, 8] (fun s i wr => ∃ (k : Nat) (m : Int), k ≤ n0 ∧ k ≤ 4 ∧ s = .int .i64 m ∧ i = .int .i64 k ∧ wr = w2) (fun s i _ => 5 - (intOf i).toNat)
  case atStart => exact ⟨0, 0, by omega, by omega, rfl, rfl, rfl⟩
  case round =>
  obtain ⟨k, m, hk, hk2, rfl, rfl, rfl⟩ := hrel
  by_cases g1 : k < n0 ∧ k < 4
  · obtain ⟨g1, g2⟩ := g1
    obtain ⟨z, hz⟩ : ∃ z, Z[k]? = some z := ⟨_, List.getElem?_eq_getElem (by have := hl0.out; omega)⟩
    obtain ⟨g, o, rfl, hc⟩ := (h0.below bl).at_ (by omega)
    obtain ⟨B, kk, hc0, hRN⟩ := hc k z hz
    have hzm : z.length ≤ maxLen := Nat.le_trans hRN.cap hRN.max
    unfold maxLen at hzm
    clear hc hz hRN
    go_wp2
    go_roundw
    case rel => exact ⟨k + 1, _, by omega, by omega, rfl, by go_num, trivial⟩
    case measure => simp [intOf]; omega
  have gg : (k < n0 ∧ ¬ k < 4) ∨ ¬ k < n0 := by omega
  clear g1
  rcases gg with ⟨g1, g2⟩ | g1
  · have g3 : (4 : Int) < (n0 : Int) := by omega
    (go_wp2_with fail; refine (first16_any _).mono ?_; rintro e w9 ⟨rfl, b9⟩; go_wp2; go_ret; exact ⟨rfl, Below.next bl b9 (Nat.le_refl _)⟩)
  have g3 : ¬ (4 : Int) < (n0 : Int) := by omega
  obtain rfl : k = n0 := by omega
  by_cases g4 : 2000 < m
  · (go_wp2_with fail; refine (first16_any _).mono ?_; rintro e w9 ⟨rfl, b9⟩; go_wp2; go_ret; exact ⟨rfl, Below.next bl b9 (Nat.le_refl _)⟩)
  have hG := Blk.new wr #[.int .i64 t1, .slice A1 n1 c1] 26
  have bg : Below wr.heap.size wr (wr.alloc (.cells #[.int .i64 t1, .slice A1 n1 c1] 26)) := (by repeat (first | exact Below.refl _ _ | assumption | apply below_drewN' | apply Below.drew | refine Below.alloc ?_ (by first | omega | (simp; done) | (simp; omega)) _ | refine Below.setCell ?_ (by first | omega | (simp; done) | (simp; omega)) _))
  have hRR := Lib.hid (RR.one hG ((h1.below bl).below bg))
  replace bl := Below.next bl bg (Nat.le_refl _)
  replace hA := hA.below bg hA.lt
  clear hG bg
  go_wp2_with fail
  refine (few16_any _ 1 1 _ _ hRR.out).mono ?_
  rintro e w3 ⟨⟨f, rfl⟩, e3⟩
  replace bl := Below.next bl e3 (Nat.le_refl _)
  replace hA := hA.below e3 hA.lt
  clear e3
  clear hRR aq0 aq1
  cases f with
  | false => (go_wp2_with fail; refine (first16_any _).mono ?_; rintro e w9 ⟨rfl, b9⟩; go_wp2; go_ret; exact ⟨rfl, Below.next bl b9 (Nat.le_refl _)⟩)
  | true =>
  have aq0 := hA.cell 0 (v := .int .i64 t1) rfl
  have aq1 := hA.cell 1 (v := .slice A1 n1 c1) rfl
  obtain ⟨y, hy⟩ : ∃ y, mayRow Z ⟨t1, V1⟩ = y := ⟨_, rfl⟩
  have H5 := Lib.hid (fun w h h2 => row_may A0 k c0 Z t1 A1 n1 c1 V1 w h h2)
  rw [hy] at H5
  replace hy := Lib.hid hy
  go_wp2_with fail
  refine (H5.out _ (h0.below bl) (h1.below bl)).mono ?_
  rintro e w4 ⟨rfl, e3⟩
  replace bl := Below.next bl e3 (Nat.le_refl _)
  replace hA := hA.below e3 hA.lt
  clear e3
  clear aq0 aq1
  have aq0 := hA.cell 0 (v := .int .i64 t1) rfl
  have aq1 := hA.cell 1 (v := .slice A1 n1 c1) rfl
  cases y with
  | false => (go_wp2_with fail; refine (first16_any _).mono ?_; rintro e w9 ⟨rfl, b9⟩; go_wp2; go_ret; exact ⟨rfl, Below.next bl b9 (Nat.le_refl _)⟩)
  | true =>
  by_cases g5 : n1 = 0
  · have g6 : ((n1 : Int) == 0) = true := by rw [beq_iff_eq]; omega
    clear g5
    (go_wp2_with fail; refine (first16_any _).mono ?_; rintro e w9 ⟨rfl, b9⟩; go_wp2; go_ret; exact ⟨rfl, Below.next bl b9 (Nat.le_refl _)⟩)
  have g6 : ((n1 : Int) == 0) = false := by rw [beq_eq_false_iff_ne]; omega
  by_cases g7 : (4 : Int) < (n1 : Int)
  · (go_wp2_with fail; refine (first16_any _).mono ?_; rintro e w9 ⟨rfl, b9⟩; go_wp2; go_ret; exact ⟨rfl, Below.next bl b9 (Nat.le_refl _)⟩)
  by_cases g8 : i < 0
  · (go_wp2_with fail; refine (first16_any _).mono ?_; rintro e w9 ⟨rfl, b9⟩; go_wp2; go_ret; exact ⟨rfl, Below.next bl b9 (Nat.le_refl _)⟩)
  obtain ⟨ii, rfl⟩ : ∃ ii : Nat, i = ii := ⟨i.toNat, by omega⟩
  have hV4 : V1.length ≤ 4 := by have := hl1.out; omega
  have H1 := Lib.hid (fun w (h : RV w A1 n1 c1 V1) => (show Calls Try.prog 32 #[.agg #[.int .i64 t1, .slice A1 n1 c1]] w fun e w' => (∃ s, e = .returned (.tuple #[.string s, .int .i64 0])) ∧ Below w.heap.size w w' from by
    have := row_key t1 A1 n1 c1 V1 w h
    rw [mayRow_keyE hy.out (by have := hl0.out; omega) (fun e => by have := hl1.out; rw [e] at this; simp at this; omega)] at this
    exact this.mono (fun e w' hh => ⟨⟨_, hh.1⟩, hh.2⟩)))
  have H2 := Lib.hid (fun w (h : RV w A1 n1 c1 V1) => (show Calls Try.prog 18 #[.agg #[.int .i64 t1, .slice A1 n1 c1]] w fun e w' => (∃ v, e = .returned (.tuple #[v, .int .i64 0])) ∧ Below w.heap.size w w' from by
    have := row_encode t1 A1 n1 c1 V1 w h
    rw [mayRow_rowE hy.out (by have := hl0.out; omega) (by have := hl1.out; omega) hV4] at this
    exact this.mono (fun e w' hh => let ⟨v, h1, _, h3⟩ := hh; ⟨⟨v, h1⟩, h3⟩)))
  go_wp2_with fail
  refine (H1.out _ (h1.below bl)).mono ?_
  rintro e w5 ⟨⟨s5, rfl⟩, e3⟩
  replace bl := Below.next bl e3 (Nat.le_refl _)
  replace hA := hA.below e3 hA.lt
  clear e3
  clear H1 aq0 aq1
  have aq0 := hA.cell 0 (v := .int .i64 t1) rfl
  have aq1 := hA.cell 1 (v := .slice A1 n1 c1) rfl
  go_wp2_with fail
  refine (H2.out _ (h1.below bl)).mono ?_
  rintro e w6 ⟨⟨v6, rfl⟩, e3⟩
  replace bl := Below.next bl e3 (Nat.le_refl _)
  replace hA := hA.below e3 hA.lt
  clear e3
  clear H2 aq0 aq1
  have aq0 := hA.cell 0 (v := .int .i64 t1) rfl
  have aq1 := hA.cell 1 (v := .slice A1 n1 c1) rfl
  go_wp2_with fail
  have hlt := hA.lt
  have hlt6 := hA.lt
  refine wp_boxes 82 83 13 14 (.agg #[.int .i64 t1, .slice A1 n1 c1]) #[.int .i64 t1, .slice A1 n1 c1] 26 ?_ ?_
  · go_region

    · exact ⟨rfl, w6.heap.size, w6.heap.size + 1, by omega, by omega, by omega, by simp; omega, by simp, ((Blk.new _ _ _).alloc _).drew, (Blk.new2 _ _ _ _).drew, (by repeat (first | exact Below.refl _ _ | assumption | apply below_drewN' | apply Below.drew | refine Below.alloc ?_ (by first | omega | (simp; done) | (simp; omega)) _ | refine Below.setCell ?_ (by first | omega | (simp; done) | (simp; omega)) _)), by simp only [List.setIfInBounds_toArray, List.set_cons_zero, List.set_cons_succ]⟩
    · exact ⟨rfl, w6.heap.size + 1, w6.heap.size, by omega, by omega, by omega, by simp, by simp; omega, (Blk.new2 _ _ _ _).drew, ((Blk.new _ _ _).alloc _).drew, (by repeat (first | exact Below.refl _ _ | assumption | apply below_drewN' | apply Below.drew | refine Below.alloc ?_ (by first | omega | (simp; done) | (simp; omega)) _ | refine Below.setCell ?_ (by first | omega | (simp; done) | (simp; omega)) _)), by simp only [List.setIfInBounds_toArray, List.set_cons_zero, List.set_cons_succ]⟩
  intro ga gb W7 hgab hga hgb hga2 hgb2 hGa hGb e3
  simp only [List.setIfInBounds_toArray, List.set_cons_zero, List.set_cons_succ]
  replace bl := Below.next bl e3 (Nat.le_refl _)
  replace hA := hA.below e3 hA.lt
  clear e3
  clear aq0 aq1 g3 g4 g6 g7 g8 hk hk2 hlt g1
  have hn1 : V1.length = n1 := hl1.out
  obtain ⟨g, o, rfl, _⟩ := h1.at_ (by omega)
  have hgA : w.heap.size < w6.heap.size := hlt6
  have aq0 := hA.cell 0 (v := .int .i64 t1) rfl
  have aq1 := hA.cell 1 (v := .slice (some ⟨g, o, none⟩) n1 c1) rfl
  have h17 := h1.below bl
  have aq2 := (hA.alloc (.cells #[] 51)).cell 1 (v := .slice (some ⟨g, o, none⟩) n1 c1) rfl
  have y0 := hGa.fz 1
  have y1 := hGb.fz 1
  have hx0 := hGa.cell 0 (v := .int .i64 t1) rfl
  have hx1 := hGb.cell 0 (v := .int .i64 t1) rfl
  have b7a : Below W7.heap.size W7 (W7.alloc (.cells #[] 51)) := (by repeat (first | exact Below.refl _ _ | assumption | apply below_drewN' | apply Below.drew | refine Below.alloc ?_ (by first | omega | (simp; done) | (simp; omega)) _ | refine Below.setCell ?_ (by first | omega | (simp; done) | (simp; omega)) _))
  go_wp2_with (first
    | (refine wpList_appv rfl (.tmp 84) (.tmp 86) rfl W7.heap.size (.slice (some ⟨W7.heap.size, 0, none⟩) 0 0) [] V1 g o n1 c1 rfl rfl (VO.empty W7 (Nat.le_refl _)) (h17.below b7a) (by simp; omega) (by simp) ?_
       intro v8 w8 ho8 hk8
       rw [List.nil_append] at ho8
       obtain ⟨A8, c8, rfl, _⟩ := ho8.rv n1 hn1
       have b8 : Below W7.heap.size W7 w8 := b7a.keeps hk8 (fun j hj e => by simp [Value.ownBlock] at e; omega) (by simp)
       have b8a : Below W7.heap.size W7 (w8.alloc (.cells #[.int .i64 (1), .int .i64 (0), .string (str ([]))] 51)) := b8.alloc b8.size _)
    | (refine wpList_appv rfl (.tmp 87) (.tmp 89) rfl W7.heap.size (.slice A8 n1 c8) V1 [⟨1, 0, []⟩] w8.heap.size 0 1 1 rfl rfl (ho8.alloc _) (RV.one (v := ⟨1, 0, []⟩) (Blk.new _ _ _)) (by simp; omega) (by have := b8.size; simp; omega) ?_
       intro v9 w9 ho9 hk9
       obtain ⟨A9, c9, rfl, hR9⟩ := ho9.rv (n1 + 1) (by rw [List.length_append, hn1]; rfl)
       have b9 : Below W7.heap.size W7 w9 := b8a.keeps hk9 (fun j hj e => by have := (ho8.lt j e).1; omega) (Nat.le_refl _)
       have hGa9 := hGa.below b9 hga2
       have hGb9 := hGb.below b9 hgb2
       have hA9 := hA.below b9 (by omega)
       have y9 := hGa9.fz 1
       have x9 := hGa9.cell 1 (v := .slice (some ⟨g, o, none⟩) n1 c1) rfl
       have bl9 := Below.next bl b9 (Nat.le_refl _)
       have bl10 : Below w.heap.size w (w9.setCell ⟨ga, 1, none⟩ (.slice A9 (n1 + 1) c9)) := bl9.setCell (p := ⟨ga, 1, none⟩) (by show w.heap.size ≤ ga; omega) _
       have hz10 : (w9.setCell ⟨ga, 1, none⟩ (.slice A9 (n1 + 1) c9)).heap.size = w9.heap.size := by simp
       have hE10 := VO.empty (B := w9.heap.size) (w9.setCell ⟨ga, 1, none⟩ (.slice A9 (n1 + 1) c9)) (by rw [hz10]; exact Nat.le_refl _)
       rw [hz10] at hE10
       have bl10a := bl10.alloc (by rw [hz10]; exact bl9.size) (.cells #[] 51)
       have aq3 := ((hA9.other (p := ⟨ga, 1, none⟩) (by simp; omega) (.slice A9 (n1 + 1) c9)).alloc (.cells #[] 51)).cell 1 (v := .slice (some ⟨g, o, none⟩) n1 c1) rfl)
    | (refine wpList_appv rfl (.tmp 92) (.tmp 94) rfl w9.heap.size (.slice (some ⟨w9.heap.size, 0, none⟩) 0 0) [] V1 g o n1 c1 rfl rfl hE10 (h1.below bl10a) (by simp; omega) (by simp) ?_
       intro v11 w11 ho11 hk11
       rw [List.nil_append] at ho11
       obtain ⟨A11, c11, rfl, _⟩ := ho11.rv n1 hn1
       have b9z := b9.size
       have o11 : ∀ j, (Value.slice (some ⟨w9.heap.size, 0, none⟩) 0 0).ownBlock = some j → j = w9.heap.size := fun j e => by simp [Value.ownBlock] at e; exact e.symm
       have hGb11 := ((hGb9.other (p := ⟨ga, 1, none⟩) (by simp; omega) (.slice A9 (n1 + 1) c9)).alloc (.cells #[] 51)).keeps hk11 (fun e => by have := o11 _ e; omega)
       have hA11 := ((hA9.other (p := ⟨ga, 1, none⟩) (by simp; omega) (.slice A9 (n1 + 1) c9)).alloc (.cells #[] 51)).keeps hk11 (fun e => by have := o11 _ e; omega)
       have hGa11 := ((hGa9.set 1 (.slice A9 (n1 + 1) c9)).alloc (.cells #[] 51)).keeps hk11 (fun e => by have := o11 _ e; omega)
       have ho9b := ((ho9.set (p := ⟨ga, 1, none⟩) (fun j hj => by have := (ho9.lt j hj).1; show j ≠ ga; omega) (.slice A9 (n1 + 1) c9)).alloc (.cells #[] 51)).kept hk11 (fun j hj e => by have := o11 _ e; have := (ho9.lt j hj).2; omega)
       have bl11 : Below w.heap.size w w11 := bl10a.keeps hk11 (fun j hj e => by have := o11 _ e; omega) (Nat.le_refl _)
       have y11 := hGb11.fz 1
       have x11 := hGb11.cell 1 (v := .slice (some ⟨g, o, none⟩) n1 c1) rfl
       have aq4 := (hA11.other (p := ⟨gb, 1, none⟩) (by simp; omega) (.slice A11 n1 c11)).cell 1 (v := .slice (some ⟨g, o, none⟩) n1 c1) rfl
       clear aq0 aq1 aq2 aq3 y0 y1 y9 x9 hx0 hx1)
    | fail)
  obtain ⟨kk, hkk, hkn⟩ : ∃ kk : Nat, ((ii : Int) % (n1 : Int)) = kk ∧ kk < n1 := ⟨ii % n1, by omega, Nat.mod_lt _ (by omega)⟩
  rewrite [hkk]
  obtain ⟨p, hp⟩ : ∃ p, V1[kk]? = some p := ⟨_, List.getElem?_eq_getElem (by omega)⟩
  obtain ⟨g11, rfl, hg11, hg11b⟩ := ho11.form (by omega)
  obtain ⟨W12, hW12⟩ : ∃ W, w11.setCell ⟨gb, 1, none⟩ (.slice (some ⟨g11, 0, none⟩) n1 c11) = W := ⟨_, rfl⟩
  have hGa12 := hGa11.other (p := ⟨gb, 1, none⟩) (by simp; omega) (.slice (some ⟨g11, 0, none⟩) n1 c11)
  have hA12 := hA11.other (p := ⟨gb, 1, none⟩) (by simp; omega) (.slice (some ⟨g11, 0, none⟩) n1 c11)
  have hGb12 := hGb11.set 1 (.slice (some ⟨g11, 0, none⟩) n1 c11)
  have ho9c := ho9b.set (p := ⟨gb, 1, none⟩) (fun j hj => by have := (ho9b.lt j hj).1; show j ≠ gb; omega) (.slice (some ⟨g11, 0, none⟩) n1 c11)
  have ho11c := ho11.set (p := ⟨gb, 1, none⟩) (fun j hj => by have := (ho11.lt j hj).1; show j ≠ gb; omega) (.slice (some ⟨g11, 0, none⟩) n1 c11)
  have bl12 : Below w.heap.size w (w11.setCell ⟨gb, 1, none⟩ (.slice (some ⟨g11, 0, none⟩) n1 c11)) := bl11.setCell (p := ⟨gb, 1, none⟩) (by show w.heap.size ≤ gb; omega) _
  rw [hW12] at hGa12 hA12 hGb12 ho9c ho11c bl12 ⊢
  have hkind := mayRow_kind hy.out hp
  have hpk1 : 1 ≤ p.k := by omega
  have hpk2 : p.k ≤ 2 := by omega
  obtain ⟨d3, hd3⟩ : ∃ d, 3 - p.k = d := ⟨_, rfl⟩
  have hp3 : Hid (IntKind.i64.wrap (3 - p.k) = d3) := Lib.hid (by rw [← hd3, IntKind.wrap_i64] <;> omega)
  replace hd3 := Lib.hid hd3
  clear hkind hpk1 hpk2
  have hph := Lib.hid hp
  obtain ⟨kv0, kv1, kv2⟩ : W12.cell? ⟨g, o + kk * 3, none⟩ = some (.int .i64 p.k) ∧ W12.cell? ⟨g, o + kk * 3 + 1, none⟩ = some (.int .i64 p.n) ∧ W12.cell? ⟨g, o + kk * 3 + 2, none⟩ = some (.string (str p.s)) := by
    obtain ⟨g', o', e, hcc⟩ := (h1.below bl12).at_ (by omega)
    cases e
    exact hcc kk p hp
  obtain ⟨ku0, ku1, ku2⟩ : W12.cell? ⟨g11, kk * 3, none⟩ = some (.int .i64 p.k) ∧ W12.cell? ⟨g11, kk * 3 + 1, none⟩ = some (.int .i64 p.n) ∧ W12.cell? ⟨g11, kk * 3 + 2, none⟩ = some (.string (str p.s)) := by
    obtain ⟨A', c', e, hR⟩ := ho11c.rv n1 hn1
    cases e
    obtain ⟨g', o', e, hcc⟩ := hR.at_ (by omega)
    cases e
    have := hcc kk p hp
    simpa using this
  clear hp aq4 y11 x11 hW12
  have aq1 := hA12.cell 1 (v := .slice (some ⟨g, o, none⟩) n1 c1) rfl
  have bq1 := hGb12.cell 1 (v := .slice (some ⟨g11, 0, none⟩) n1 c11) rfl
  have hgl := World.block_lt_of_cell? W12 _ kv0
  have hgl2 := World.block_lt_of_cell? W12 _ ku0
  have hR := fun {w w' : World} (h : Below w.heap.size w w') => h
  have hnf := Lib.hid fun (B : Nat) (w' : World) (h : VO w' B (.slice (some ⟨g11, 0, none⟩) n1 c11) V1) => (show ∀ i, w'.frozen? ⟨g11, i, none⟩ = false from by
    obtain ⟨_, ho⟩ := h
    rcases ho with ⟨he, _⟩ | ⟨g', cap, cur, he, _, hheap, _⟩
    · cases he
    · cases he
      exact fun i => Blk.fz (t := 51) hheap i)
  have hvo := Free.val
  refine Free.wp_factsR (R := (fun w w' => Below w.heap.size w w')) (ss := [12]) (pures := [0, 1, 2, 3, 4, 5, 6, 7, 8, 9, 10, 11]) (M := [0, 1, 0, 0, 8, 0, 56, 120, 248, 504, 1016, 2047, 4095]) (D := [[], [(0, 102)], [], [], [(3, 105)], [], [(4, 106), (5, 107)], [(6, 108)], [(7, 109)], [(8, 110)], [(9, 111)], [(1, 103), (2, 104)], [(11, 113), (10, 112)]]) (outs := []) (soles := [12]) (E := [(0, 102, false), (1, 103, false), (2, 104, false), (3, 105, false), (4, 106, false), (5, 107, false), (6, 108, false), (7, 109, false), (8, 110, false), (9, 111, false), (10, 112, false), (11, 113, false)]) (N := 149) (S := (fun (st : Nat) w' => (st = 0 → Below W12.heap.size W12 w') ∧ (st = 1 → ∃ w'', Below W12.heap.size W12 w'' ∧ w' = ((w''.setCell ⟨g11, kk * 3, none⟩ (.int .i64 d3)).setCell ⟨g11, kk * 3 + 1, none⟩ (.int .i64 0)).setCell ⟨g11, kk * 3 + 2, none⟩ (.string (str []))))) [Free.FactR.is ?_, Free.FactR.is ?_, Free.FactR.is ?_, Free.FactR.is ?_, Free.FactR.is ?_, Free.FactR.is ?_, Free.FactR.is ?_, Free.FactR.is ?_, Free.FactR.is ?_, Free.FactR.is (.int .i64 d3), Free.FactR.is ?_, Free.FactR.is ?_, Free.FactR.any] (by kernel_rfl) (by kernel_rfl) (by kernel_rfl) rfl rfl (by decide) (⟨fun _ => (Below.refl _ _).drew, fun e => absurd e (by decide)⟩) ?_ ?_
  rotate_left 11
  refine Free.cons ?_ ?_
  · intro st hag; (obtain rfl : st = 0 := Nat.le_antisymm hag.2 hag.1); intro w' hS; intro K hK; have hs := hS.1 rfl; have ka1 := (hs.cell (p := ⟨w.heap.size, 1, none⟩) hA12.lt).trans aq1; have kb1 := (hs.cell (p := ⟨gb, 1, none⟩) hGb12.lt).trans bq1; have kc0 := (hs.cell (p := ⟨g, o + kk * 3, none⟩) hgl).trans kv0; first | (refine Free.run_yes (by rfl) ?_; go_simp; refine Free.oR hK (hR (Below.refl _ _)) hS ?_; exact rfl) | (refine Free.run_no (by rfl) (Free.oR hK (hR (Below.refl _ _)) hS ?_); exact rfl)
  refine Free.cons ?_ ?_
  · intro st hag; (obtain rfl : st = 0 := Nat.le_antisymm hag.2 hag.1); intro w' hS; (rintro _ rfl); intro K hK; have hs := hS.1 rfl; have ka1 := (hs.cell (p := ⟨w.heap.size, 1, none⟩) hA12.lt).trans aq1; have kb1 := (hs.cell (p := ⟨gb, 1, none⟩) hGb12.lt).trans bq1; have kc0 := (hs.cell (p := ⟨g, o + kk * 3, none⟩) hgl).trans kv0; first | (refine Free.run_yes (by rfl) ?_; go_simp; refine Free.oR hK (hR (Below.refl _ _)) hS ?_; exact rfl) | (refine Free.run_no (by rfl) (Free.oR hK (hR (Below.refl _ _)) hS ?_); exact rfl)
  refine Free.cons ?_ ?_
  · intro st hag; (obtain rfl : st = 0 := Nat.le_antisymm hag.2 hag.1); intro w' hS; intro K hK; have hs := hS.1 rfl; have ka1 := (hs.cell (p := ⟨w.heap.size, 1, none⟩) hA12.lt).trans aq1; have kb1 := (hs.cell (p := ⟨gb, 1, none⟩) hGb12.lt).trans bq1; have kc0 := (hs.cell (p := ⟨g, o + kk * 3, none⟩) hgl).trans kv0; first | (refine Free.run_yes (by rfl) ?_; go_simp; refine Free.oR hK (hR (Below.refl _ _)) hS ?_; exact rfl) | (refine Free.run_no (by rfl) (Free.oR hK (hR (Below.refl _ _)) hS ?_); exact rfl)
  refine Free.cons ?_ ?_
  · intro st hag; (obtain rfl : st = 0 := Nat.le_antisymm hag.2 hag.1); intro w' hS; intro K hK; have hs := hS.1 rfl; have ka1 := (hs.cell (p := ⟨w.heap.size, 1, none⟩) hA12.lt).trans aq1; have kb1 := (hs.cell (p := ⟨gb, 1, none⟩) hGb12.lt).trans bq1; have kc0 := (hs.cell (p := ⟨g, o + kk * 3, none⟩) hgl).trans kv0; first | (refine Free.run_yes (by rfl) ?_; go_simp; refine Free.oR hK (hR (Below.refl _ _)) hS ?_; exact rfl) | (refine Free.run_no (by rfl) (Free.oR hK (hR (Below.refl _ _)) hS ?_); exact rfl)
  refine Free.cons ?_ ?_
  · intro st hag; (obtain rfl : st = 0 := Nat.le_antisymm hag.2 hag.1); intro w' hS; (rintro _ rfl); intro K hK; have hs := hS.1 rfl; have ka1 := (hs.cell (p := ⟨w.heap.size, 1, none⟩) hA12.lt).trans aq1; have kb1 := (hs.cell (p := ⟨gb, 1, none⟩) hGb12.lt).trans bq1; have kc0 := (hs.cell (p := ⟨g, o + kk * 3, none⟩) hgl).trans kv0; first | (refine Free.run_yes (by rfl) ?_; go_simp; refine Free.oR hK (hR (Below.refl _ _)) hS ?_; exact rfl) | (refine Free.run_no (by rfl) (Free.oR hK (hR (Below.refl _ _)) hS ?_); exact rfl)
  refine Free.cons ?_ ?_
  · intro st hag; (obtain rfl : st = 0 := Nat.le_antisymm hag.2 hag.1); intro w' hS; intro K hK; have hs := hS.1 rfl; have ka1 := (hs.cell (p := ⟨w.heap.size, 1, none⟩) hA12.lt).trans aq1; have kb1 := (hs.cell (p := ⟨gb, 1, none⟩) hGb12.lt).trans bq1; have kc0 := (hs.cell (p := ⟨g, o + kk * 3, none⟩) hgl).trans kv0; first | (refine Free.run_yes (by rfl) ?_; go_simp; refine Free.oR hK (hR (Below.refl _ _)) hS ?_; exact rfl) | (refine Free.run_no (by rfl) (Free.oR hK (hR (Below.refl _ _)) hS ?_); exact rfl)
  refine Free.cons ?_ ?_
  · intro st hag; (obtain rfl : st = 0 := Nat.le_antisymm hag.2 hag.1); intro w' hS; (rintro _ rfl); (rintro _ rfl); intro K hK; have hs := hS.1 rfl; have ka1 := (hs.cell (p := ⟨w.heap.size, 1, none⟩) hA12.lt).trans aq1; have kb1 := (hs.cell (p := ⟨gb, 1, none⟩) hGb12.lt).trans bq1; have kc0 := (hs.cell (p := ⟨g, o + kk * 3, none⟩) hgl).trans kv0; first | (refine Free.run_yes (by rfl) ?_; go_simp; refine Free.oR hK (hR (Below.refl _ _)) hS ?_; exact rfl) | (refine Free.run_no (by rfl) (Free.oR hK (hR (Below.refl _ _)) hS ?_); exact rfl)
  refine Free.cons ?_ ?_
  · intro st hag; (obtain rfl : st = 0 := Nat.le_antisymm hag.2 hag.1); intro w' hS; (rintro _ rfl); intro K hK; have hs := hS.1 rfl; have ka1 := (hs.cell (p := ⟨w.heap.size, 1, none⟩) hA12.lt).trans aq1; have kb1 := (hs.cell (p := ⟨gb, 1, none⟩) hGb12.lt).trans bq1; have kc0 := (hs.cell (p := ⟨g, o + kk * 3, none⟩) hgl).trans kv0; first | (refine Free.run_yes (by rfl) ?_; go_simp; refine Free.oR hK (hR (Below.refl _ _)) hS ?_; exact rfl) | (refine Free.run_no (by rfl) (Free.oR hK (hR (Below.refl _ _)) hS ?_); exact rfl)
  refine Free.cons ?_ ?_
  · intro st hag; (obtain rfl : st = 0 := Nat.le_antisymm hag.2 hag.1); intro w' hS; (rintro _ rfl); intro K hK; have hs := hS.1 rfl; have ka1 := (hs.cell (p := ⟨w.heap.size, 1, none⟩) hA12.lt).trans aq1; have kb1 := (hs.cell (p := ⟨gb, 1, none⟩) hGb12.lt).trans bq1; have kc0 := (hs.cell (p := ⟨g, o + kk * 3, none⟩) hgl).trans kv0; first | (refine Free.run_yes (by rfl) ?_; go_simp; refine Free.oR hK (hR (Below.refl _ _)) hS ?_; exact rfl) | (refine Free.run_no (by rfl) (Free.oR hK (hR (Below.refl _ _)) hS ?_); exact rfl)
  refine Free.cons ?_ ?_
  · intro st hag; (obtain rfl : st = 0 := Nat.le_antisymm hag.2 hag.1); intro w' hS; (rintro _ rfl); intro K hK; have hs := hS.1 rfl; have ka1 := (hs.cell (p := ⟨w.heap.size, 1, none⟩) hA12.lt).trans aq1; have kb1 := (hs.cell (p := ⟨gb, 1, none⟩) hGb12.lt).trans bq1; have kc0 := (hs.cell (p := ⟨g, o + kk * 3, none⟩) hgl).trans kv0; refine Free.run_yes (by rfl) ?_; (simp only [Act.put, List.setIfInBounds_toArray, List.set_cons_zero, List.set_cons_succ]; go_simp; refine Free.oR hK (hR (Below.refl _ _)) hS ?_; exact congrArg (Value.int .i64) hp3.out)
  refine Free.cons ?_ ?_
  · intro st hag; (obtain rfl : st = 0 := Nat.le_antisymm hag.2 hag.1); intro w' hS; (rintro _ rfl); intro K hK; have hs := hS.1 rfl; have ka1 := (hs.cell (p := ⟨w.heap.size, 1, none⟩) hA12.lt).trans aq1; have kb1 := (hs.cell (p := ⟨gb, 1, none⟩) hGb12.lt).trans bq1; have kc0 := (hs.cell (p := ⟨g, o + kk * 3, none⟩) hgl).trans kv0; refine Free.run_yes (by rfl) ?_; (simp only [Act.put, List.setIfInBounds_toArray, List.set_cons_zero, List.set_cons_succ]; refine wp_build1 (x := .tmp 111) (u := .int .i64 d3) (by rfl) (by rfl) (build_val d3 _) ?_; refine ⟨rfl, ?_⟩; simp only [Free.valOf, Act.put, List.setIfInBounds_toArray, List.set_cons_zero, List.set_cons_succ, Array.getD_eq_getD_getElem?, List.getElem?_toArray, List.getElem?_cons_succ, List.getElem?_cons_zero, Option.getD_some]; refine Free.oR hK (hR (Below.refl _ _)) hS ?_; exact rfl)
  refine Free.cons ?_ ?_
  · intro st hag; (obtain rfl : st = 0 := Nat.le_antisymm hag.2 hag.1); intro w' hS; (rintro _ rfl); (rintro _ rfl); intro K hK; have hs := hS.1 rfl; have ka1 := (hs.cell (p := ⟨w.heap.size, 1, none⟩) hA12.lt).trans aq1; have kb1 := (hs.cell (p := ⟨gb, 1, none⟩) hGb12.lt).trans bq1; have kc0 := (hs.cell (p := ⟨g, o + kk * 3, none⟩) hgl).trans kv0; first | (refine Free.run_yes (by rfl) ?_; go_simp; refine Free.oR hK (hR (Below.refl _ _)) hS ?_; exact rfl) | (refine Free.run_no (by rfl) (Free.oR hK (hR (Below.refl _ _)) hS ?_); exact rfl)
  refine Free.cons ?_ ?_
  · intro st hag; (obtain rfl : st = 0 := Nat.le_antisymm hag.2 hag.1); intro w' hS; (rintro _ rfl); (rintro _ rfl); intro K hK; have hs := hS.1 rfl; have ka1 := (hs.cell (p := ⟨w.heap.size, 1, none⟩) hA12.lt).trans aq1; have kb1 := (hs.cell (p := ⟨gb, 1, none⟩) hGb12.lt).trans bq1; have kc0 := (hs.cell (p := ⟨g, o + kk * 3, none⟩) hgl).trans kv0; refine Free.run_yes (by rfl) ?_; (have kd0 := (hs.cell (p := ⟨g11, kk * 3, none⟩) hgl2).trans ku0; have kd1 := (hs.cell (p := ⟨g11, kk * 3 + 1, none⟩) hgl2).trans ku1; have kd2 := (hs.cell (p := ⟨g11, kk * 3 + 2, none⟩) hgl2).trans ku2; have kf := hnf.out _ _ (ho11c.below hs); have kf0 := kf (kk * 3); have kf1 := kf (kk * 3 + 1); have kf2 := kf (kk * 3 + 2); clear kf; simp only [Act.put, List.setIfInBounds_toArray, List.set_cons_zero, List.set_cons_succ]; go_simp; refine hK.out _ _ trivial ⟨fun e => absurd e (by decide), fun _ => ⟨w', hs, rfl⟩⟩ (.inl rfl))
  exact Free.nil
  clear hvo
  intro w' hS; intro v0; intro v1; intro v2; intro v3; intro v4; intro v5; intro v6; intro v7; intro v8; intro v9; intro v10; intro v11; (try simp only [Act.put, List.setIfInBounds_toArray, List.set_cons_zero, List.set_cons_succ]); refine Free.toldE_nil ?_
  obtain ⟨w13, hw13, rfl⟩ := hS.2 rfl
  clear hS hR hnf ku0 ku1 ku2 kv0 kv1 kv2 aq1 bq1 hgl hgl2
  have b9z := b9.size
  have hal := hA.lt
  have hR13 := RV.store (q := ⟨d3, 0, []⟩) (ho11c.below hw13) hn1 hkn
  have hA13 := (((hA12.below hw13 hA12.lt).other (p := ⟨g11, kk * 3, none⟩) (by simp; omega) (.int .i64 d3)).other (p := ⟨g11, kk * 3 + 1, none⟩) (by simp; omega) (.int .i64 0)).other (p := ⟨g11, kk * 3 + 2, none⟩) (by simp; omega) (.string (str []))
  have hGa13 := (((hGa12.below hw13 hGa12.lt).other (p := ⟨g11, kk * 3, none⟩) (by simp; omega) (.int .i64 d3)).other (p := ⟨g11, kk * 3 + 1, none⟩) (by simp; omega) (.int .i64 0)).other (p := ⟨g11, kk * 3 + 2, none⟩) (by simp; omega) (.string (str []))
  have hGb13 := (((hGb12.below hw13 hGb12.lt).other (p := ⟨g11, kk * 3, none⟩) (by simp; omega) (.int .i64 d3)).other (p := ⟨g11, kk * 3 + 1, none⟩) (by simp; omega) (.int .i64 0)).other (p := ⟨g11, kk * 3 + 2, none⟩) (by simp; omega) (.string (str []))
  have h9 : ∀ j, (Value.slice A9 (n1 + 1) c9).ownBlock = some j → j ≠ g11 := fun j hj => by have := (ho9.lt j hj).2; omega
  have ho9d := (((ho9c.below hw13).set (p := ⟨g11, kk * 3, none⟩) h9 (.int .i64 d3)).set (p := ⟨g11, kk * 3 + 1, none⟩) h9 (.int .i64 0)).set (p := ⟨g11, kk * 3 + 2, none⟩) h9 (.string (str []))
  have hwg : w.heap.size ≤ g11 := by omega
  have bl13 : Below w.heap.size w (((w13.setCell ⟨g11, kk * 3, none⟩ (.int .i64 d3)).setCell ⟨g11, kk * 3 + 1, none⟩ (.int .i64 0)).setCell ⟨g11, kk * 3 + 2, none⟩ (.string (str []))) := (((Below.next bl12 hw13 (Nat.le_refl _)).setCell (p := ⟨g11, kk * 3, none⟩) hwg _).setCell (p := ⟨g11, kk * 3 + 1, none⟩) hwg _).setCell (p := ⟨g11, kk * 3 + 2, none⟩) hwg _
  obtain ⟨W13, hW13⟩ : ∃ W, ((w13.setCell ⟨g11, kk * 3, none⟩ (.int .i64 d3)).setCell ⟨g11, kk * 3 + 1, none⟩ (.int .i64 0)).setCell ⟨g11, kk * 3 + 2, none⟩ (.string (str [])) = W := ⟨_, rfl⟩
  simp only [hW13] at hR13 hA13 hGa13 hGb13 ho9d bl13
  rewrite [hW13]
  obtain ⟨A9', c9', e9, hR9d⟩ := ho9d.rv (n1 + 1) (by rw [List.length_append, hn1]; rfl)
  cases e9
  have HM1 := Lib.hid (fun w h h2 => row_may A0 k c0 Z t1 A9 (n1 + 1) c9 (V1 ++ [⟨1, 0, []⟩]) w h h2)
  rw [mayRow_more hy.out (by simp)] at HM1
  have HM2 := Lib.hid (fun w h h2 => row_may A0 k c0 Z t1 (some ⟨g11, 0, none⟩) n1 c11 (V1.set kk ⟨d3, 0, []⟩) w h h2)
  rw [mayRow_other hy.out hph.out hd3.out.symm] at HM2
  have HM4 := Lib.hid (fun w h h2 => row_may none 0 0 [] t1 (some ⟨g, o, none⟩) n1 c1 V1 w h h2)
  rw [mayRow_none] at HM4
  clear hW13 ho9d hw13 ho9c ho11c hGa12 hA12 hGb12 bl12 b9z h9 hwg hGa11 hA11 hGb11 ho9b bl11 ho11 hk11 hE10 hz10 bl10 bl10a hGa9 hGb9 hA9 b9 ho9 hR9 hk9 b8 b8a ho8 hk8 b7a h17 hA hGa hGb hp3 o11 bl9 hd3 hal hg11 hg11b
  have aq0 := hA13.cell 0 (v := .int .i64 t1) rfl
  have aq1 := hA13.cell 1 (v := .slice (some ⟨g, o, none⟩) n1 c1) rfl
  have bq0 := hGa13.cell 0 (v := .int .i64 t1) rfl
  have bq1 := hGa13.cell 1 (v := .slice A9 (n1 + 1) c9) rfl
  have cq0 := hGb13.cell 0 (v := .int .i64 t1) rfl
  have cq1 := hGb13.cell 1 (v := .slice (some ⟨g11, 0, none⟩) n1 c11) rfl
  go_wp2_with fail
  refine (first16_any _).mono ?_
  rintro e w14 ⟨rfl, e3⟩
  replace bl13 := Below.next bl13 e3 (Nat.le_refl _)
  replace hA13 := hA13.below e3 hA13.lt
  replace hGa13 := hGa13.below e3 hGa13.lt
  replace hGb13 := hGb13.below e3 hGb13.lt
  replace hR9d := hR9d.below e3
  replace hR13 := hR13.below e3
  clear e3 aq0 aq1 bq0 bq1 cq0 cq1
  have aq0 := hA13.cell 0 (v := .int .i64 t1) rfl
  have aq1 := hA13.cell 1 (v := .slice (some ⟨g, o, none⟩) n1 c1) rfl
  have bq0 := hGa13.cell 0 (v := .int .i64 t1) rfl
  have bq1 := hGa13.cell 1 (v := .slice A9 (n1 + 1) c9) rfl
  have cq0 := hGb13.cell 0 (v := .int .i64 t1) rfl
  have cq1 := hGb13.cell 1 (v := .slice (some ⟨g11, 0, none⟩) n1 c11) rfl
  go_wp2_with fail
  refine (HM1.out _ (h00.out.below bl13) hR9d).mono ?_
  rintro e w15 ⟨rfl, e3⟩
  replace bl13 := Below.next bl13 e3 (Nat.le_refl _)
  replace hA13 := hA13.below e3 hA13.lt
  replace hGa13 := hGa13.below e3 hGa13.lt
  replace hGb13 := hGb13.below e3 hGb13.lt
  replace hR9d := hR9d.below e3
  replace hR13 := hR13.below e3
  clear e3 aq0 aq1 bq0 bq1 cq0 cq1
  have aq0 := hA13.cell 0 (v := .int .i64 t1) rfl
  have aq1 := hA13.cell 1 (v := .slice (some ⟨g, o, none⟩) n1 c1) rfl
  have bq0 := hGa13.cell 0 (v := .int .i64 t1) rfl
  have bq1 := hGa13.cell 1 (v := .slice A9 (n1 + 1) c9) rfl
  have cq0 := hGb13.cell 0 (v := .int .i64 t1) rfl
  have cq1 := hGb13.cell 1 (v := .slice (some ⟨g11, 0, none⟩) n1 c11) rfl
  go_wp2_with fail
  refine (HM2.out _ (h00.out.below bl13) hR13).mono ?_
  rintro e w16 ⟨rfl, e3⟩
  replace bl13 := Below.next bl13 e3 (Nat.le_refl _)
  replace hA13 := hA13.below e3 hA13.lt
  replace hGa13 := hGa13.below e3 hGa13.lt
  replace hGb13 := hGb13.below e3 hGb13.lt
  replace hR9d := hR9d.below e3
  replace hR13 := hR13.below e3
  clear e3 aq0 aq1 bq0 bq1 cq0 cq1
  have aq0 := hA13.cell 0 (v := .int .i64 t1) rfl
  have aq1 := hA13.cell 1 (v := .slice (some ⟨g, o, none⟩) n1 c1) rfl
  have bq0 := hGa13.cell 0 (v := .int .i64 t1) rfl
  have bq1 := hGa13.cell 1 (v := .slice A9 (n1 + 1) c9) rfl
  have cq0 := hGb13.cell 0 (v := .int .i64 t1) rfl
  have cq1 := hGb13.cell 1 (v := .slice (some ⟨g11, 0, none⟩) n1 c11) rfl
  have hbuild := build_row
  go_wp2_with fail
  refine (H5.out _ (h00.out.below bl13) (h1.below bl13)).mono ?_
  rintro e w17 ⟨rfl, e3⟩
  replace bl13 := Below.next bl13 e3 (Nat.le_refl _)
  replace hA13 := hA13.below e3 hA13.lt
  replace hGa13 := hGa13.below e3 hGa13.lt
  replace hGb13 := hGb13.below e3 hGb13.lt
  replace hR9d := hR9d.below e3
  replace hR13 := hR13.below e3
  clear e3 aq0 aq1 bq0 bq1 cq0 cq1
  have aq0 := hA13.cell 0 (v := .int .i64 t1) rfl
  have aq1 := hA13.cell 1 (v := .slice (some ⟨g, o, none⟩) n1 c1) rfl
  have bq0 := hGa13.cell 0 (v := .int .i64 t1) rfl
  have bq1 := hGa13.cell 1 (v := .slice A9 (n1 + 1) c9) rfl
  have cq0 := hGb13.cell 0 (v := .int .i64 t1) rfl
  have cq1 := hGb13.cell 1 (v := .slice (some ⟨g11, 0, none⟩) n1 c11) rfl
  go_wp2_with fail
  refine (HM4.out _ (RG.none_ _) (h1.below bl13)).mono ?_
  rintro e w18 ⟨rfl, e3⟩
  replace bl13 := Below.next bl13 e3 (Nat.le_refl _)
  replace hA13 := hA13.below e3 hA13.lt
  replace hGa13 := hGa13.below e3 hGa13.lt
  replace hGb13 := hGb13.below e3 hGb13.lt
  replace hR9d := hR9d.below e3
  replace hR13 := hR13.below e3
  clear e3 aq0 aq1 bq0 bq1 cq0 cq1
  go_wp2
  go_ret
  exact ⟨rfl, bl13⟩
end Go.Proofs.Ytfldmejjepakeaa
