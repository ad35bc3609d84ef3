/- RowBack: the walk. -/
import Derived.Test.YtfldmejjepakeaaRwL
namespace Go.Proofs.Ytfldmejjepakeaa
open Go.ChangeShapes Go.WideShapes Go.ChangeAt Go.RowKit
open Go.ChangeMaps (open_string shut_string)
set_option linter.unusedVariables false
set_option linter.unusedSimpArgs false
set_option maxRecDepth 100000
open Go.Deep

theorem RR.two {W : World} {g ty : Nat} {t1 t2 : Int} {A1 A2 : Option Addr} {n1 c1 n2 c2 : Nat} {V1 V2 : List ValR} (h : Blk W g #[.int .i64 t1, .slice A1 n1 c1, .int .i64 t2, .slice A2 n2 c2] ty) (h1 : RV W A1 n1 c1 V1) (h2 : RV W A2 n2 c2 V2) : RR W (some ⟨g, 0, none⟩) 2 2 [⟨t1, V1⟩, ⟨t2, V2⟩] := by
  refine ⟨rfl, Nat.le_refl _, (by decide), (fun h => by cases h), fun _ => ⟨g, 0, rfl, fun i q hq => ?_⟩⟩
  match i with
  | 0 => simp at hq; subst hq; exact ⟨A1, n1, c1, h1, h.cell 0 rfl, h.cell 1 rfl⟩
  | 1 => simp at hq; subst hq; exact ⟨A2, n2, c2, h2, h.cell 2 rfl, h.cell 3 rfl⟩
  | i + 2 => simp at hq
theorem RR.one {W : World} {g ty : Nat} {t1 : Int} {A1 : Option Addr} {n1 c1 : Nat} {V1 : List ValR} (h : Blk W g #[.int .i64 t1, .slice A1 n1 c1] ty) (h1 : RV W A1 n1 c1 V1) : RR W (some ⟨g, 0, none⟩) 1 1 [⟨t1, V1⟩] := by
  refine ⟨rfl, Nat.le_refl _, (by decide), (fun h => by cases h), fun _ => ⟨g, 0, rfl, fun i q hq => ?_⟩⟩
  match i with
  | 0 => simp at hq; subst hq; exact ⟨A1, n1, c1, h1, h.cell 0 rfl, h.cell 1 rfl⟩
  | i + 1 => simp at hq
theorem sameR_iff {a b : RowR} : sameR a b = true ↔ a = b := by
  constructor
  · intro h
    unfold sameR at h
    rw [Bool.and_eq_true, beq_iff_eq, allV_iff] at h
    obtain ⟨t, V⟩ := a
    obtain ⟨t', V'⟩ := b
    simp only at h
    rw [h.1, h.2]
  · rintro rfl
    exact sameR_self a
/-- Two rows of one text are alike. -/
theorem rowT_inj {a b : RowR} (ha : rowE a = 0) (hb : rowE b = 0) (na : ∀ v ∈ a.V, N64 v.n) (nb : ∀ v ∈ b.V, N64 v.n) : (rowT a == rowT b) = sameR a b := by
  rw [Bool.eq_iff_iff, beq_iff_eq, sameR_iff]
  constructor
  · intro h
    have h1 := decR_back ha na
    rw [h, decR_back hb nb] at h1
    injection h1 with h1
    exact h1.symm
  · intro h; rw [h]
/-- What is read has a text: the bytes; or nothing is read. -/
theorem decR_cases (b : List UInt8) : (∃ r, decR b = (r, 0) ∧ rowE r = 0 ∧ rowT r = b) ∨ decR b = (⟨0, []⟩, 2) := by
  unfold decR
  split
  · rename_i h
    exact .inl ⟨_, rfl, h.2.1, by unfold rowT; rw [if_pos h.2.1, h.2.2]⟩
  · exact .inr rfl
set_option maxHeartbeats 8000000 in
theorem back16 (t1 : Int) (A1 : Option Addr) (n1 c1 : Nat) (V1 : List ValR) (t2 : Int) (A2 : Option Addr) (n2 c2 : Nat) (V2 : List ValR) (A3 : Option Addr) (n3 c3 : Nat) (b : List UInt8) (w : World) (h1 : RV w A1 n1 c1 V1) (h2 : RV w A2 n2 c2 V2) (h3 : RB w A3 n3 c3 b) (r1 : ∀ v ∈ V1, N64 v.n) (r2 : ∀ v ∈ V2, N64 v.n) :
    Calls Try.prog 4 #[.agg #[.int .i64 t1, .slice A1 n1 c1], .agg #[.int .i64 t2, .slice A2 n2 c2], .slice A3 n3 c3] w fun e w' => e = .returned (.bool true) ∧ Below w.heap.size w w' := by
  have hnm : n3 ≤ maxLen := Nat.le_trans h3.cap h3.max
  unfold maxLen at hnm
  have hA := (Blk.new w #[.int .i64 t1, .slice A1 n1 c1] 26).alloc (.cells #[.int .i64 t2, .slice A2 n2 c2] 26)
  have hC := Blk.new2 w (.cells #[.int .i64 t1, .slice A1 n1 c1] 26) #[.int .i64 t2, .slice A2 n2 c2] 26
  have bl : Below w.heap.size w ((w.alloc (.cells #[.int .i64 t1, .slice A1 n1 c1] 26)).alloc (.cells #[.int .i64 t2, .slice A2 n2 c2] 26)) := (by repeat (first | exact Below.refl _ _ | assumption | apply below_drewN' | apply Below.drew | refine Below.alloc ?_ (by first | omega | (simp; done) | (simp; omega)) _ | refine Below.setCell ?_ (by first | omega | (simp; done) | (simp; omega)) _))
  have hinj := Lib.hid (fun ha hb => rowT_inj (a := ⟨t1, V1⟩) (b := ⟨t2, V2⟩) ha hb r1 r2)
  have hbk := Lib.hid (fun ha => decR_back (r := ⟨t1, V1⟩) ha r1)
  go_enter Try.func4, Try.ntmps4
  go_wp2_with fail
  refine (first16_any _).mono ?_
  rintro e w2 ⟨rfl, e3⟩
  replace bl := Below.next bl e3 (Nat.le_refl _)
  replace hA := hA.below e3 hA.lt
  replace hC := hC.below e3 hC.lt
  clear e3
  have aq0 := hA.cell 0 (v := .int .i64 t1) rfl
  have aq1 := hA.cell 1 (v := .slice A1 n1 c1) rfl
  have cq0 := hC.cell 0 (v := .int .i64 t2) rfl
  have cq1 := hC.cell 1 (v := .slice A2 n2 c2) rfl
  have hG := Blk.new w2 #[.int .i64 t1, .slice A1 n1 c1, .int .i64 t2, .slice A2 n2 c2] 26
  have bg : Below w2.heap.size w2 (w2.alloc (.cells #[.int .i64 t1, .slice A1 n1 c1, .int .i64 t2, .slice A2 n2 c2] 26)) := (by repeat (first | exact Below.refl _ _ | assumption | apply below_drewN' | apply Below.drew | refine Below.alloc ?_ (by first | omega | (simp; done) | (simp; omega)) _ | refine Below.setCell ?_ (by first | omega | (simp; done) | (simp; omega)) _))
  have hRR := Lib.hid (RR.two hG ((h1.below bl).below bg) ((h2.below bl).below bg))
  replace bl := Below.next bl bg (Nat.le_refl _)
  replace hA := hA.below bg hA.lt
  replace hC := hC.below bg hC.lt
  clear hG bg
  go_wp2_with fail
  refine (few16_any _ 2 2 _ _ hRR.out).mono ?_
  rintro e w3 ⟨⟨f, rfl⟩, e3⟩
  replace bl := Below.next bl e3 (Nat.le_refl _)
  replace hA := hA.below e3 hA.lt
  replace hC := hC.below e3 hC.lt
  clear hRR
  clear e3
  have aq0 := hA.cell 0 (v := .int .i64 t1) rfl
  have aq1 := hA.cell 1 (v := .slice A1 n1 c1) rfl
  have cq0 := hC.cell 0 (v := .int .i64 t2) rfl
  have cq1 := hC.cell 1 (v := .slice A2 n2 c2) rfl
  cases f with
  | false => (go_wp2_with fail; refine (first16_any _).mono ?_; rintro e w9 ⟨rfl, b9⟩; go_wp2; go_ret; exact ⟨rfl, Below.next bl b9 (Nat.le_refl _)⟩)
  | true =>
  by_cases hn : 1000 < n3
  · have hn2 : (1000 : Int) < (n3 : Int) := by omega
    (go_wp2_with fail; refine (first16_any _).mono ?_; rintro e w9 ⟨rfl, b9⟩; go_wp2; go_ret; exact ⟨rfl, Below.next bl b9 (Nat.le_refl _)⟩)
  have hn2 : ¬ (1000 : Int) < (n3 : Int) := by omega
  have hb3 := Lib.hid h3.len
  have H1 := Lib.hid (fun w h => row_encode t1 A1 n1 c1 V1 w h)
  have H2 := Lib.hid (fun w h => row_encode t2 A2 n2 c2 V2 w h)
  have H3 := Lib.hid (fun w h => row_decode A3 n3 c3 b w h (by omega))
  have hl1 := Lib.hid (fun h => rowT_len (r := ⟨t1, V1⟩) h)
  generalize rowE ⟨t1, V1⟩ = E1 at *
  generalize rowE ⟨t2, V2⟩ = E2 at *
  generalize rowT ⟨t1, V1⟩ = T1 at *
  generalize rowT ⟨t2, V2⟩ = T2 at *
  obtain ⟨m1, hm1⟩ : ∃ m, T1.length = m := ⟨_, rfl⟩
  obtain ⟨m2, hm2⟩ : ∃ m, T2.length = m := ⟨_, rfl⟩
  replace hm1 := Lib.hid hm1
  replace hm2 := Lib.hid hm2
  go_wp2_with fail
  refine (H1.out _ (h1.below bl)).mono ?_
  rintro e w5 ⟨v1, rfl, hv1, e3⟩
  replace bl := Below.next bl e3 (Nat.le_refl _)
  replace hA := hA.below e3 hA.lt
  replace hC := hC.below e3 hC.lt
  obtain ⟨P1, k1, rfl, hP1⟩ := hv1.sl m1 hm1.out
  clear hv1 H1
  clear e3
  have aq0 := hA.cell 0 (v := .int .i64 t1) rfl
  have aq1 := hA.cell 1 (v := .slice A1 n1 c1) rfl
  have cq0 := hC.cell 0 (v := .int .i64 t2) rfl
  have cq1 := hC.cell 1 (v := .slice A2 n2 c2) rfl
  go_wp2_with fail
  refine (H2.out _ (h2.below bl)).mono ?_
  rintro e w6 ⟨v2, rfl, hv2, e3⟩
  replace bl := Below.next bl e3 (Nat.le_refl _)
  replace hP1 := hP1.below e3
  replace hA := hA.below e3 hA.lt
  replace hC := hC.below e3 hC.lt
  obtain ⟨P2, k2, rfl, hP2⟩ := hv2.sl m2 hm2.out
  clear hv2 H2
  clear e3
  have aq0 := hA.cell 0 (v := .int .i64 t1) rfl
  have aq1 := hA.cell 1 (v := .slice A1 n1 c1) rfl
  have cq0 := hC.cell 0 (v := .int .i64 t2) rfl
  have cq1 := hC.cell 1 (v := .slice A2 n2 c2) rfl
  by_cases e0 : E1 = 0
  rotate_left
  · have f0 : (E1 == 0) = false := by rw [beq_eq_false_iff_ne]; exact e0
    clear hinj hbk hl1
    go_wp2_with fail
    have hvo := Free.val
    refine Free.wp_facts (M := [0, 1, 3, 7, 15, 31, 63, 127, 127, 511, 127, 127, 4095, 8191, 16383]) (D := [[], [(0, 60)], [(1, 61)], [(2, 62)], [(3, 63), (2, 62)], [(2, 62), (4, 64)], [(5, 65)], [(6, 66)], [(6, 66)], [(7, 67), (8, 68), (6, 66)], [(6, 66)], [(6, 66)], [(10, 70), (11, 71), (6, 66)], [(9, 69), (12, 72), (6, 66)], [(6, 66), (13, 73)]]) (outs := [14]) (soles := []) (E := [(0, 60, false), (1, 61, false), (2, 62, false), (3, 63, false), (4, 64, false), (5, 65, false), (6, 66, false), (7, 67, false), (8, 68, false), (9, 69, false), (10, 70, false), (11, 71, false), (12, 72, false), (13, 73, false), (14, 74, true)]) (N := 104) (S := (fun w' => Below w6.heap.size w6 w')) [Free.Fact.is ?_, Free.Fact.is ?_, Free.Fact.is ?_, Free.Fact.is ?_, Free.Fact.is ?_, Free.Fact.is ?_, Free.Fact.is ?_, Free.Fact.is ?_, Free.Fact.is ?_, Free.Fact.is ?_, Free.Fact.is ?_, Free.Fact.is ?_, Free.Fact.is ?_, Free.Fact.is ?_, Free.Fact.is ?_] (by kernel_rfl) (by kernel_rfl) rfl ((Below.refl _ _).drew) ?_ ?_
    rotate_left 15
    refine Free.cons ?_ ?_
    · intro w' hS; intro K hK; have ka0 := (hS.cell (p := ⟨w.heap.size, 0, none⟩) hA.lt).trans aq0; have ka1 := (hS.cell (p := ⟨w.heap.size, 1, none⟩) hA.lt).trans aq1; have ka2 := (hS.cell (p := ⟨w.heap.size + 1, 0, none⟩) hC.lt).trans cq0; have ka3 := (hS.cell (p := ⟨w.heap.size + 1, 1, none⟩) hC.lt).trans cq1; first | (refine Free.run_yes (by rfl) ?_; go_simp; refine Free.o hK hS ?_; exact rfl) | (refine Free.run_no (by rfl) (Free.o hK hS ?_); exact rfl)
    refine Free.cons ?_ ?_
    · intro w' hS; (rintro _ rfl); intro K hK; have ka0 := (hS.cell (p := ⟨w.heap.size, 0, none⟩) hA.lt).trans aq0; have ka1 := (hS.cell (p := ⟨w.heap.size, 1, none⟩) hA.lt).trans aq1; have ka2 := (hS.cell (p := ⟨w.heap.size + 1, 0, none⟩) hC.lt).trans cq0; have ka3 := (hS.cell (p := ⟨w.heap.size + 1, 1, none⟩) hC.lt).trans cq1; first | (refine Free.run_yes (by rfl) ?_; go_simp; refine Free.o hK hS ?_; exact rfl) | (refine Free.run_no (by rfl) (Free.o hK hS ?_); exact rfl)
    refine Free.cons ?_ ?_
    · intro w' hS; (rintro _ rfl); intro K hK; have ka0 := (hS.cell (p := ⟨w.heap.size, 0, none⟩) hA.lt).trans aq0; have ka1 := (hS.cell (p := ⟨w.heap.size, 1, none⟩) hA.lt).trans aq1; have ka2 := (hS.cell (p := ⟨w.heap.size + 1, 0, none⟩) hC.lt).trans cq0; have ka3 := (hS.cell (p := ⟨w.heap.size + 1, 1, none⟩) hC.lt).trans cq1; first | (refine Free.run_yes (by rfl) ?_; go_simp; refine Free.o hK hS ?_; exact rfl) | (refine Free.run_no (by rfl) (Free.o hK hS ?_); exact rfl)
    refine Free.cons ?_ ?_
    · intro w' hS; (rintro _ rfl); intro K hK; have ka0 := (hS.cell (p := ⟨w.heap.size, 0, none⟩) hA.lt).trans aq0; have ka1 := (hS.cell (p := ⟨w.heap.size, 1, none⟩) hA.lt).trans aq1; have ka2 := (hS.cell (p := ⟨w.heap.size + 1, 0, none⟩) hC.lt).trans cq0; have ka3 := (hS.cell (p := ⟨w.heap.size + 1, 1, none⟩) hC.lt).trans cq1; first | (refine Free.run_yes (by rfl) ?_; go_simp; refine Free.o hK hS ?_; exact rfl) | (refine Free.run_no (by rfl) (Free.o hK hS ?_); exact rfl)
    refine Free.cons ?_ ?_
    · intro w' hS; (rintro _ rfl); (rintro _ rfl); intro K hK; have ka0 := (hS.cell (p := ⟨w.heap.size, 0, none⟩) hA.lt).trans aq0; have ka1 := (hS.cell (p := ⟨w.heap.size, 1, none⟩) hA.lt).trans aq1; have ka2 := (hS.cell (p := ⟨w.heap.size + 1, 0, none⟩) hC.lt).trans cq0; have ka3 := (hS.cell (p := ⟨w.heap.size + 1, 1, none⟩) hC.lt).trans cq1; first | (refine Free.run_yes (by rfl) ?_; go_simp; refine Free.o hK hS ?_; exact rfl) | (refine Free.run_no (by rfl) (Free.o hK hS ?_); exact rfl)
    refine Free.cons ?_ ?_
    · intro w' hS; (rintro _ rfl); (rintro _ rfl); intro K hK; have ka0 := (hS.cell (p := ⟨w.heap.size, 0, none⟩) hA.lt).trans aq0; have ka1 := (hS.cell (p := ⟨w.heap.size, 1, none⟩) hA.lt).trans aq1; have ka2 := (hS.cell (p := ⟨w.heap.size + 1, 0, none⟩) hC.lt).trans cq0; have ka3 := (hS.cell (p := ⟨w.heap.size + 1, 1, none⟩) hC.lt).trans cq1; first | (refine Free.run_yes (by rfl) ?_; go_simp; refine Free.o hK hS ?_; exact rfl) | (refine Free.run_no (by rfl) (Free.o hK hS ?_); exact rfl)
    refine Free.cons ?_ ?_
    · intro w' hS; (rintro _ rfl); intro K hK; have ka0 := (hS.cell (p := ⟨w.heap.size, 0, none⟩) hA.lt).trans aq0; have ka1 := (hS.cell (p := ⟨w.heap.size, 1, none⟩) hA.lt).trans aq1; have ka2 := (hS.cell (p := ⟨w.heap.size + 1, 0, none⟩) hC.lt).trans cq0; have ka3 := (hS.cell (p := ⟨w.heap.size + 1, 1, none⟩) hC.lt).trans cq1; first | (refine Free.run_yes (by rfl) ?_; go_simp; refine Free.o hK hS ?_; exact rfl) | (refine Free.run_no (by rfl) (Free.o hK hS ?_); exact rfl)
    refine Free.cons ?_ ?_
    · intro w' hS; (rintro _ rfl); intro K hK; have ka0 := (hS.cell (p := ⟨w.heap.size, 0, none⟩) hA.lt).trans aq0; have ka1 := (hS.cell (p := ⟨w.heap.size, 1, none⟩) hA.lt).trans aq1; have ka2 := (hS.cell (p := ⟨w.heap.size + 1, 0, none⟩) hC.lt).trans cq0; have ka3 := (hS.cell (p := ⟨w.heap.size + 1, 1, none⟩) hC.lt).trans cq1; first | (refine Free.run_yes (by rfl) ?_; go_simp; refine Free.o hK hS ?_; exact rfl) | (refine Free.run_no (by rfl) (Free.o hK hS ?_); exact rfl)
    refine Free.cons ?_ ?_
    · intro w' hS; (rintro _ rfl); intro K hK; have ka0 := (hS.cell (p := ⟨w.heap.size, 0, none⟩) hA.lt).trans aq0; have ka1 := (hS.cell (p := ⟨w.heap.size, 1, none⟩) hA.lt).trans aq1; have ka2 := (hS.cell (p := ⟨w.heap.size + 1, 0, none⟩) hC.lt).trans cq0; have ka3 := (hS.cell (p := ⟨w.heap.size + 1, 1, none⟩) hC.lt).trans cq1; first | (refine Free.run_yes (by rfl) ?_; go_simp; refine Free.o hK hS ?_; exact rfl) | (refine Free.run_no (by rfl) (Free.o hK hS ?_); exact rfl)
    refine Free.cons ?_ ?_
    · intro w' hS; (rintro _ rfl); (rintro _ rfl); (rintro _ rfl); intro K hK; have ka0 := (hS.cell (p := ⟨w.heap.size, 0, none⟩) hA.lt).trans aq0; have ka1 := (hS.cell (p := ⟨w.heap.size, 1, none⟩) hA.lt).trans aq1; have ka2 := (hS.cell (p := ⟨w.heap.size + 1, 0, none⟩) hC.lt).trans cq0; have ka3 := (hS.cell (p := ⟨w.heap.size + 1, 1, none⟩) hC.lt).trans cq1; first | (refine Free.run_yes (by rfl) ?_; go_simp; (first | (go_at_call 20; refine (HB.out _ (hP1.below hS) (hP2.below hS)).mono ?_; rintro e w' ⟨rfl, hb⟩) | (go_at_call 19; refine (HS.out _ (h1.below (bl.trans (hS.mono bl.size))) (h2.below (bl.trans (hS.mono bl.size)))).mono ?_; rintro e w' ⟨rfl, hb⟩)); go_simp; refine Free.c hK (keep hS hb) hb ?_; exact rfl) | (refine Free.run_no (by rfl) (Free.o hK hS ?_); exact rfl)
    refine Free.cons ?_ ?_
    · intro w' hS; (rintro _ rfl); intro K hK; have ka0 := (hS.cell (p := ⟨w.heap.size, 0, none⟩) hA.lt).trans aq0; have ka1 := (hS.cell (p := ⟨w.heap.size, 1, none⟩) hA.lt).trans aq1; have ka2 := (hS.cell (p := ⟨w.heap.size + 1, 0, none⟩) hC.lt).trans cq0; have ka3 := (hS.cell (p := ⟨w.heap.size + 1, 1, none⟩) hC.lt).trans cq1; first | (refine Free.run_yes (by rfl) ?_; go_simp; refine Free.o hK hS ?_; exact rfl) | (refine Free.run_no (by rfl) (Free.o hK hS ?_); exact rfl)
    refine Free.cons ?_ ?_
    · intro w' hS; (rintro _ rfl); intro K hK; have ka0 := (hS.cell (p := ⟨w.heap.size, 0, none⟩) hA.lt).trans aq0; have ka1 := (hS.cell (p := ⟨w.heap.size, 1, none⟩) hA.lt).trans aq1; have ka2 := (hS.cell (p := ⟨w.heap.size + 1, 0, none⟩) hC.lt).trans cq0; have ka3 := (hS.cell (p := ⟨w.heap.size + 1, 1, none⟩) hC.lt).trans cq1; first | (refine Free.run_yes (by rfl) ?_; go_simp; refine Free.o hK hS ?_; exact rfl) | (refine Free.run_no (by rfl) (Free.o hK hS ?_); exact rfl)
    refine Free.cons ?_ ?_
    · intro w' hS; (rintro _ rfl); (rintro _ rfl); (rintro _ rfl); intro K hK; have ka0 := (hS.cell (p := ⟨w.heap.size, 0, none⟩) hA.lt).trans aq0; have ka1 := (hS.cell (p := ⟨w.heap.size, 1, none⟩) hA.lt).trans aq1; have ka2 := (hS.cell (p := ⟨w.heap.size + 1, 0, none⟩) hC.lt).trans cq0; have ka3 := (hS.cell (p := ⟨w.heap.size + 1, 1, none⟩) hC.lt).trans cq1; first | (refine Free.run_yes (by rfl) ?_; go_simp; (first | (go_at_call 20; refine (HB.out _ (hP1.below hS) (hP2.below hS)).mono ?_; rintro e w' ⟨rfl, hb⟩) | (go_at_call 19; refine (HS.out _ (h1.below (bl.trans (hS.mono bl.size))) (h2.below (bl.trans (hS.mono bl.size)))).mono ?_; rintro e w' ⟨rfl, hb⟩)); go_simp; refine Free.c hK (keep hS hb) hb ?_; exact rfl) | (refine Free.run_no (by rfl) (Free.o hK hS ?_); exact rfl)
    refine Free.cons ?_ ?_
    · intro w' hS; (rintro _ rfl); (rintro _ rfl); (rintro _ rfl); intro K hK; have ka0 := (hS.cell (p := ⟨w.heap.size, 0, none⟩) hA.lt).trans aq0; have ka1 := (hS.cell (p := ⟨w.heap.size, 1, none⟩) hA.lt).trans aq1; have ka2 := (hS.cell (p := ⟨w.heap.size + 1, 0, none⟩) hC.lt).trans cq0; have ka3 := (hS.cell (p := ⟨w.heap.size + 1, 1, none⟩) hC.lt).trans cq1; first | (refine Free.run_yes (by rfl) ?_; go_simp; refine Free.o hK hS ?_; exact rfl) | (refine Free.run_no (by rfl) (Free.o hK hS ?_); exact rfl)
    refine Free.cons ?_ ?_
    · intro w' hS; (rintro _ rfl); (rintro _ rfl); intro K hK; have ka0 := (hS.cell (p := ⟨w.heap.size, 0, none⟩) hA.lt).trans aq0; have ka1 := (hS.cell (p := ⟨w.heap.size, 1, none⟩) hA.lt).trans aq1; have ka2 := (hS.cell (p := ⟨w.heap.size + 1, 0, none⟩) hC.lt).trans cq0; have ka3 := (hS.cell (p := ⟨w.heap.size + 1, 1, none⟩) hC.lt).trans cq1; first | (refine Free.run_yes (by rfl) ?_; go_simp; refine Free.o hK hS ?_; exact rfl) | (refine Free.run_no (by rfl) (Free.o hK hS ?_); exact rfl)
    exact Free.nil
    clear hvo
    intro w' hS; intro v0; intro v1; intro v2; intro v3; intro v4; intro v5; intro v6; intro v7; intro v8; intro v9; intro v10; intro v11; intro v12; intro v13; (rintro _ rfl); (try simp only [Act.put, List.setIfInBounds_toArray, List.set_cons_zero, List.set_cons_succ]); refine Free.toldE_nil ?_
    replace bl := Below.next bl hS (Nat.le_refl _)
    clear hS hA hC aq0 aq1 cq0 cq1
    rcases decR_cases b with ⟨⟨t9, V9⟩, hd, hE9, hT9⟩ | hd
    · rw [hd] at H3
      have H6 := Lib.hid (fun A n c w (h : RV w A n c V9) => (show Calls Try.prog 18 #[.agg #[.int .i64 t9, .slice A n c]] w fun e w' => ∃ v, e = .returned (.tuple #[v, .int .i64 0]) ∧ RBv w' v b ∧ Below w.heap.size w w' from by have := row_encode t9 A n c V9 w h; rw [hE9, hT9] at this; exact this))
      clear hd hE9 hT9
      go_wp2_with fail
      refine (H3.out _ (h3.below bl)).mono ?_
      rintro e w10 ⟨A9, n9, c9, rfl, hR9, e3⟩
      replace bl := Below.next bl e3 (Nat.le_refl _)
      clear H3
      clear e3
      have hX9 := Blk.new w10 #[.int .i64 t9, .slice A9 n9 c9] 26
      have b9 : Below w10.heap.size w10 (w10.alloc (.cells #[.int .i64 t9, .slice A9 n9 c9] 26)) := (by repeat (first | exact Below.refl _ _ | assumption | apply below_drewN' | apply Below.drew | refine Below.alloc ?_ (by first | omega | (simp; done) | (simp; omega)) _ | refine Below.setCell ?_ (by first | omega | (simp; done) | (simp; omega)) _))
      replace hR9 := Lib.hid (hR9.below b9)
      replace bl := Below.next bl b9 (Nat.le_refl _)
      clear b9
      go_wp2_with fail
      refine (H6.out _ _ _ _ hR9.out).mono ?_
      rintro e w11 ⟨v11, rfl, hv11, e3⟩
      replace bl := Below.next bl e3 (Nat.le_refl _)
      obtain ⟨P9, k9, rfl, hP9⟩ := hv11.sl n3 hb3.out
      clear hv11 H6 hX9
      clear e3
      go_wp2_with fail
      refine (first16_any _).mono ?_
      rintro e w12 ⟨rfl, e3⟩
      replace bl := Below.next bl e3 (Nat.le_refl _)
      replace hP9 := hP9.below e3
      clear e3
      have hB := ref_Bytes P9 A3 n3 k9 n3 c3 b b _ hP9 (h3.below bl)
      rw [beq_self_eq_true] at hB
      go_wp2_with fail
      refine hB.mono ?_
      rintro e w13 ⟨rfl, rfl⟩
      go_wp2
      go_ret
      exact ⟨rfl, bl⟩
    · rw [hd] at H3
      clear hd
      go_wp2_with fail
      refine (H3.out _ (h3.below bl)).mono ?_
      rintro e w10 ⟨A9, n9, c9, rfl, hR9, e3⟩
      replace bl := Below.next bl e3 (Nat.le_refl _)
      clear H3
      have hz9 : 0 = n9 := hR9.len
      subst hz9
      clear hR9
      clear e3
      have hX9 := Blk.new w10 #[.int .i64 0, .slice A9 0 c9] 26
      have b9 : Below w10.heap.size w10 (w10.alloc (.cells #[.int .i64 0, .slice A9 0 c9] 26)) := (by repeat (first | exact Below.refl _ _ | assumption | apply below_drewN' | apply Below.drew | refine Below.alloc ?_ (by first | omega | (simp; done) | (simp; omega)) _ | refine Below.setCell ?_ (by first | omega | (simp; done) | (simp; omega)) _))
      replace bl := Below.next bl b9 (Nat.le_refl _)
      clear b9
      go_wp2_with fail
      refine (first16_any _).mono ?_
      rintro e w12 ⟨rfl, e3⟩
      replace bl := Below.next bl e3 (Nat.le_refl _)
      have xq0 := hX9.below e3 hX9.lt
      have xq1 := xq0.cell 1 (v := .slice A9 0 c9) rfl
      clear xq0
      clear e3
      go_wp2
      go_ret
      exact ⟨rfl, bl⟩
  subst e0
  replace hbk := Lib.hid (hbk.out rfl)
  obtain rfl : m1 = 37 := by rw [← hm1.out]; exact hl1.out rfl
  have H4 := Lib.hid (fun w (h : RB w P1 37 k1 T1) => (show Calls Try.prog 14 #[.slice P1 37 k1] w fun e w' => ∃ A' n' c', e = .returned (.tuple #[.agg #[.int .i64 t1, .slice A' n' c'], .int .i64 0]) ∧ RV w' A' n' c' V1 ∧ Below w.heap.size w w' from by have := row_decode P1 37 k1 T1 w h (by omega); rw [hbk.out] at this; exact this))
  go_wp2_with fail
  refine (H4.out _ hP1).mono ?_
  rintro e w7 ⟨A7, n7, c7, rfl, hR7, e3⟩
  replace bl := Below.next bl e3 (Nat.le_refl _)
  replace hP1 := hP1.below e3
  replace hP2 := hP2.below e3
  replace hA := hA.below e3 hA.lt
  replace hC := hC.below e3 hC.lt
  clear H4
  clear e3
  have aq0 := hA.cell 0 (v := .int .i64 t1) rfl
  have aq1 := hA.cell 1 (v := .slice A1 n1 c1) rfl
  have cq0 := hC.cell 0 (v := .int .i64 t2) rfl
  have cq1 := hC.cell 1 (v := .slice A2 n2 c2) rfl
  have hX7 := Blk.new w7 #[.int .i64 t1, .slice A7 n7 c7] 26
  have b7 : Below w7.heap.size w7 (w7.alloc (.cells #[.int .i64 t1, .slice A7 n7 c7] 26)) := (by repeat (first | exact Below.refl _ _ | assumption | apply below_drewN' | apply Below.drew | refine Below.alloc ?_ (by first | omega | (simp; done) | (simp; omega)) _ | refine Below.setCell ?_ (by first | omega | (simp; done) | (simp; omega)) _))
  have H5 := Lib.hid (fun w (h : RV w A7 n7 c7 V1) (h2 : RV w A1 n1 c1 V1) => row_same t1 A7 n7 c7 V1 t1 A1 n1 c1 V1 true w h h2 (sameR_self _))
  replace hR7 := Lib.hid (hR7.below b7)
  replace bl := Below.next bl b7 (Nat.le_refl _)
  replace hA := hA.below b7 hA.lt
  replace hC := hC.below b7 hC.lt
  replace hP1 := hP1.below b7
  replace hP2 := hP2.below b7
  clear b7
  have aq0 := hA.cell 0 (v := .int .i64 t1) rfl
  have aq1 := hA.cell 1 (v := .slice A1 n1 c1) rfl
  have cq0 := hC.cell 0 (v := .int .i64 t2) rfl
  have cq1 := hC.cell 1 (v := .slice A2 n2 c2) rfl
  go_wp2_with fail
  refine (H5.out _ hR7.out (h1.below bl)).mono ?_
  rintro e w8 ⟨rfl, e3⟩
  replace bl := Below.next bl e3 (Nat.le_refl _)
  replace hP1 := hP1.below e3
  replace hP2 := hP2.below e3
  replace hA := hA.below e3 hA.lt
  replace hC := hC.below e3 hC.lt
  clear H5 hR7
  clear e3
  have aq0 := hA.cell 0 (v := .int .i64 t1) rfl
  have aq1 := hA.cell 1 (v := .slice A1 n1 c1) rfl
  have cq0 := hC.cell 0 (v := .int .i64 t2) rfl
  have cq1 := hC.cell 1 (v := .slice A2 n2 c2) rfl
  by_cases e9 : E2 = 0
  rotate_left
  · have f2 : (E2 == 0) = false := by rw [beq_eq_false_iff_ne]; exact e9
    clear hinj
    go_wp2_with fail
    have hvo := Free.val
    refine Free.wp_facts (M := [0, 1, 3, 7, 15, 31, 63, 127, 127, 511, 127, 127, 4095, 8191, 16383]) (D := [[], [(0, 60)], [(1, 61)], [(2, 62)], [(3, 63), (2, 62)], [(2, 62), (4, 64)], [(5, 65)], [(6, 66)], [(6, 66)], [(7, 67), (8, 68), (6, 66)], [(6, 66)], [(6, 66)], [(10, 70), (11, 71), (6, 66)], [(9, 69), (12, 72), (6, 66)], [(6, 66), (13, 73)]]) (outs := [14]) (soles := []) (E := [(0, 60, false), (1, 61, false), (2, 62, false), (3, 63, false), (4, 64, false), (5, 65, false), (6, 66, false), (7, 67, false), (8, 68, false), (9, 69, false), (10, 70, false), (11, 71, false), (12, 72, false), (13, 73, false), (14, 74, true)]) (N := 104) (S := (fun w' => Below w8.heap.size w8 w')) [Free.Fact.is ?_, Free.Fact.is ?_, Free.Fact.is ?_, Free.Fact.is ?_, Free.Fact.is ?_, Free.Fact.is ?_, Free.Fact.is ?_, Free.Fact.is ?_, Free.Fact.is ?_, Free.Fact.is ?_, Free.Fact.is ?_, Free.Fact.is ?_, Free.Fact.is ?_, Free.Fact.is ?_, Free.Fact.is ?_] (by kernel_rfl) (by kernel_rfl) rfl ((Below.refl _ _).drew) ?_ ?_
    rotate_left 15
    refine Free.cons ?_ ?_
    · intro w' hS; intro K hK; have ka0 := (hS.cell (p := ⟨w.heap.size, 0, none⟩) hA.lt).trans aq0; have ka1 := (hS.cell (p := ⟨w.heap.size, 1, none⟩) hA.lt).trans aq1; have ka2 := (hS.cell (p := ⟨w.heap.size + 1, 0, none⟩) hC.lt).trans cq0; have ka3 := (hS.cell (p := ⟨w.heap.size + 1, 1, none⟩) hC.lt).trans cq1; first | (refine Free.run_yes (by rfl) ?_; go_simp; refine Free.o hK hS ?_; exact rfl) | (refine Free.run_no (by rfl) (Free.o hK hS ?_); exact rfl)
    refine Free.cons ?_ ?_
    · intro w' hS; (rintro _ rfl); intro K hK; have ka0 := (hS.cell (p := ⟨w.heap.size, 0, none⟩) hA.lt).trans aq0; have ka1 := (hS.cell (p := ⟨w.heap.size, 1, none⟩) hA.lt).trans aq1; have ka2 := (hS.cell (p := ⟨w.heap.size + 1, 0, none⟩) hC.lt).trans cq0; have ka3 := (hS.cell (p := ⟨w.heap.size + 1, 1, none⟩) hC.lt).trans cq1; first | (refine Free.run_yes (by rfl) ?_; go_simp; refine Free.o hK hS ?_; exact rfl) | (refine Free.run_no (by rfl) (Free.o hK hS ?_); exact rfl)
    refine Free.cons ?_ ?_
    · intro w' hS; (rintro _ rfl); intro K hK; have ka0 := (hS.cell (p := ⟨w.heap.size, 0, none⟩) hA.lt).trans aq0; have ka1 := (hS.cell (p := ⟨w.heap.size, 1, none⟩) hA.lt).trans aq1; have ka2 := (hS.cell (p := ⟨w.heap.size + 1, 0, none⟩) hC.lt).trans cq0; have ka3 := (hS.cell (p := ⟨w.heap.size + 1, 1, none⟩) hC.lt).trans cq1; first | (refine Free.run_yes (by rfl) ?_; go_simp; refine Free.o hK hS ?_; exact rfl) | (refine Free.run_no (by rfl) (Free.o hK hS ?_); exact rfl)
    refine Free.cons ?_ ?_
    · intro w' hS; (rintro _ rfl); intro K hK; have ka0 := (hS.cell (p := ⟨w.heap.size, 0, none⟩) hA.lt).trans aq0; have ka1 := (hS.cell (p := ⟨w.heap.size, 1, none⟩) hA.lt).trans aq1; have ka2 := (hS.cell (p := ⟨w.heap.size + 1, 0, none⟩) hC.lt).trans cq0; have ka3 := (hS.cell (p := ⟨w.heap.size + 1, 1, none⟩) hC.lt).trans cq1; first | (refine Free.run_yes (by rfl) ?_; go_simp; refine Free.o hK hS ?_; exact rfl) | (refine Free.run_no (by rfl) (Free.o hK hS ?_); exact rfl)
    refine Free.cons ?_ ?_
    · intro w' hS; (rintro _ rfl); (rintro _ rfl); intro K hK; have ka0 := (hS.cell (p := ⟨w.heap.size, 0, none⟩) hA.lt).trans aq0; have ka1 := (hS.cell (p := ⟨w.heap.size, 1, none⟩) hA.lt).trans aq1; have ka2 := (hS.cell (p := ⟨w.heap.size + 1, 0, none⟩) hC.lt).trans cq0; have ka3 := (hS.cell (p := ⟨w.heap.size + 1, 1, none⟩) hC.lt).trans cq1; first | (refine Free.run_yes (by rfl) ?_; go_simp; refine Free.o hK hS ?_; exact rfl) | (refine Free.run_no (by rfl) (Free.o hK hS ?_); exact rfl)
    refine Free.cons ?_ ?_
    · intro w' hS; (rintro _ rfl); (rintro _ rfl); intro K hK; have ka0 := (hS.cell (p := ⟨w.heap.size, 0, none⟩) hA.lt).trans aq0; have ka1 := (hS.cell (p := ⟨w.heap.size, 1, none⟩) hA.lt).trans aq1; have ka2 := (hS.cell (p := ⟨w.heap.size + 1, 0, none⟩) hC.lt).trans cq0; have ka3 := (hS.cell (p := ⟨w.heap.size + 1, 1, none⟩) hC.lt).trans cq1; first | (refine Free.run_yes (by rfl) ?_; go_simp; refine Free.o hK hS ?_; exact rfl) | (refine Free.run_no (by rfl) (Free.o hK hS ?_); exact rfl)
    refine Free.cons ?_ ?_
    · intro w' hS; (rintro _ rfl); intro K hK; have ka0 := (hS.cell (p := ⟨w.heap.size, 0, none⟩) hA.lt).trans aq0; have ka1 := (hS.cell (p := ⟨w.heap.size, 1, none⟩) hA.lt).trans aq1; have ka2 := (hS.cell (p := ⟨w.heap.size + 1, 0, none⟩) hC.lt).trans cq0; have ka3 := (hS.cell (p := ⟨w.heap.size + 1, 1, none⟩) hC.lt).trans cq1; first | (refine Free.run_yes (by rfl) ?_; go_simp; refine Free.o hK hS ?_; exact rfl) | (refine Free.run_no (by rfl) (Free.o hK hS ?_); exact rfl)
    refine Free.cons ?_ ?_
    · intro w' hS; (rintro _ rfl); intro K hK; have ka0 := (hS.cell (p := ⟨w.heap.size, 0, none⟩) hA.lt).trans aq0; have ka1 := (hS.cell (p := ⟨w.heap.size, 1, none⟩) hA.lt).trans aq1; have ka2 := (hS.cell (p := ⟨w.heap.size + 1, 0, none⟩) hC.lt).trans cq0; have ka3 := (hS.cell (p := ⟨w.heap.size + 1, 1, none⟩) hC.lt).trans cq1; first | (refine Free.run_yes (by rfl) ?_; go_simp; refine Free.o hK hS ?_; exact rfl) | (refine Free.run_no (by rfl) (Free.o hK hS ?_); exact rfl)
    refine Free.cons ?_ ?_
    · intro w' hS; (rintro _ rfl); intro K hK; have ka0 := (hS.cell (p := ⟨w.heap.size, 0, none⟩) hA.lt).trans aq0; have ka1 := (hS.cell (p := ⟨w.heap.size, 1, none⟩) hA.lt).trans aq1; have ka2 := (hS.cell (p := ⟨w.heap.size + 1, 0, none⟩) hC.lt).trans cq0; have ka3 := (hS.cell (p := ⟨w.heap.size + 1, 1, none⟩) hC.lt).trans cq1; first | (refine Free.run_yes (by rfl) ?_; go_simp; refine Free.o hK hS ?_; exact rfl) | (refine Free.run_no (by rfl) (Free.o hK hS ?_); exact rfl)
    refine Free.cons ?_ ?_
    · intro w' hS; (rintro _ rfl); (rintro _ rfl); (rintro _ rfl); intro K hK; have ka0 := (hS.cell (p := ⟨w.heap.size, 0, none⟩) hA.lt).trans aq0; have ka1 := (hS.cell (p := ⟨w.heap.size, 1, none⟩) hA.lt).trans aq1; have ka2 := (hS.cell (p := ⟨w.heap.size + 1, 0, none⟩) hC.lt).trans cq0; have ka3 := (hS.cell (p := ⟨w.heap.size + 1, 1, none⟩) hC.lt).trans cq1; first | (refine Free.run_yes (by rfl) ?_; go_simp; (first | (go_at_call 20; refine (HB.out _ (hP1.below hS) (hP2.below hS)).mono ?_; rintro e w' ⟨rfl, hb⟩) | (go_at_call 19; refine (HS.out _ (h1.below (bl.trans (hS.mono bl.size))) (h2.below (bl.trans (hS.mono bl.size)))).mono ?_; rintro e w' ⟨rfl, hb⟩)); go_simp; refine Free.c hK (keep hS hb) hb ?_; exact rfl) | (refine Free.run_no (by rfl) (Free.o hK hS ?_); exact rfl)
    refine Free.cons ?_ ?_
    · intro w' hS; (rintro _ rfl); intro K hK; have ka0 := (hS.cell (p := ⟨w.heap.size, 0, none⟩) hA.lt).trans aq0; have ka1 := (hS.cell (p := ⟨w.heap.size, 1, none⟩) hA.lt).trans aq1; have ka2 := (hS.cell (p := ⟨w.heap.size + 1, 0, none⟩) hC.lt).trans cq0; have ka3 := (hS.cell (p := ⟨w.heap.size + 1, 1, none⟩) hC.lt).trans cq1; first | (refine Free.run_yes (by rfl) ?_; go_simp; refine Free.o hK hS ?_; exact rfl) | (refine Free.run_no (by rfl) (Free.o hK hS ?_); exact rfl)
    refine Free.cons ?_ ?_
    · intro w' hS; (rintro _ rfl); intro K hK; have ka0 := (hS.cell (p := ⟨w.heap.size, 0, none⟩) hA.lt).trans aq0; have ka1 := (hS.cell (p := ⟨w.heap.size, 1, none⟩) hA.lt).trans aq1; have ka2 := (hS.cell (p := ⟨w.heap.size + 1, 0, none⟩) hC.lt).trans cq0; have ka3 := (hS.cell (p := ⟨w.heap.size + 1, 1, none⟩) hC.lt).trans cq1; first | (refine Free.run_yes (by rfl) ?_; go_simp; refine Free.o hK hS ?_; exact rfl) | (refine Free.run_no (by rfl) (Free.o hK hS ?_); exact rfl)
    refine Free.cons ?_ ?_
    · intro w' hS; (rintro _ rfl); (rintro _ rfl); (rintro _ rfl); intro K hK; have ka0 := (hS.cell (p := ⟨w.heap.size, 0, none⟩) hA.lt).trans aq0; have ka1 := (hS.cell (p := ⟨w.heap.size, 1, none⟩) hA.lt).trans aq1; have ka2 := (hS.cell (p := ⟨w.heap.size + 1, 0, none⟩) hC.lt).trans cq0; have ka3 := (hS.cell (p := ⟨w.heap.size + 1, 1, none⟩) hC.lt).trans cq1; first | (refine Free.run_yes (by rfl) ?_; go_simp; (first | (go_at_call 20; refine (HB.out _ (hP1.below hS) (hP2.below hS)).mono ?_; rintro e w' ⟨rfl, hb⟩) | (go_at_call 19; refine (HS.out _ (h1.below (bl.trans (hS.mono bl.size))) (h2.below (bl.trans (hS.mono bl.size)))).mono ?_; rintro e w' ⟨rfl, hb⟩)); go_simp; refine Free.c hK (keep hS hb) hb ?_; exact rfl) | (refine Free.run_no (by rfl) (Free.o hK hS ?_); exact rfl)
    refine Free.cons ?_ ?_
    · intro w' hS; (rintro _ rfl); (rintro _ rfl); (rintro _ rfl); intro K hK; have ka0 := (hS.cell (p := ⟨w.heap.size, 0, none⟩) hA.lt).trans aq0; have ka1 := (hS.cell (p := ⟨w.heap.size, 1, none⟩) hA.lt).trans aq1; have ka2 := (hS.cell (p := ⟨w.heap.size + 1, 0, none⟩) hC.lt).trans cq0; have ka3 := (hS.cell (p := ⟨w.heap.size + 1, 1, none⟩) hC.lt).trans cq1; first | (refine Free.run_yes (by rfl) ?_; go_simp; refine Free.o hK hS ?_; exact rfl) | (refine Free.run_no (by rfl) (Free.o hK hS ?_); exact rfl)
    refine Free.cons ?_ ?_
    · intro w' hS; (rintro _ rfl); (rintro _ rfl); intro K hK; have ka0 := (hS.cell (p := ⟨w.heap.size, 0, none⟩) hA.lt).trans aq0; have ka1 := (hS.cell (p := ⟨w.heap.size, 1, none⟩) hA.lt).trans aq1; have ka2 := (hS.cell (p := ⟨w.heap.size + 1, 0, none⟩) hC.lt).trans cq0; have ka3 := (hS.cell (p := ⟨w.heap.size + 1, 1, none⟩) hC.lt).trans cq1; first | (refine Free.run_yes (by rfl) ?_; go_simp; refine Free.o hK hS ?_; exact rfl) | (refine Free.run_no (by rfl) (Free.o hK hS ?_); exact rfl)
    exact Free.nil
    clear hvo
    intro w' hS; intro v0; intro v1; intro v2; intro v3; intro v4; intro v5; intro v6; intro v7; intro v8; intro v9; intro v10; intro v11; intro v12; intro v13; (rintro _ rfl); (try simp only [Act.put, List.setIfInBounds_toArray, List.set_cons_zero, List.set_cons_succ]); refine Free.toldE_nil ?_
    replace bl := Below.next bl hS (Nat.le_refl _)
    clear hS hA hC aq0 aq1 cq0 cq1
    rcases decR_cases b with ⟨⟨t9, V9⟩, hd, hE9, hT9⟩ | hd
    · rw [hd] at H3
      have H6 := Lib.hid (fun A n c w (h : RV w A n c V9) => (show Calls Try.prog 18 #[.agg #[.int .i64 t9, .slice A n c]] w fun e w' => ∃ v, e = .returned (.tuple #[v, .int .i64 0]) ∧ RBv w' v b ∧ Below w.heap.size w w' from by have := row_encode t9 A n c V9 w h; rw [hE9, hT9] at this; exact this))
      clear hd hE9 hT9
      go_wp2_with fail
      refine (H3.out _ (h3.below bl)).mono ?_
      rintro e w10 ⟨A9, n9, c9, rfl, hR9, e3⟩
      replace bl := Below.next bl e3 (Nat.le_refl _)
      clear H3
      clear e3
      have hX9 := Blk.new w10 #[.int .i64 t9, .slice A9 n9 c9] 26
      have b9 : Below w10.heap.size w10 (w10.alloc (.cells #[.int .i64 t9, .slice A9 n9 c9] 26)) := (by repeat (first | exact Below.refl _ _ | assumption | apply below_drewN' | apply Below.drew | refine Below.alloc ?_ (by first | omega | (simp; done) | (simp; omega)) _ | refine Below.setCell ?_ (by first | omega | (simp; done) | (simp; omega)) _))
      replace hR9 := Lib.hid (hR9.below b9)
      replace bl := Below.next bl b9 (Nat.le_refl _)
      clear b9
      go_wp2_with fail
      refine (H6.out _ _ _ _ hR9.out).mono ?_
      rintro e w11 ⟨v11, rfl, hv11, e3⟩
      replace bl := Below.next bl e3 (Nat.le_refl _)
      obtain ⟨P9, k9, rfl, hP9⟩ := hv11.sl n3 hb3.out
      clear hv11 H6 hX9
      clear e3
      go_wp2_with fail
      refine (first16_any _).mono ?_
      rintro e w12 ⟨rfl, e3⟩
      replace bl := Below.next bl e3 (Nat.le_refl _)
      replace hP9 := hP9.below e3
      clear e3
      have hB := ref_Bytes P9 A3 n3 k9 n3 c3 b b _ hP9 (h3.below bl)
      rw [beq_self_eq_true] at hB
      go_wp2_with fail
      refine hB.mono ?_
      rintro e w13 ⟨rfl, rfl⟩
      go_wp2
      go_ret
      exact ⟨rfl, bl⟩
    · rw [hd] at H3
      clear hd
      go_wp2_with fail
      refine (H3.out _ (h3.below bl)).mono ?_
      rintro e w10 ⟨A9, n9, c9, rfl, hR9, e3⟩
      replace bl := Below.next bl e3 (Nat.le_refl _)
      clear H3
      have hz9 : 0 = n9 := hR9.len
      subst hz9
      clear hR9
      clear e3
      have hX9 := Blk.new w10 #[.int .i64 0, .slice A9 0 c9] 26
      have b9 : Below w10.heap.size w10 (w10.alloc (.cells #[.int .i64 0, .slice A9 0 c9] 26)) := (by repeat (first | exact Below.refl _ _ | assumption | apply below_drewN' | apply Below.drew | refine Below.alloc ?_ (by first | omega | (simp; done) | (simp; omega)) _ | refine Below.setCell ?_ (by first | omega | (simp; done) | (simp; omega)) _))
      replace bl := Below.next bl b9 (Nat.le_refl _)
      clear b9
      go_wp2_with fail
      refine (first16_any _).mono ?_
      rintro e w12 ⟨rfl, e3⟩
      replace bl := Below.next bl e3 (Nat.le_refl _)
      have xq0 := hX9.below e3 hX9.lt
      have xq1 := xq0.cell 1 (v := .slice A9 0 c9) rfl
      clear xq0
      clear e3
      go_wp2
      go_ret
      exact ⟨rfl, bl⟩
  subst e9
  have hy := hinj.out trivial rfl
  obtain ⟨y, hy2⟩ : ∃ y, (T1 == T2) = y := ⟨_, rfl⟩
  rw [hy2] at hy
  have HB := Lib.hid (fun w (h : RB w P1 37 k1 T1) (h2 : RB w P2 m2 k2 T2) => (show Calls Try.prog 20 #[.slice P1 37 k1, .slice P2 m2 k2] w fun e w' => e = .returned (.bool y) ∧ Below w.heap.size w w' from (hy2 ▸ ref_Bytes P1 P2 37 k1 m2 k2 T1 T2 w h h2 : Calls Try.prog 20 #[.slice P1 37 k1, .slice P2 m2 k2] w fun e w' => e = .returned (.bool y) ∧ w = w').mono (fun e w' hh => ⟨hh.1, hh.2 ▸ Below.refl _ _⟩)))
  have HS := Lib.hid (fun w h h2 => row_same t1 A1 n1 c1 V1 t2 A2 n2 c2 V2 y w h h2 hy.symm)
  clear hy hy2 hinj
  go_wp2_with fail
  have hvo := Free.val
  refine Free.wp_facts (M := [0, 1, 3, 7, 15, 31, 63, 127, 127, 511, 127, 127, 4095, 8191, 16383]) (D := [[], [(0, 60)], [(1, 61)], [(2, 62)], [(3, 63), (2, 62)], [(2, 62), (4, 64)], [(5, 65)], [(6, 66)], [(6, 66)], [(7, 67), (8, 68), (6, 66)], [(6, 66)], [(6, 66)], [(10, 70), (11, 71), (6, 66)], [(9, 69), (12, 72), (6, 66)], [(6, 66), (13, 73)]]) (outs := [14]) (soles := []) (E := [(0, 60, false), (1, 61, false), (2, 62, false), (3, 63, false), (4, 64, false), (5, 65, false), (6, 66, false), (7, 67, false), (8, 68, false), (9, 69, false), (10, 70, false), (11, 71, false), (12, 72, false), (13, 73, false), (14, 74, true)]) (N := 104) (S := (fun w' => Below w8.heap.size w8 w')) [Free.Fact.is ?_, Free.Fact.is ?_, Free.Fact.is ?_, Free.Fact.is ?_, Free.Fact.is ?_, Free.Fact.is ?_, Free.Fact.is ?_, Free.Fact.is ?_, Free.Fact.is ?_, Free.Fact.is ?_, Free.Fact.is ?_, Free.Fact.is ?_, Free.Fact.is ?_, Free.Fact.is ?_, Free.Fact.is ?_] (by kernel_rfl) (by kernel_rfl) rfl ((Below.refl _ _).drew) ?_ ?_
  rotate_left 15
  refine Free.cons ?_ ?_
  · intro w' hS; intro K hK; have ka0 := (hS.cell (p := ⟨w.heap.size, 0, none⟩) hA.lt).trans aq0; have ka1 := (hS.cell (p := ⟨w.heap.size, 1, none⟩) hA.lt).trans aq1; have ka2 := (hS.cell (p := ⟨w.heap.size + 1, 0, none⟩) hC.lt).trans cq0; have ka3 := (hS.cell (p := ⟨w.heap.size + 1, 1, none⟩) hC.lt).trans cq1; first | (refine Free.run_yes (by rfl) ?_; go_simp; refine Free.o hK hS ?_; exact rfl) | (refine Free.run_no (by rfl) (Free.o hK hS ?_); exact rfl)
  refine Free.cons ?_ ?_
  · intro w' hS; (rintro _ rfl); intro K hK; have ka0 := (hS.cell (p := ⟨w.heap.size, 0, none⟩) hA.lt).trans aq0; have ka1 := (hS.cell (p := ⟨w.heap.size, 1, none⟩) hA.lt).trans aq1; have ka2 := (hS.cell (p := ⟨w.heap.size + 1, 0, none⟩) hC.lt).trans cq0; have ka3 := (hS.cell (p := ⟨w.heap.size + 1, 1, none⟩) hC.lt).trans cq1; first | (refine Free.run_yes (by rfl) ?_; go_simp; refine Free.o hK hS ?_; exact rfl) | (refine Free.run_no (by rfl) (Free.o hK hS ?_); exact rfl)
  refine Free.cons ?_ ?_
  · intro w' hS; (rintro _ rfl); intro K hK; have ka0 := (hS.cell (p := ⟨w.heap.size, 0, none⟩) hA.lt).trans aq0; have ka1 := (hS.cell (p := ⟨w.heap.size, 1, none⟩) hA.lt).trans aq1; have ka2 := (hS.cell (p := ⟨w.heap.size + 1, 0, none⟩) hC.lt).trans cq0; have ka3 := (hS.cell (p := ⟨w.heap.size + 1, 1, none⟩) hC.lt).trans cq1; first | (refine Free.run_yes (by rfl) ?_; go_simp; refine Free.o hK hS ?_; exact rfl) | (refine Free.run_no (by rfl) (Free.o hK hS ?_); exact rfl)
  refine Free.cons ?_ ?_
  · intro w' hS; (rintro _ rfl); intro K hK; have ka0 := (hS.cell (p := ⟨w.heap.size, 0, none⟩) hA.lt).trans aq0; have ka1 := (hS.cell (p := ⟨w.heap.size, 1, none⟩) hA.lt).trans aq1; have ka2 := (hS.cell (p := ⟨w.heap.size + 1, 0, none⟩) hC.lt).trans cq0; have ka3 := (hS.cell (p := ⟨w.heap.size + 1, 1, none⟩) hC.lt).trans cq1; first | (refine Free.run_yes (by rfl) ?_; go_simp; refine Free.o hK hS ?_; exact rfl) | (refine Free.run_no (by rfl) (Free.o hK hS ?_); exact rfl)
  refine Free.cons ?_ ?_
  · intro w' hS; (rintro _ rfl); (rintro _ rfl); intro K hK; have ka0 := (hS.cell (p := ⟨w.heap.size, 0, none⟩) hA.lt).trans aq0; have ka1 := (hS.cell (p := ⟨w.heap.size, 1, none⟩) hA.lt).trans aq1; have ka2 := (hS.cell (p := ⟨w.heap.size + 1, 0, none⟩) hC.lt).trans cq0; have ka3 := (hS.cell (p := ⟨w.heap.size + 1, 1, none⟩) hC.lt).trans cq1; first | (refine Free.run_yes (by rfl) ?_; go_simp; refine Free.o hK hS ?_; exact rfl) | (refine Free.run_no (by rfl) (Free.o hK hS ?_); exact rfl)
  refine Free.cons ?_ ?_
  · intro w' hS; (rintro _ rfl); (rintro _ rfl); intro K hK; have ka0 := (hS.cell (p := ⟨w.heap.size, 0, none⟩) hA.lt).trans aq0; have ka1 := (hS.cell (p := ⟨w.heap.size, 1, none⟩) hA.lt).trans aq1; have ka2 := (hS.cell (p := ⟨w.heap.size + 1, 0, none⟩) hC.lt).trans cq0; have ka3 := (hS.cell (p := ⟨w.heap.size + 1, 1, none⟩) hC.lt).trans cq1; first | (refine Free.run_yes (by rfl) ?_; go_simp; refine Free.o hK hS ?_; exact rfl) | (refine Free.run_no (by rfl) (Free.o hK hS ?_); exact rfl)
  refine Free.cons ?_ ?_
  · intro w' hS; (rintro _ rfl); intro K hK; have ka0 := (hS.cell (p := ⟨w.heap.size, 0, none⟩) hA.lt).trans aq0; have ka1 := (hS.cell (p := ⟨w.heap.size, 1, none⟩) hA.lt).trans aq1; have ka2 := (hS.cell (p := ⟨w.heap.size + 1, 0, none⟩) hC.lt).trans cq0; have ka3 := (hS.cell (p := ⟨w.heap.size + 1, 1, none⟩) hC.lt).trans cq1; first | (refine Free.run_yes (by rfl) ?_; go_simp; refine Free.o hK hS ?_; exact rfl) | (refine Free.run_no (by rfl) (Free.o hK hS ?_); exact rfl)
  refine Free.cons ?_ ?_
  · intro w' hS; (rintro _ rfl); intro K hK; have ka0 := (hS.cell (p := ⟨w.heap.size, 0, none⟩) hA.lt).trans aq0; have ka1 := (hS.cell (p := ⟨w.heap.size, 1, none⟩) hA.lt).trans aq1; have ka2 := (hS.cell (p := ⟨w.heap.size + 1, 0, none⟩) hC.lt).trans cq0; have ka3 := (hS.cell (p := ⟨w.heap.size + 1, 1, none⟩) hC.lt).trans cq1; first | (refine Free.run_yes (by rfl) ?_; go_simp; refine Free.o hK hS ?_; exact rfl) | (refine Free.run_no (by rfl) (Free.o hK hS ?_); exact rfl)
  refine Free.cons ?_ ?_
  · intro w' hS; (rintro _ rfl); intro K hK; have ka0 := (hS.cell (p := ⟨w.heap.size, 0, none⟩) hA.lt).trans aq0; have ka1 := (hS.cell (p := ⟨w.heap.size, 1, none⟩) hA.lt).trans aq1; have ka2 := (hS.cell (p := ⟨w.heap.size + 1, 0, none⟩) hC.lt).trans cq0; have ka3 := (hS.cell (p := ⟨w.heap.size + 1, 1, none⟩) hC.lt).trans cq1; first | (refine Free.run_yes (by rfl) ?_; go_simp; refine Free.o hK hS ?_; exact rfl) | (refine Free.run_no (by rfl) (Free.o hK hS ?_); exact rfl)
  refine Free.cons ?_ ?_
  · intro w' hS; (rintro _ rfl); (rintro _ rfl); (rintro _ rfl); intro K hK; have ka0 := (hS.cell (p := ⟨w.heap.size, 0, none⟩) hA.lt).trans aq0; have ka1 := (hS.cell (p := ⟨w.heap.size, 1, none⟩) hA.lt).trans aq1; have ka2 := (hS.cell (p := ⟨w.heap.size + 1, 0, none⟩) hC.lt).trans cq0; have ka3 := (hS.cell (p := ⟨w.heap.size + 1, 1, none⟩) hC.lt).trans cq1; refine Free.run_yes (by rfl) ?_; (go_simp; go_at_call 20; refine (HB.out _ (hP1.below hS) (hP2.below hS)).mono ?_; rintro e w' ⟨rfl, hb⟩; (try simp only [Free.valOf, Act.put, List.setIfInBounds_toArray, List.set_cons_zero, List.set_cons_succ, Array.getD_eq_getD_getElem?, List.getElem?_toArray, List.getElem?_cons_succ, List.getElem?_cons_zero, Option.getD_some]); refine hK.out _ _ ?_ (Below.next hS hb (Nat.le_refl _)) (.inr hb); exact rfl)
  refine Free.cons ?_ ?_
  · intro w' hS; (rintro _ rfl); intro K hK; have ka0 := (hS.cell (p := ⟨w.heap.size, 0, none⟩) hA.lt).trans aq0; have ka1 := (hS.cell (p := ⟨w.heap.size, 1, none⟩) hA.lt).trans aq1; have ka2 := (hS.cell (p := ⟨w.heap.size + 1, 0, none⟩) hC.lt).trans cq0; have ka3 := (hS.cell (p := ⟨w.heap.size + 1, 1, none⟩) hC.lt).trans cq1; first | (refine Free.run_yes (by rfl) ?_; go_simp; refine Free.o hK hS ?_; exact rfl) | (refine Free.run_no (by rfl) (Free.o hK hS ?_); exact rfl)
  refine Free.cons ?_ ?_
  · intro w' hS; (rintro _ rfl); intro K hK; have ka0 := (hS.cell (p := ⟨w.heap.size, 0, none⟩) hA.lt).trans aq0; have ka1 := (hS.cell (p := ⟨w.heap.size, 1, none⟩) hA.lt).trans aq1; have ka2 := (hS.cell (p := ⟨w.heap.size + 1, 0, none⟩) hC.lt).trans cq0; have ka3 := (hS.cell (p := ⟨w.heap.size + 1, 1, none⟩) hC.lt).trans cq1; first | (refine Free.run_yes (by rfl) ?_; go_simp; refine Free.o hK hS ?_; exact rfl) | (refine Free.run_no (by rfl) (Free.o hK hS ?_); exact rfl)
  refine Free.cons ?_ ?_
  · intro w' hS; (rintro _ rfl); (rintro _ rfl); (rintro _ rfl); intro K hK; have ka0 := (hS.cell (p := ⟨w.heap.size, 0, none⟩) hA.lt).trans aq0; have ka1 := (hS.cell (p := ⟨w.heap.size, 1, none⟩) hA.lt).trans aq1; have ka2 := (hS.cell (p := ⟨w.heap.size + 1, 0, none⟩) hC.lt).trans cq0; have ka3 := (hS.cell (p := ⟨w.heap.size + 1, 1, none⟩) hC.lt).trans cq1; refine Free.run_yes (by rfl) ?_; (go_simp; go_at_call 19; refine (HS.out _ (h1.below (bl.trans (hS.mono bl.size))) (h2.below (bl.trans (hS.mono bl.size)))).mono ?_; rintro e w' ⟨rfl, hb⟩; (try simp only [Free.valOf, Act.put, List.setIfInBounds_toArray, List.set_cons_zero, List.set_cons_succ, Array.getD_eq_getD_getElem?, List.getElem?_toArray, List.getElem?_cons_succ, List.getElem?_cons_zero, Option.getD_some]); refine hK.out _ _ ?_ (Below.next hS hb (Nat.le_refl _)) (.inr hb); exact rfl)
  refine Free.cons ?_ ?_
  · intro w' hS; (rintro _ rfl); (rintro _ rfl); (rintro _ rfl); intro K hK; have ka0 := (hS.cell (p := ⟨w.heap.size, 0, none⟩) hA.lt).trans aq0; have ka1 := (hS.cell (p := ⟨w.heap.size, 1, none⟩) hA.lt).trans aq1; have ka2 := (hS.cell (p := ⟨w.heap.size + 1, 0, none⟩) hC.lt).trans cq0; have ka3 := (hS.cell (p := ⟨w.heap.size + 1, 1, none⟩) hC.lt).trans cq1; first | (refine Free.run_yes (by rfl) ?_; go_simp; refine Free.o hK hS ?_; exact rfl) | (refine Free.run_no (by rfl) (Free.o hK hS ?_); exact rfl)
  refine Free.cons ?_ ?_
  · intro w' hS; (rintro _ rfl); (rintro _ rfl); intro K hK; have ka0 := (hS.cell (p := ⟨w.heap.size, 0, none⟩) hA.lt).trans aq0; have ka1 := (hS.cell (p := ⟨w.heap.size, 1, none⟩) hA.lt).trans aq1; have ka2 := (hS.cell (p := ⟨w.heap.size + 1, 0, none⟩) hC.lt).trans cq0; have ka3 := (hS.cell (p := ⟨w.heap.size + 1, 1, none⟩) hC.lt).trans cq1; first | (refine Free.run_yes (by rfl) ?_; go_simp; refine Free.o hK hS ?_; exact rfl) | (refine Free.run_no (by rfl) (Free.o hK hS ?_); exact rfl)
  exact Free.nil
  clear hvo
  intro w' hS; intro v0; intro v1; intro v2; intro v3; intro v4; intro v5; intro v6; intro v7; intro v8; intro v9; intro v10; intro v11; intro v12; intro v13; (rintro _ rfl); (try simp only [Act.put, List.setIfInBounds_toArray, List.set_cons_zero, List.set_cons_succ]); refine Free.toldE_nil ?_
  replace bl := Below.next bl hS (Nat.le_refl _)
  clear hS hA hC aq0 aq1 cq0 cq1
  rcases decR_cases b with ⟨⟨t9, V9⟩, hd, hE9, hT9⟩ | hd
  · rw [hd] at H3
    have H6 := Lib.hid (fun A n c w (h : RV w A n c V9) => (show Calls Try.prog 18 #[.agg #[.int .i64 t9, .slice A n c]] w fun e w' => ∃ v, e = .returned (.tuple #[v, .int .i64 0]) ∧ RBv w' v b ∧ Below w.heap.size w w' from by have := row_encode t9 A n c V9 w h; rw [hE9, hT9] at this; exact this))
    clear hd hE9 hT9
    go_wp2_with fail
    refine (H3.out _ (h3.below bl)).mono ?_
    rintro e w10 ⟨A9, n9, c9, rfl, hR9, e3⟩
    replace bl := Below.next bl e3 (Nat.le_refl _)
    clear H3
    clear e3
    have hX9 := Blk.new w10 #[.int .i64 t9, .slice A9 n9 c9] 26
    have b9 : Below w10.heap.size w10 (w10.alloc (.cells #[.int .i64 t9, .slice A9 n9 c9] 26)) := (by repeat (first | exact Below.refl _ _ | assumption | apply below_drewN' | apply Below.drew | refine Below.alloc ?_ (by first | omega | (simp; done) | (simp; omega)) _ | refine Below.setCell ?_ (by first | omega | (simp; done) | (simp; omega)) _))
    replace hR9 := Lib.hid (hR9.below b9)
    replace bl := Below.next bl b9 (Nat.le_refl _)
    clear b9
    go_wp2_with fail
    refine (H6.out _ _ _ _ hR9.out).mono ?_
    rintro e w11 ⟨v11, rfl, hv11, e3⟩
    replace bl := Below.next bl e3 (Nat.le_refl _)
    obtain ⟨P9, k9, rfl, hP9⟩ := hv11.sl n3 hb3.out
    clear hv11 H6 hX9
    clear e3
    go_wp2_with fail
    refine (first16_any _).mono ?_
    rintro e w12 ⟨rfl, e3⟩
    replace bl := Below.next bl e3 (Nat.le_refl _)
    replace hP9 := hP9.below e3
    clear e3
    have hB := ref_Bytes P9 A3 n3 k9 n3 c3 b b _ hP9 (h3.below bl)
    rw [beq_self_eq_true] at hB
    go_wp2_with fail
    refine hB.mono ?_
    rintro e w13 ⟨rfl, rfl⟩
    go_wp2
    go_ret
    exact ⟨rfl, bl⟩
  · rw [hd] at H3
    clear hd
    go_wp2_with fail
    refine (H3.out _ (h3.below bl)).mono ?_
    rintro e w10 ⟨A9, n9, c9, rfl, hR9, e3⟩
    replace bl := Below.next bl e3 (Nat.le_refl _)
    clear H3
    have hz9 : 0 = n9 := hR9.len
    subst hz9
    clear hR9
    clear e3
    have hX9 := Blk.new w10 #[.int .i64 0, .slice A9 0 c9] 26
    have b9 : Below w10.heap.size w10 (w10.alloc (.cells #[.int .i64 0, .slice A9 0 c9] 26)) := (by repeat (first | exact Below.refl _ _ | assumption | apply below_drewN' | apply Below.drew | refine Below.alloc ?_ (by first | omega | (simp; done) | (simp; omega)) _ | refine Below.setCell ?_ (by first | omega | (simp; done) | (simp; omega)) _))
    replace bl := Below.next bl b9 (Nat.le_refl _)
    clear b9
    go_wp2_with fail
    refine (first16_any _).mono ?_
    rintro e w12 ⟨rfl, e3⟩
    replace bl := Below.next bl e3 (Nat.le_refl _)
    have xq0 := hX9.below e3 hX9.lt
    have xq1 := xq0.cell 1 (v := .slice A9 0 c9) rfl
    clear xq0
    clear e3
    go_wp2
    go_ret
    exact ⟨rfl, bl⟩
end Go.Proofs.Ytfldmejjepakeaa
