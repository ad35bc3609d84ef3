/- Merged: SlR, Args. -/
import Derived.Test.YtniendffanemcaaRk2
import Derived.ChangeSlices
/- SealOrder: the walk. -/
namespace Go.Proofs.Ytniendffanemcaa
open Go.ChangeShapes Go.WideShapes Go.ChangeAt Go.RowKit
open Go.ChangeMaps (open_string shut_string)
set_option linter.unusedVariables false
set_option linter.unusedSimpArgs false
set_option maxRecDepth 100000

theorem uq_fresh {l : List (Int × Int)} {y : Int × Int} {j : Nat} {fb : Bool} (hy : l[j]? = some y) (hf : fb = !(fndK y (uq l j) 0).isSome) : (uq l (j + 1)).length = (uq l j).length + (if fb = true then 1 else 0) := by
  rw [uq_count hy, hf]
  cases (fndK y (uq l j) 0).isSome <;> rfl
theorem step_hit {l : List (Int × Int)} {x y : Int × Int} {n j : Nat} (hy : l[j]? = some y) (hxy : y = x) (hk : false = (fndK x (uq l j) 0).isSome) : true = (fndK x (uq l (j + 1)) 0).isSome ∧ atK l x n (j + 1) = (uq l j).length := by
  rw [hxy] at hy
  obtain ⟨h1, h2⟩ := atK_hit (n := n) hy hk.symm
  exact ⟨h2.symm, h1⟩
theorem step_pass {l : List (Int × Int)} {x y : Int × Int} {n j na : Nat} {kb : Bool} (hy : l[j]? = some y) (h : y ≠ x ∨ kb = true) (hk : kb = (fndK x (uq l j) 0).isSome) (hn : atK l x n j = na) : kb = (fndK x (uq l (j + 1)) 0).isSome ∧ atK l x n (j + 1) = na := by
  obtain ⟨h1, h2⟩ := atK_pass (n := n) hy (h.imp id fun e => by rw [← hk]; exact e)
  exact ⟨hk.trans h2.symm, h1.trans hn⟩
set_option maxHeartbeats 16000000 in
theorem order6 (A0 : Option Addr) (n0 c0 : Nat) (P : List UInt8) (L0 : Int) (A1 : Option Addr) (n1 c1 : Nat) (l : List (Int × Int)) (w : World) (h0 : RB w A0 n0 c0 P) (h1 : RNn w A1 n1 c1 l) :
    Calls Try.prog 5 #[.slice A0 n0 c0, .int .i64 L0, .slice A1 n1 c1] w fun e w' => e = .returned (.bool true) ∧ Below w.heap.size w w' := by
  have hl0 := Lib.hid h0.len
  have hl1 := Lib.hid h1.len
  go_enter Try.func5, Try.ntmps5
  go_wp2_with fail
  refine (first6 _).mono ?_
  rintro e w2 ⟨rfl, bl⟩
  by_cases g1 : (2000 : Int) < (n0 : Int)
  · (go_wp2_with fail; refine (first6 _).mono ?_; rintro e w9 ⟨rfl, b9⟩; go_wp2; go_ret; exact ⟨rfl, Below.next bl b9 (Nat.le_refl _)⟩)
  by_cases g2 : L0 < 1
  · (go_wp2_with fail; refine (first6 _).mono ?_; rintro e w9 ⟨rfl, b9⟩; go_wp2; go_ret; exact ⟨rfl, Below.next bl b9 (Nat.le_refl _)⟩)
  by_cases g3 : 20 < L0
  · (go_wp2_with fail; refine (first6 _).mono ?_; rintro e w9 ⟨rfl, b9⟩; go_wp2; go_ret; exact ⟨rfl, Below.next bl b9 (Nat.le_refl _)⟩)
  by_cases g4 : (40 : Int) < (n1 : Int)
  · (go_wp2_with fail; refine (first6 _).mono ?_; rintro e w9 ⟨rfl, b9⟩; go_wp2; go_ret; exact ⟨rfl, Below.next bl b9 (Nat.le_refl _)⟩)
  have z2 := bl.size
  obtain ⟨L, rfl⟩ : ∃ L : Nat, L0 = L := ⟨L0.toNat, by omega⟩
  have hL1 : 1 ≤ L := by omega
  have hL2 : L ≤ 20 := by omega
  obtain ⟨M, hM, hM3, hM2⟩ : ∃ M : Nat, (if n0 < 800 then (800 : Int) else (n0 : Int)) = M ∧ (if (n0 : Int) < 800 then (800 : Int) else (n0 : Int)) = M ∧ M = max n0 800 := ⟨max n0 800, by split <;> omega, by split <;> omega, rfl⟩
  have hMb1 : 800 ≤ M := by omega
  have hMb2 : M ≤ 2000 := by omega
  clear hM2
  have HF := Lib.hid (fun w h => ref_Fill A0 n0 c0 M P w h (by omega))
  have hfl := fill_length P M
  go_wp2_with fail
  refine (new_pads _ _ _ _ _ (h0.below bl) (by omega)).mono ?_
  rintro e w4 ⟨t, B, d, rfl, hT, hlt, hltb, e4⟩
  replace bl := Below.next bl e4 (Nat.le_refl _)
  have z4 := bl.size
  clear e4
  go_wp2_with fail
  refine (orc_new _ t 0 P B n0 d _ L hT (by omega) (by omega) (by omega)).mono ?_
  rintro e w5 ⟨p, m, rfl, hO, hm, e5⟩
  replace bl := Below.next bl e5 (Nat.le_refl _)
  clear e5 hT
  go_wp2_with fail
  refine (HF.out _ (h0.below bl)).mono ?_
  rintro e w6 ⟨rfl, hb6, e6⟩
  have hb6l := hb6.lt
  have hF := RB.of_cells hb6 hfl (by unfold maxLen; omega)
  replace bl := Below.next bl e6 (Nat.le_refl _)
  have hpf : p < w5.heap.size := hO.lt
  replace hO := hO.below e6
  have e0 : (⟨L, 0, P, [], [], []⟩ : OrcS) = ordS L P l 0 := by simp [ordS, uq_zero]
  rw [e0] at hO
  clear e0 hb6 e6 HF
  have hlb := Lib.hid hlt
  clear hfl
  generalize hfu : fill P M = full at *
  replace hfu := Lib.hid hfu
  go_wp2
  go_loopw [10, 11] (fun s i wr => ∃ (j : Nat) (vs : List Value), j ≤ n1 ∧ s = .int .i64 ((uq l j).length : Int) ∧ i = .int .i64 j ∧ Orc wr p t m B n0 d n0 (.slice none 0 0) vs (ordS L P l j) ∧ Below w.heap.size w wr ∧ RB wr (some ⟨w5.heap.size, 0, none⟩) M M full ∧ w5.heap.size < wr.heap.size) (fun s i _ => n1 - (intOf i).toNat)
  case atStart => exact ⟨0, [], by omega, rfl, rfl, hO, bl, hF, hb6l⟩
  case round =>
  obtain ⟨j, vs, hj, rfl, rfl, hO, bl, hF, hb6l⟩ := hrel
  obtain ⟨Wr, rfl⟩ : ∃ W, W = wr := ⟨_, rfl⟩
  by_cases gj : j < n1
  rotate_left
  · (go_wp2_with fail; refine (first6 _).mono ?_; rintro e w9 ⟨rfl, b9⟩; go_wp2; go_ret; exact ⟨rfl, Below.next bl b9 (Nat.le_refl _)⟩)
  obtain ⟨x, hx⟩ : ∃ x, l[j]? = some x := ⟨_, List.getElem?_eq_getElem (by have := hl1.out; omega)⟩
  obtain ⟨gn, on, rfl, hcn⟩ := h1.at_ (by omega)
  have hcn := Lib.hid hcn
  have hxh := Lib.hid hx
  clear hx
  go_wp2
  go_loopw [12, 13, 14, 15] (fun a kn kk q wq => ∃ (q' : Nat) (kb : Bool), q' ≤ j ∧ q = .int .i64 q' ∧ kk = .int .i64 ((uq l q').length : Int) ∧ kn = .bool kb ∧ Hid (kb = (fndK x (uq l q') 0).isSome) ∧ a = .int .i64 ((atK l x (uq l j).length q' : Nat) : Int) ∧ Below Wr.heap.size Wr wq) (fun a kn kk q _ => j - (intOf q).toNat)
  case atStart => exact ⟨0, false, by omega, rfl, rfl, rfl, Lib.hid rfl, rfl, (by repeat (first | exact Below.refl _ _ | assumption | apply below_drewN' | apply Below.drew | refine Below.alloc ?_ (by first | omega | (simp; done) | (simp; omega)) _ | refine Below.setCell ?_ (by first | omega | (simp; done) | (simp; omega)) _))⟩
  case round =>
  obtain ⟨q, kb, hq, rfl, rfl, rfl, hkb, rfl, bq⟩ := hrel
  obtain ⟨Wq, rfl⟩ : ∃ W, W = wr := ⟨_, rfl⟩
  have blq := Below.next bl bq (Nat.le_refl _)
  by_cases gq : q < j
  · obtain ⟨y, hy⟩ : ∃ y, l[q]? = some y := ⟨_, List.getElem?_eq_getElem (by have := hl1.out; omega)⟩
    have hyh := Lib.hid hy
    clear hy
    obtain ⟨na, hna⟩ : ∃ na, atK l x (uq l j).length q = na := ⟨_, rfl⟩
    rewrite [hna]
    replace hna := Lib.hid hna
    go_wp2
    go_loopw [16, 17] (fun fr mm w3 => ∃ (r : Nat) (fb : Bool), r ≤ q ∧ mm = .int .i64 r ∧ fr = .bool fb ∧ Hid (fb = decide (y ∉ l.take r)) ∧ Below Wq.heap.size Wq w3) (fun fr mm _ => q - (intOf mm).toNat)
    case atStart => exact ⟨0, true, by omega, rfl, rfl, Lib.hid (by simp), (by repeat (first | exact Below.refl _ _ | assumption | apply below_drewN' | apply Below.drew | refine Below.alloc ?_ (by first | omega | (simp; done) | (simp; omega)) _ | refine Below.setCell ?_ (by first | omega | (simp; done) | (simp; omega)) _))⟩
    case round =>
    obtain ⟨r, fb, hr, rfl, rfl, hfb, b3⟩ := hrel
    obtain ⟨W3, rfl⟩ : ∃ W, W = wr := ⟨_, rfl⟩
    have bl3 := Below.next blq b3 (Nat.le_refl _)
    by_cases gr : r < q
    · obtain ⟨zz, hz⟩ : ∃ z, l[r]? = some z := ⟨_, List.getElem?_eq_getElem (by have := hl1.out; omega)⟩
      have c0 := (bl3.cell (p := ⟨gn, on + r * 2, none⟩) (World.block_lt_of_cell? w _ (hcn.out r zz hz).1)).trans (hcn.out r zz hz).1
      have c1 := (bl3.cell (p := ⟨gn, on + r * 2 + 1, none⟩) (World.block_lt_of_cell? w _ (hcn.out r zz hz).2)).trans (hcn.out r zz hz).2
      have c2 := (bl3.cell (p := ⟨gn, on + q * 2, none⟩) (World.block_lt_of_cell? w _ (hcn.out q y hyh.out).1)).trans (hcn.out q y hyh.out).1
      have c3 := (bl3.cell (p := ⟨gn, on + q * 2 + 1, none⟩) (World.block_lt_of_cell? w _ (hcn.out q y hyh.out).2)).trans (hcn.out q y hyh.out).2
      have hgn := World.block_lt_of_cell? W3 _ c0
      have hrn : r < n1 := by omega
      have hqn : q < n1 := by omega
      have hz2 := Lib.hid hz
      clear hz
      -- [I1
      cases fb with
      | false =>
        go_wp2_with fail
        have hvo := Free.val
        refine Free.wp_facts (M := [0, 1, 3, 3, 15, 31, 3, 3, 195, 451, 1023, 2047, 4095]) (D := [[], [(0, 73)], [(1, 74)], [(1, 74)], [(2, 75), (3, 76), (1, 74)], [(4, 77), (1, 74)], [(1, 74)], [(1, 74)], [(6, 79), (7, 80), (1, 74)], [(8, 81), (1, 74)], [(5, 78), (9, 82), (1, 74)], [(1, 74), (10, 83)], [(11, 84)]]) (outs := [12]) (soles := []) (E := [(0, 73, false), (1, 74, false), (2, 75, false), (3, 76, false), (4, 77, false), (5, 78, false), (6, 79, false), (7, 80, false), (8, 81, false), (9, 82, false), (10, 83, false), (11, 84, false), (12, 16, true)]) (N := 156) (S := (fun w' => Below W3.heap.size W3 w')) [Free.Fact.is ?_, Free.Fact.is ?_, Free.Fact.is ?_, Free.Fact.is ?_, Free.Fact.is ?_, Free.Fact.is ?_, Free.Fact.is ?_, Free.Fact.is ?_, Free.Fact.is ?_, Free.Fact.is ?_, Free.Fact.is ?_, Free.Fact.is ?_, Free.Fact.is ?_] (by kernel_rfl) (by kernel_rfl) rfl ((Below.refl _ _).drew) ?_ ?_
        rotate_left 13
        refine Free.cons ?_ ?_
        · intro w' hS; intro K hK; first | (refine Free.run_yes (by rfl) ?_; go_simp; refine Free.o hK hS ?_; exact rfl) | (refine Free.run_no (by rfl) (Free.o hK hS ?_); exact rfl)
        refine Free.cons ?_ ?_
        · intro w' hS; (rintro _ rfl); intro K hK; first | (refine Free.run_yes (by rfl) ?_; go_simp; refine Free.o hK hS ?_; exact rfl) | (refine Free.run_no (by rfl) (Free.o hK hS ?_); exact rfl)
        refine Free.cons ?_ ?_
        · intro w' hS; (rintro _ rfl); intro K hK; first | (refine Free.run_yes (by rfl) ?_; go_simp; refine Free.o hK hS ?_; exact rfl) | (refine Free.run_no (by rfl) (Free.o hK hS ?_); exact rfl)
        refine Free.cons ?_ ?_
        · intro w' hS; (rintro _ rfl); intro K hK; first | (refine Free.run_yes (by rfl) ?_; go_simp; refine Free.o hK hS ?_; exact rfl) | (refine Free.run_no (by rfl) (Free.o hK hS ?_); exact rfl)
        refine Free.cons ?_ ?_
        · intro w' hS; (rintro _ rfl); (rintro _ rfl); (rintro _ rfl); intro K hK; first | (refine Free.run_yes (by rfl) ?_; go_simp; refine Free.o hK hS ?_; exact rfl) | (refine Free.run_no (by rfl) (Free.o hK hS ?_); exact rfl)
        refine Free.cons ?_ ?_
        · intro w' hS; (rintro _ rfl); (rintro _ rfl); intro K hK; first | (refine Free.run_yes (by rfl) ?_; go_simp; refine Free.o hK hS ?_; exact rfl) | (refine Free.run_no (by rfl) (Free.o hK hS ?_); exact rfl)
        refine Free.cons ?_ ?_
        · intro w' hS; (rintro _ rfl); intro K hK; first | (refine Free.run_yes (by rfl) ?_; go_simp; refine Free.o hK hS ?_; exact rfl) | (refine Free.run_no (by rfl) (Free.o hK hS ?_); exact rfl)
        refine Free.cons ?_ ?_
        · intro w' hS; (rintro _ rfl); intro K hK; first | (refine Free.run_yes (by rfl) ?_; go_simp; refine Free.o hK hS ?_; exact rfl) | (refine Free.run_no (by rfl) (Free.o hK hS ?_); exact rfl)
        refine Free.cons ?_ ?_
        · intro w' hS; (rintro _ rfl); (rintro _ rfl); (rintro _ rfl); intro K hK; first | (refine Free.run_yes (by rfl) ?_; go_simp; refine Free.o hK hS ?_; exact rfl) | (refine Free.run_no (by rfl) (Free.o hK hS ?_); exact rfl)
        refine Free.cons ?_ ?_
        · intro w' hS; (rintro _ rfl); (rintro _ rfl); intro K hK; first | (refine Free.run_yes (by rfl) ?_; go_simp; refine Free.o hK hS ?_; exact rfl) | (refine Free.run_no (by rfl) (Free.o hK hS ?_); exact rfl)
        refine Free.cons ?_ ?_
        · intro w' hS; (rintro _ rfl); (rintro _ rfl); (rintro _ rfl); intro K hK; first | (refine Free.run_yes (by rfl) ?_; go_simp; refine Free.o hK hS ?_; exact rfl) | (refine Free.run_no (by rfl) (Free.o hK hS ?_); exact rfl)
        refine Free.cons ?_ ?_
        · intro w' hS; (rintro _ rfl); (rintro _ rfl); intro K hK; first | (refine Free.run_yes (by rfl) ?_; go_simp; refine Free.o hK hS ?_; exact rfl) | (refine Free.run_no (by rfl) (Free.o hK hS ?_); exact rfl)
        refine Free.cons ?_ ?_
        · intro w' hS; (rintro _ rfl); intro K hK; first | (refine Free.run_yes (by rfl) ?_; go_simp; refine Free.o hK hS ?_; exact rfl) | (refine Free.run_no (by rfl) (Free.o hK hS ?_); exact rfl)
        exact Free.nil
        clear hvo
        intro w' hS; intro v0; intro v1; intro v2; intro v3; intro v4; intro v5; intro v6; intro v7; intro v8; intro v9; intro v10; intro v11; (rintro _ rfl); (try simp only [Act.put, List.setIfInBounds_toArray, List.set_cons_zero, List.set_cons_succ]); refine Free.toldE_nil ?_
        go_wp2
        go_roundw
        case rel =>
          exact ⟨r + 1, false, by omega, by go_num, rfl, Lib.hid (fresh_no hz2.out hfb.out), Below.next b3 hS (Nat.le_refl _)⟩
        case measure => simp [intOf]; omega
      | true =>
        go_wp2_with fail
        have hvo := Free.val
        refine Free.wp_facts (M := [0, 1, 3, 3, 15, 31, 3, 3, 195, 451, 1023, 2047, 4095]) (D := [[], [(0, 73)], [(1, 74)], [(1, 74)], [(2, 75), (3, 76), (1, 74)], [(4, 77), (1, 74)], [(1, 74)], [(1, 74)], [(6, 79), (7, 80), (1, 74)], [(8, 81), (1, 74)], [(5, 78), (9, 82), (1, 74)], [(1, 74), (10, 83)], [(11, 84)]]) (outs := [12]) (soles := []) (E := [(0, 73, false), (1, 74, false), (2, 75, false), (3, 76, false), (4, 77, false), (5, 78, false), (6, 79, false), (7, 80, false), (8, 81, false), (9, 82, false), (10, 83, false), (11, 84, false), (12, 16, true)]) (N := 156) (S := (fun w' => Below W3.heap.size W3 w')) [Free.Fact.is ?_, Free.Fact.is ?_, Free.Fact.is ?_, Free.Fact.is ?_, Free.Fact.is ?_, Free.Fact.is ?_, Free.Fact.is ?_, Free.Fact.is ?_, Free.Fact.is ?_, Free.Fact.is ?_, Free.Fact.is (.bool (decide (zz ≠ y))), Free.Fact.is ?_, Free.Fact.is ?_] (by kernel_rfl) (by kernel_rfl) rfl ((Below.refl _ _).drew) ?_ ?_
        rotate_left 12
        refine Free.cons ?_ ?_
        · intro w' hS; intro K hK; have ka0 := (hS.cell (p := ⟨gn, on + r * 2, none⟩) hgn).trans c0; have ka1 := (hS.cell (p := ⟨gn, on + r * 2 + 1, none⟩) hgn).trans c1; have ka2 := (hS.cell (p := ⟨gn, on + q * 2, none⟩) hgn).trans c2; have ka3 := (hS.cell (p := ⟨gn, on + q * 2 + 1, none⟩) hgn).trans c3; first | (refine Free.run_yes (by rfl) ?_; go_simp; refine Free.o hK hS ?_; exact rfl) | (refine Free.run_no (by rfl) (Free.o hK hS ?_); exact rfl)
        refine Free.cons ?_ ?_
        · intro w' hS; (rintro _ rfl); intro K hK; have ka0 := (hS.cell (p := ⟨gn, on + r * 2, none⟩) hgn).trans c0; have ka1 := (hS.cell (p := ⟨gn, on + r * 2 + 1, none⟩) hgn).trans c1; have ka2 := (hS.cell (p := ⟨gn, on + q * 2, none⟩) hgn).trans c2; have ka3 := (hS.cell (p := ⟨gn, on + q * 2 + 1, none⟩) hgn).trans c3; first | (refine Free.run_yes (by rfl) ?_; go_simp; refine Free.o hK hS ?_; exact rfl) | (refine Free.run_no (by rfl) (Free.o hK hS ?_); exact rfl)
        refine Free.cons ?_ ?_
        · intro w' hS; (rintro _ rfl); intro K hK; have ka0 := (hS.cell (p := ⟨gn, on + r * 2, none⟩) hgn).trans c0; have ka1 := (hS.cell (p := ⟨gn, on + r * 2 + 1, none⟩) hgn).trans c1; have ka2 := (hS.cell (p := ⟨gn, on + q * 2, none⟩) hgn).trans c2; have ka3 := (hS.cell (p := ⟨gn, on + q * 2 + 1, none⟩) hgn).trans c3; first | (refine Free.run_yes (by rfl) ?_; go_simp; refine Free.o hK hS ?_; exact rfl) | (refine Free.run_no (by rfl) (Free.o hK hS ?_); exact rfl)
        refine Free.cons ?_ ?_
        · intro w' hS; (rintro _ rfl); intro K hK; have ka0 := (hS.cell (p := ⟨gn, on + r * 2, none⟩) hgn).trans c0; have ka1 := (hS.cell (p := ⟨gn, on + r * 2 + 1, none⟩) hgn).trans c1; have ka2 := (hS.cell (p := ⟨gn, on + q * 2, none⟩) hgn).trans c2; have ka3 := (hS.cell (p := ⟨gn, on + q * 2 + 1, none⟩) hgn).trans c3; first | (refine Free.run_yes (by rfl) ?_; go_simp; refine Free.o hK hS ?_; exact rfl) | (refine Free.run_no (by rfl) (Free.o hK hS ?_); exact rfl)
        refine Free.cons ?_ ?_
        · intro w' hS; (rintro _ rfl); (rintro _ rfl); (rintro _ rfl); intro K hK; have ka0 := (hS.cell (p := ⟨gn, on + r * 2, none⟩) hgn).trans c0; have ka1 := (hS.cell (p := ⟨gn, on + r * 2 + 1, none⟩) hgn).trans c1; have ka2 := (hS.cell (p := ⟨gn, on + q * 2, none⟩) hgn).trans c2; have ka3 := (hS.cell (p := ⟨gn, on + q * 2 + 1, none⟩) hgn).trans c3; first | (refine Free.run_yes (by rfl) ?_; go_simp; refine Free.o hK hS ?_; exact rfl) | (refine Free.run_no (by rfl) (Free.o hK hS ?_); exact rfl)
        refine Free.cons ?_ ?_
        · intro w' hS; (rintro _ rfl); (rintro _ rfl); intro K hK; have ka0 := (hS.cell (p := ⟨gn, on + r * 2, none⟩) hgn).trans c0; have ka1 := (hS.cell (p := ⟨gn, on + r * 2 + 1, none⟩) hgn).trans c1; have ka2 := (hS.cell (p := ⟨gn, on + q * 2, none⟩) hgn).trans c2; have ka3 := (hS.cell (p := ⟨gn, on + q * 2 + 1, none⟩) hgn).trans c3; first | (refine Free.run_yes (by rfl) ?_; go_simp; refine Free.o hK hS ?_; exact rfl) | (refine Free.run_no (by rfl) (Free.o hK hS ?_); exact rfl)
        refine Free.cons ?_ ?_
        · intro w' hS; (rintro _ rfl); intro K hK; have ka0 := (hS.cell (p := ⟨gn, on + r * 2, none⟩) hgn).trans c0; have ka1 := (hS.cell (p := ⟨gn, on + r * 2 + 1, none⟩) hgn).trans c1; have ka2 := (hS.cell (p := ⟨gn, on + q * 2, none⟩) hgn).trans c2; have ka3 := (hS.cell (p := ⟨gn, on + q * 2 + 1, none⟩) hgn).trans c3; first | (refine Free.run_yes (by rfl) ?_; go_simp; refine Free.o hK hS ?_; exact rfl) | (refine Free.run_no (by rfl) (Free.o hK hS ?_); exact rfl)
        refine Free.cons ?_ ?_
        · intro w' hS; (rintro _ rfl); intro K hK; have ka0 := (hS.cell (p := ⟨gn, on + r * 2, none⟩) hgn).trans c0; have ka1 := (hS.cell (p := ⟨gn, on + r * 2 + 1, none⟩) hgn).trans c1; have ka2 := (hS.cell (p := ⟨gn, on + q * 2, none⟩) hgn).trans c2; have ka3 := (hS.cell (p := ⟨gn, on + q * 2 + 1, none⟩) hgn).trans c3; first | (refine Free.run_yes (by rfl) ?_; go_simp; refine Free.o hK hS ?_; exact rfl) | (refine Free.run_no (by rfl) (Free.o hK hS ?_); exact rfl)
        refine Free.cons ?_ ?_
        · intro w' hS; (rintro _ rfl); (rintro _ rfl); (rintro _ rfl); intro K hK; have ka0 := (hS.cell (p := ⟨gn, on + r * 2, none⟩) hgn).trans c0; have ka1 := (hS.cell (p := ⟨gn, on + r * 2 + 1, none⟩) hgn).trans c1; have ka2 := (hS.cell (p := ⟨gn, on + q * 2, none⟩) hgn).trans c2; have ka3 := (hS.cell (p := ⟨gn, on + q * 2 + 1, none⟩) hgn).trans c3; first | (refine Free.run_yes (by rfl) ?_; go_simp; refine Free.o hK hS ?_; exact rfl) | (refine Free.run_no (by rfl) (Free.o hK hS ?_); exact rfl)
        refine Free.cons ?_ ?_
        · intro w' hS; (rintro _ rfl); (rintro _ rfl); intro K hK; have ka0 := (hS.cell (p := ⟨gn, on + r * 2, none⟩) hgn).trans c0; have ka1 := (hS.cell (p := ⟨gn, on + r * 2 + 1, none⟩) hgn).trans c1; have ka2 := (hS.cell (p := ⟨gn, on + q * 2, none⟩) hgn).trans c2; have ka3 := (hS.cell (p := ⟨gn, on + q * 2 + 1, none⟩) hgn).trans c3; first | (refine Free.run_yes (by rfl) ?_; go_simp; refine Free.o hK hS ?_; exact rfl) | (refine Free.run_no (by rfl) (Free.o hK hS ?_); exact rfl)
        refine Free.cons ?_ ?_
        · intro w' hS; (rintro _ rfl); (rintro _ rfl); (rintro _ rfl); intro K hK; have ka0 := (hS.cell (p := ⟨gn, on + r * 2, none⟩) hgn).trans c0; have ka1 := (hS.cell (p := ⟨gn, on + r * 2 + 1, none⟩) hgn).trans c1; have ka2 := (hS.cell (p := ⟨gn, on + q * 2, none⟩) hgn).trans c2; have ka3 := (hS.cell (p := ⟨gn, on + q * 2 + 1, none⟩) hgn).trans c3; refine Free.run_yes (by rfl) ?_; (by_cases d1 : zz.1 = y.1 <;> by_cases d2 : zz.2 = y.2 <;> (go_simp; refine Free.o hK hS ?_; exact congrArg Value.bool (by simp [Prod.ext_iff, d1, d2])))
        refine Free.cons ?_ ?_
        · intro w' hS; (rintro _ rfl); (rintro _ rfl); intro K hK; have ka0 := (hS.cell (p := ⟨gn, on + r * 2, none⟩) hgn).trans c0; have ka1 := (hS.cell (p := ⟨gn, on + r * 2 + 1, none⟩) hgn).trans c1; have ka2 := (hS.cell (p := ⟨gn, on + q * 2, none⟩) hgn).trans c2; have ka3 := (hS.cell (p := ⟨gn, on + q * 2 + 1, none⟩) hgn).trans c3; first | (refine Free.run_yes (by rfl) ?_; go_simp; refine Free.o hK hS ?_; exact rfl) | (refine Free.run_no (by rfl) (Free.o hK hS ?_); exact rfl)
        refine Free.cons ?_ ?_
        · intro w' hS; (rintro _ rfl); intro K hK; have ka0 := (hS.cell (p := ⟨gn, on + r * 2, none⟩) hgn).trans c0; have ka1 := (hS.cell (p := ⟨gn, on + r * 2 + 1, none⟩) hgn).trans c1; have ka2 := (hS.cell (p := ⟨gn, on + q * 2, none⟩) hgn).trans c2; have ka3 := (hS.cell (p := ⟨gn, on + q * 2 + 1, none⟩) hgn).trans c3; first | (refine Free.run_yes (by rfl) ?_; go_simp; refine Free.o hK hS ?_; exact rfl) | (refine Free.run_no (by rfl) (Free.o hK hS ?_); exact rfl)
        exact Free.nil
        clear hvo
        intro w' hS; intro v0; intro v1; intro v2; intro v3; intro v4; intro v5; intro v6; intro v7; intro v8; intro v9; intro v10; intro v11; (rintro _ rfl); (try simp only [Act.put, List.setIfInBounds_toArray, List.set_cons_zero, List.set_cons_succ]); refine Free.toldE_nil ?_
        go_wp2
        go_roundw
        case rel =>
          exact ⟨r + 1, _, by omega, by go_num, rfl, Lib.hid (fresh_yes hz2.out hfb.out), Below.next b3 hS (Nat.le_refl _)⟩
        case measure => simp [intOf]; omega
      -- I1]
    · obtain rfl : r = q := by omega
      have hfe := fresh_end (l := l) (y := y) (q := r) (by have := hl1.out; omega)
      have c2 := (bl3.cell (p := ⟨gn, on + r * 2, none⟩) (World.block_lt_of_cell? w _ (hcn.out r y hyh.out).1)).trans (hcn.out r y hyh.out).1
      have c3 := (bl3.cell (p := ⟨gn, on + r * 2 + 1, none⟩) (World.block_lt_of_cell? w _ (hcn.out r y hyh.out).2)).trans (hcn.out r y hyh.out).2
      have c4 := (bl3.cell (p := ⟨gn, on + j * 2, none⟩) (World.block_lt_of_cell? w _ (hcn.out j x hxh.out).1)).trans (hcn.out j x hxh.out).1
      have c5 := (bl3.cell (p := ⟨gn, on + j * 2 + 1, none⟩) (World.block_lt_of_cell? w _ (hcn.out j x hxh.out).2)).trans (hcn.out j x hxh.out).2
      have hgn := World.block_lt_of_cell? W3 _ c2
      have hrn : r < n1 := by omega
      have hcount := Lib.hid (uq_count hyh.out)
      have hf2 := hfb.out
      rw [hfe] at hf2
      have hulen : (uq l r).length ≤ r := uq_len l r
      replace hfe := Lib.hid hfe
      replace hf2 := Lib.hid hf2
      obtain ⟨uu, huu⟩ : ∃ uu, (uq l r).length = uu := ⟨_, rfl⟩
      have huub : uu ≤ r := by rw [← huu]; exact hulen
      rewrite [huu]
      replace huu := Lib.hid huu
      clear hcount hulen
      -- [I2
      by_cases dxy : y = x
      · have d1 : x.1 = y.1 := by rw [dxy]
        have d2 : x.2 = y.2 := by rw [dxy]
        rw [d1] at c4
        rw [d2] at c5
        replace dxy := Lib.hid dxy
        clear d1 d2
        cases kb with
        | false =>
          have hst := step_hit (n := (uq l j).length) hyh.out dxy.out hkb.out
          replace hst := Lib.hid hst
          go_wp2_with fail
          have hvo := Free.val
          refine Free.wp_facts (M := [0, 0, 3, 7, 0, 0, 48, 112, 255, 511, 1023, 2047, 4095]) (D := [[], [], [(0, 85), (1, 86)], [(2, 87)], [], [], [(4, 89), (5, 90)], [(6, 91)], [(3, 88), (7, 92)], [(8, 93)], [(9, 94)], [(10, 95), (9, 94)], [(9, 94), (11, 96)]]) (outs := [12]) (soles := []) (E := [(0, 85, false), (1, 86, false), (2, 87, false), (3, 88, false), (4, 89, false), (5, 90, false), (6, 91, false), (7, 92, false), (8, 93, false), (9, 94, false), (10, 95, false), (11, 96, false), (12, 97, true)]) (N := 156) (S := (fun w' => Below W3.heap.size W3 w')) [Free.Fact.is ?_, Free.Fact.is ?_, Free.Fact.is ?_, Free.Fact.is ?_, Free.Fact.is ?_, Free.Fact.is ?_, Free.Fact.is ?_, Free.Fact.is ?_, Free.Fact.is (.bool true), Free.Fact.is ?_, Free.Fact.is ?_, Free.Fact.is ?_, Free.Fact.is ?_] (by kernel_rfl) (by kernel_rfl) rfl ((Below.refl _ _).drew) ?_ ?_
          rotate_left 12
          refine Free.cons ?_ ?_
          · intro w' hS; intro K hK; have ka0 := (hS.cell (p := ⟨gn, on + r * 2, none⟩) hgn).trans c2; have ka1 := (hS.cell (p := ⟨gn, on + r * 2 + 1, none⟩) hgn).trans c3; have ka2 := (hS.cell (p := ⟨gn, on + j * 2, none⟩) hgn).trans c4; have ka3 := (hS.cell (p := ⟨gn, on + j * 2 + 1, none⟩) hgn).trans c5; first | (refine Free.run_yes (by rfl) ?_; go_simp; refine Free.o hK hS ?_; exact rfl) | (refine Free.run_no (by rfl) (Free.o hK hS ?_); exact rfl)
          refine Free.cons ?_ ?_
          · intro w' hS; intro K hK; have ka0 := (hS.cell (p := ⟨gn, on + r * 2, none⟩) hgn).trans c2; have ka1 := (hS.cell (p := ⟨gn, on + r * 2 + 1, none⟩) hgn).trans c3; have ka2 := (hS.cell (p := ⟨gn, on + j * 2, none⟩) hgn).trans c4; have ka3 := (hS.cell (p := ⟨gn, on + j * 2 + 1, none⟩) hgn).trans c5; first | (refine Free.run_yes (by rfl) ?_; go_simp; refine Free.o hK hS ?_; exact rfl) | (refine Free.run_no (by rfl) (Free.o hK hS ?_); exact rfl)
          refine Free.cons ?_ ?_
          · intro w' hS; (rintro _ rfl); (rintro _ rfl); intro K hK; have ka0 := (hS.cell (p := ⟨gn, on + r * 2, none⟩) hgn).trans c2; have ka1 := (hS.cell (p := ⟨gn, on + r * 2 + 1, none⟩) hgn).trans c3; have ka2 := (hS.cell (p := ⟨gn, on + j * 2, none⟩) hgn).trans c4; have ka3 := (hS.cell (p := ⟨gn, on + j * 2 + 1, none⟩) hgn).trans c5; first | (refine Free.run_yes (by rfl) ?_; go_simp; refine Free.o hK hS ?_; exact rfl) | (refine Free.run_no (by rfl) (Free.o hK hS ?_); exact rfl)
          refine Free.cons ?_ ?_
          · intro w' hS; (rintro _ rfl); intro K hK; have ka0 := (hS.cell (p := ⟨gn, on + r * 2, none⟩) hgn).trans c2; have ka1 := (hS.cell (p := ⟨gn, on + r * 2 + 1, none⟩) hgn).trans c3; have ka2 := (hS.cell (p := ⟨gn, on + j * 2, none⟩) hgn).trans c4; have ka3 := (hS.cell (p := ⟨gn, on + j * 2 + 1, none⟩) hgn).trans c5; first | (refine Free.run_yes (by rfl) ?_; go_simp; refine Free.o hK hS ?_; exact rfl) | (refine Free.run_no (by rfl) (Free.o hK hS ?_); exact rfl)
          refine Free.cons ?_ ?_
          · intro w' hS; intro K hK; have ka0 := (hS.cell (p := ⟨gn, on + r * 2, none⟩) hgn).trans c2; have ka1 := (hS.cell (p := ⟨gn, on + r * 2 + 1, none⟩) hgn).trans c3; have ka2 := (hS.cell (p := ⟨gn, on + j * 2, none⟩) hgn).trans c4; have ka3 := (hS.cell (p := ⟨gn, on + j * 2 + 1, none⟩) hgn).trans c5; first | (refine Free.run_yes (by rfl) ?_; go_simp; refine Free.o hK hS ?_; exact rfl) | (refine Free.run_no (by rfl) (Free.o hK hS ?_); exact rfl)
          refine Free.cons ?_ ?_
          · intro w' hS; intro K hK; have ka0 := (hS.cell (p := ⟨gn, on + r * 2, none⟩) hgn).trans c2; have ka1 := (hS.cell (p := ⟨gn, on + r * 2 + 1, none⟩) hgn).trans c3; have ka2 := (hS.cell (p := ⟨gn, on + j * 2, none⟩) hgn).trans c4; have ka3 := (hS.cell (p := ⟨gn, on + j * 2 + 1, none⟩) hgn).trans c5; first | (refine Free.run_yes (by rfl) ?_; go_simp; refine Free.o hK hS ?_; exact rfl) | (refine Free.run_no (by rfl) (Free.o hK hS ?_); exact rfl)
          refine Free.cons ?_ ?_
          · intro w' hS; (rintro _ rfl); (rintro _ rfl); intro K hK; have ka0 := (hS.cell (p := ⟨gn, on + r * 2, none⟩) hgn).trans c2; have ka1 := (hS.cell (p := ⟨gn, on + r * 2 + 1, none⟩) hgn).trans c3; have ka2 := (hS.cell (p := ⟨gn, on + j * 2, none⟩) hgn).trans c4; have ka3 := (hS.cell (p := ⟨gn, on + j * 2 + 1, none⟩) hgn).trans c5; first | (refine Free.run_yes (by rfl) ?_; go_simp; refine Free.o hK hS ?_; exact rfl) | (refine Free.run_no (by rfl) (Free.o hK hS ?_); exact rfl)
          refine Free.cons ?_ ?_
          · intro w' hS; (rintro _ rfl); intro K hK; have ka0 := (hS.cell (p := ⟨gn, on + r * 2, none⟩) hgn).trans c2; have ka1 := (hS.cell (p := ⟨gn, on + r * 2 + 1, none⟩) hgn).trans c3; have ka2 := (hS.cell (p := ⟨gn, on + j * 2, none⟩) hgn).trans c4; have ka3 := (hS.cell (p := ⟨gn, on + j * 2 + 1, none⟩) hgn).trans c5; first | (refine Free.run_yes (by rfl) ?_; go_simp; refine Free.o hK hS ?_; exact rfl) | (refine Free.run_no (by rfl) (Free.o hK hS ?_); exact rfl)
          refine Free.cons ?_ ?_
          · intro w' hS; (rintro _ rfl); (rintro _ rfl); intro K hK; have ka0 := (hS.cell (p := ⟨gn, on + r * 2, none⟩) hgn).trans c2; have ka1 := (hS.cell (p := ⟨gn, on + r * 2 + 1, none⟩) hgn).trans c3; have ka2 := (hS.cell (p := ⟨gn, on + j * 2, none⟩) hgn).trans c4; have ka3 := (hS.cell (p := ⟨gn, on + j * 2 + 1, none⟩) hgn).trans c5; refine Free.run_yes (by rfl) ?_; (go_simp; refine Free.o hK hS ?_; first | rfl | exact congrArg Value.bool (by simp))
          refine Free.cons ?_ ?_
          · intro w' hS; (rintro _ rfl); intro K hK; have ka0 := (hS.cell (p := ⟨gn, on + r * 2, none⟩) hgn).trans c2; have ka1 := (hS.cell (p := ⟨gn, on + r * 2 + 1, none⟩) hgn).trans c3; have ka2 := (hS.cell (p := ⟨gn, on + j * 2, none⟩) hgn).trans c4; have ka3 := (hS.cell (p := ⟨gn, on + j * 2 + 1, none⟩) hgn).trans c5; first | (refine Free.run_yes (by rfl) ?_; go_simp; refine Free.o hK hS ?_; exact rfl) | (refine Free.run_no (by rfl) (Free.o hK hS ?_); exact rfl)
          refine Free.cons ?_ ?_
          · intro w' hS; (rintro _ rfl); intro K hK; have ka0 := (hS.cell (p := ⟨gn, on + r * 2, none⟩) hgn).trans c2; have ka1 := (hS.cell (p := ⟨gn, on + r * 2 + 1, none⟩) hgn).trans c3; have ka2 := (hS.cell (p := ⟨gn, on + j * 2, none⟩) hgn).trans c4; have ka3 := (hS.cell (p := ⟨gn, on + j * 2 + 1, none⟩) hgn).trans c5; first | (refine Free.run_yes (by rfl) ?_; go_simp; refine Free.o hK hS ?_; exact rfl) | (refine Free.run_no (by rfl) (Free.o hK hS ?_); exact rfl)
          refine Free.cons ?_ ?_
          · intro w' hS; (rintro _ rfl); (rintro _ rfl); intro K hK; have ka0 := (hS.cell (p := ⟨gn, on + r * 2, none⟩) hgn).trans c2; have ka1 := (hS.cell (p := ⟨gn, on + r * 2 + 1, none⟩) hgn).trans c3; have ka2 := (hS.cell (p := ⟨gn, on + j * 2, none⟩) hgn).trans c4; have ka3 := (hS.cell (p := ⟨gn, on + j * 2 + 1, none⟩) hgn).trans c5; first | (refine Free.run_yes (by rfl) ?_; go_simp; refine Free.o hK hS ?_; exact rfl) | (refine Free.run_no (by rfl) (Free.o hK hS ?_); exact rfl)
          refine Free.cons ?_ ?_
          · intro w' hS; (rintro _ rfl); (rintro _ rfl); intro K hK; have ka0 := (hS.cell (p := ⟨gn, on + r * 2, none⟩) hgn).trans c2; have ka1 := (hS.cell (p := ⟨gn, on + r * 2 + 1, none⟩) hgn).trans c3; have ka2 := (hS.cell (p := ⟨gn, on + j * 2, none⟩) hgn).trans c4; have ka3 := (hS.cell (p := ⟨gn, on + j * 2 + 1, none⟩) hgn).trans c5; first | (refine Free.run_yes (by rfl) ?_; go_simp; refine Free.o hK hS ?_; exact rfl) | (refine Free.run_no (by rfl) (Free.o hK hS ?_); exact rfl)
          exact Free.nil
          clear hvo
          intro w' hS; intro v0; intro v1; intro v2; intro v3; intro v4; intro v5; intro v6; intro v7; intro v8; intro v9; intro v10; intro v11; (rintro _ rfl); (try simp only [Act.put, List.setIfInBounds_toArray, List.set_cons_zero, List.set_cons_succ]); refine Free.toldE_nil ?_
          cases fb with
          | false =>
            have hcc := uq_fresh hyh.out hf2.out
            go_wp2
            go_roundw
            case rel => exact ⟨r + 1, true, by omega, by go_num, congrArg (fun z : Nat => Value.int .i64 z) (by rw [hcc, huu.out]; rfl), rfl, Lib.hid hst.out.1, congrArg (fun z : Nat => Value.int .i64 z) (by rw [hst.out.2, huu.out]), Below.next bq (Below.next b3 hS (Nat.le_refl _)) (Nat.le_refl _)⟩
            case measure => simp [intOf]; omega
          | true =>
            have hcc := uq_fresh hyh.out hf2.out
            go_wp2
            go_roundw
            case rel => exact ⟨r + 1, true, by omega, by go_num, (by rw [hcc, huu.out, if_pos rfl]; go_num), rfl, Lib.hid hst.out.1, congrArg (fun z : Nat => Value.int .i64 z) (by rw [hst.out.2, huu.out]), Below.next bq (Below.next b3 hS (Nat.le_refl _)) (Nat.le_refl _)⟩
            case measure => simp [intOf]; omega
        | true =>
          have hst := step_pass (n := (uq l j).length) hyh.out (.inr rfl) hkb.out hna.out
          replace hst := Lib.hid hst
          go_wp2_with fail
          have hvo := Free.val
          refine Free.wp_facts (M := [0, 0, 3, 7, 0, 0, 48, 112, 255, 511, 1023, 2047, 4095]) (D := [[], [], [(0, 85), (1, 86)], [(2, 87)], [], [], [(4, 89), (5, 90)], [(6, 91)], [(3, 88), (7, 92)], [(8, 93)], [(9, 94)], [(10, 95), (9, 94)], [(9, 94), (11, 96)]]) (outs := [12]) (soles := []) (E := [(0, 85, false), (1, 86, false), (2, 87, false), (3, 88, false), (4, 89, false), (5, 90, false), (6, 91, false), (7, 92, false), (8, 93, false), (9, 94, false), (10, 95, false), (11, 96, false), (12, 97, true)]) (N := 156) (S := (fun w' => Below W3.heap.size W3 w')) [Free.Fact.is ?_, Free.Fact.is ?_, Free.Fact.is ?_, Free.Fact.is ?_, Free.Fact.is ?_, Free.Fact.is ?_, Free.Fact.is ?_, Free.Fact.is ?_, Free.Fact.is (.bool true), Free.Fact.is ?_, Free.Fact.is ?_, Free.Fact.is ?_, Free.Fact.is ?_] (by kernel_rfl) (by kernel_rfl) rfl ((Below.refl _ _).drew) ?_ ?_
          rotate_left 12
          refine Free.cons ?_ ?_
          · intro w' hS; intro K hK; have ka0 := (hS.cell (p := ⟨gn, on + r * 2, none⟩) hgn).trans c2; have ka1 := (hS.cell (p := ⟨gn, on + r * 2 + 1, none⟩) hgn).trans c3; have ka2 := (hS.cell (p := ⟨gn, on + j * 2, none⟩) hgn).trans c4; have ka3 := (hS.cell (p := ⟨gn, on + j * 2 + 1, none⟩) hgn).trans c5; first | (refine Free.run_yes (by rfl) ?_; go_simp; refine Free.o hK hS ?_; exact rfl) | (refine Free.run_no (by rfl) (Free.o hK hS ?_); exact rfl)
          refine Free.cons ?_ ?_
          · intro w' hS; intro K hK; have ka0 := (hS.cell (p := ⟨gn, on + r * 2, none⟩) hgn).trans c2; have ka1 := (hS.cell (p := ⟨gn, on + r * 2 + 1, none⟩) hgn).trans c3; have ka2 := (hS.cell (p := ⟨gn, on + j * 2, none⟩) hgn).trans c4; have ka3 := (hS.cell (p := ⟨gn, on + j * 2 + 1, none⟩) hgn).trans c5; first | (refine Free.run_yes (by rfl) ?_; go_simp; refine Free.o hK hS ?_; exact rfl) | (refine Free.run_no (by rfl) (Free.o hK hS ?_); exact rfl)
          refine Free.cons ?_ ?_
          · intro w' hS; (rintro _ rfl); (rintro _ rfl); intro K hK; have ka0 := (hS.cell (p := ⟨gn, on + r * 2, none⟩) hgn).trans c2; have ka1 := (hS.cell (p := ⟨gn, on + r * 2 + 1, none⟩) hgn).trans c3; have ka2 := (hS.cell (p := ⟨gn, on + j * 2, none⟩) hgn).trans c4; have ka3 := (hS.cell (p := ⟨gn, on + j * 2 + 1, none⟩) hgn).trans c5; first | (refine Free.run_yes (by rfl) ?_; go_simp; refine Free.o hK hS ?_; exact rfl) | (refine Free.run_no (by rfl) (Free.o hK hS ?_); exact rfl)
          refine Free.cons ?_ ?_
          · intro w' hS; (rintro _ rfl); intro K hK; have ka0 := (hS.cell (p := ⟨gn, on + r * 2, none⟩) hgn).trans c2; have ka1 := (hS.cell (p := ⟨gn, on + r * 2 + 1, none⟩) hgn).trans c3; have ka2 := (hS.cell (p := ⟨gn, on + j * 2, none⟩) hgn).trans c4; have ka3 := (hS.cell (p := ⟨gn, on + j * 2 + 1, none⟩) hgn).trans c5; first | (refine Free.run_yes (by rfl) ?_; go_simp; refine Free.o hK hS ?_; exact rfl) | (refine Free.run_no (by rfl) (Free.o hK hS ?_); exact rfl)
          refine Free.cons ?_ ?_
          · intro w' hS; intro K hK; have ka0 := (hS.cell (p := ⟨gn, on + r * 2, none⟩) hgn).trans c2; have ka1 := (hS.cell (p := ⟨gn, on + r * 2 + 1, none⟩) hgn).trans c3; have ka2 := (hS.cell (p := ⟨gn, on + j * 2, none⟩) hgn).trans c4; have ka3 := (hS.cell (p := ⟨gn, on + j * 2 + 1, none⟩) hgn).trans c5; first | (refine Free.run_yes (by rfl) ?_; go_simp; refine Free.o hK hS ?_; exact rfl) | (refine Free.run_no (by rfl) (Free.o hK hS ?_); exact rfl)
          refine Free.cons ?_ ?_
          · intro w' hS; intro K hK; have ka0 := (hS.cell (p := ⟨gn, on + r * 2, none⟩) hgn).trans c2; have ka1 := (hS.cell (p := ⟨gn, on + r * 2 + 1, none⟩) hgn).trans c3; have ka2 := (hS.cell (p := ⟨gn, on + j * 2, none⟩) hgn).trans c4; have ka3 := (hS.cell (p := ⟨gn, on + j * 2 + 1, none⟩) hgn).trans c5; first | (refine Free.run_yes (by rfl) ?_; go_simp; refine Free.o hK hS ?_; exact rfl) | (refine Free.run_no (by rfl) (Free.o hK hS ?_); exact rfl)
          refine Free.cons ?_ ?_
          · intro w' hS; (rintro _ rfl); (rintro _ rfl); intro K hK; have ka0 := (hS.cell (p := ⟨gn, on + r * 2, none⟩) hgn).trans c2; have ka1 := (hS.cell (p := ⟨gn, on + r * 2 + 1, none⟩) hgn).trans c3; have ka2 := (hS.cell (p := ⟨gn, on + j * 2, none⟩) hgn).trans c4; have ka3 := (hS.cell (p := ⟨gn, on + j * 2 + 1, none⟩) hgn).trans c5; first | (refine Free.run_yes (by rfl) ?_; go_simp; refine Free.o hK hS ?_; exact rfl) | (refine Free.run_no (by rfl) (Free.o hK hS ?_); exact rfl)
          refine Free.cons ?_ ?_
          · intro w' hS; (rintro _ rfl); intro K hK; have ka0 := (hS.cell (p := ⟨gn, on + r * 2, none⟩) hgn).trans c2; have ka1 := (hS.cell (p := ⟨gn, on + r * 2 + 1, none⟩) hgn).trans c3; have ka2 := (hS.cell (p := ⟨gn, on + j * 2, none⟩) hgn).trans c4; have ka3 := (hS.cell (p := ⟨gn, on + j * 2 + 1, none⟩) hgn).trans c5; first | (refine Free.run_yes (by rfl) ?_; go_simp; refine Free.o hK hS ?_; exact rfl) | (refine Free.run_no (by rfl) (Free.o hK hS ?_); exact rfl)
          refine Free.cons ?_ ?_
          · intro w' hS; (rintro _ rfl); (rintro _ rfl); intro K hK; have ka0 := (hS.cell (p := ⟨gn, on + r * 2, none⟩) hgn).trans c2; have ka1 := (hS.cell (p := ⟨gn, on + r * 2 + 1, none⟩) hgn).trans c3; have ka2 := (hS.cell (p := ⟨gn, on + j * 2, none⟩) hgn).trans c4; have ka3 := (hS.cell (p := ⟨gn, on + j * 2 + 1, none⟩) hgn).trans c5; refine Free.run_yes (by rfl) ?_; (go_simp; refine Free.o hK hS ?_; first | rfl | exact congrArg Value.bool (by simp))
          refine Free.cons ?_ ?_
          · intro w' hS; (rintro _ rfl); intro K hK; have ka0 := (hS.cell (p := ⟨gn, on + r * 2, none⟩) hgn).trans c2; have ka1 := (hS.cell (p := ⟨gn, on + r * 2 + 1, none⟩) hgn).trans c3; have ka2 := (hS.cell (p := ⟨gn, on + j * 2, none⟩) hgn).trans c4; have ka3 := (hS.cell (p := ⟨gn, on + j * 2 + 1, none⟩) hgn).trans c5; first | (refine Free.run_yes (by rfl) ?_; go_simp; refine Free.o hK hS ?_; exact rfl) | (refine Free.run_no (by rfl) (Free.o hK hS ?_); exact rfl)
          refine Free.cons ?_ ?_
          · intro w' hS; (rintro _ rfl); intro K hK; have ka0 := (hS.cell (p := ⟨gn, on + r * 2, none⟩) hgn).trans c2; have ka1 := (hS.cell (p := ⟨gn, on + r * 2 + 1, none⟩) hgn).trans c3; have ka2 := (hS.cell (p := ⟨gn, on + j * 2, none⟩) hgn).trans c4; have ka3 := (hS.cell (p := ⟨gn, on + j * 2 + 1, none⟩) hgn).trans c5; first | (refine Free.run_yes (by rfl) ?_; go_simp; refine Free.o hK hS ?_; exact rfl) | (refine Free.run_no (by rfl) (Free.o hK hS ?_); exact rfl)
          refine Free.cons ?_ ?_
          · intro w' hS; (rintro _ rfl); (rintro _ rfl); intro K hK; have ka0 := (hS.cell (p := ⟨gn, on + r * 2, none⟩) hgn).trans c2; have ka1 := (hS.cell (p := ⟨gn, on + r * 2 + 1, none⟩) hgn).trans c3; have ka2 := (hS.cell (p := ⟨gn, on + j * 2, none⟩) hgn).trans c4; have ka3 := (hS.cell (p := ⟨gn, on + j * 2 + 1, none⟩) hgn).trans c5; first | (refine Free.run_yes (by rfl) ?_; go_simp; refine Free.o hK hS ?_; exact rfl) | (refine Free.run_no (by rfl) (Free.o hK hS ?_); exact rfl)
          refine Free.cons ?_ ?_
          · intro w' hS; (rintro _ rfl); (rintro _ rfl); intro K hK; have ka0 := (hS.cell (p := ⟨gn, on + r * 2, none⟩) hgn).trans c2; have ka1 := (hS.cell (p := ⟨gn, on + r * 2 + 1, none⟩) hgn).trans c3; have ka2 := (hS.cell (p := ⟨gn, on + j * 2, none⟩) hgn).trans c4; have ka3 := (hS.cell (p := ⟨gn, on + j * 2 + 1, none⟩) hgn).trans c5; first | (refine Free.run_yes (by rfl) ?_; go_simp; refine Free.o hK hS ?_; exact rfl) | (refine Free.run_no (by rfl) (Free.o hK hS ?_); exact rfl)
          exact Free.nil
          clear hvo
          intro w' hS; intro v0; intro v1; intro v2; intro v3; intro v4; intro v5; intro v6; intro v7; intro v8; intro v9; intro v10; intro v11; (rintro _ rfl); (try simp only [Act.put, List.setIfInBounds_toArray, List.set_cons_zero, List.set_cons_succ]); refine Free.toldE_nil ?_
          cases fb with
          | false =>
            have hcc := uq_fresh hyh.out hf2.out
            go_wp2
            go_roundw
            case rel => exact ⟨r + 1, true, by omega, by go_num, congrArg (fun z : Nat => Value.int .i64 z) (by rw [hcc, huu.out]; rfl), rfl, Lib.hid hst.out.1, congrArg (fun z : Nat => Value.int .i64 z) hst.out.2.symm, Below.next bq (Below.next b3 hS (Nat.le_refl _)) (Nat.le_refl _)⟩
            case measure => simp [intOf]; omega
          | true =>
            have hcc := uq_fresh hyh.out hf2.out
            go_wp2
            go_roundw
            case rel => exact ⟨r + 1, true, by omega, by go_num, (by rw [hcc, huu.out, if_pos rfl]; go_num), rfl, Lib.hid hst.out.1, congrArg (fun z : Nat => Value.int .i64 z) hst.out.2.symm, Below.next bq (Below.next b3 hS (Nat.le_refl _)) (Nat.le_refl _)⟩
            case measure => simp [intOf]; omega
      · have hst := step_pass (n := (uq l j).length) hyh.out (.inl dxy) hkb.out hna.out
        replace hst := Lib.hid hst
        replace dxy := Lib.hid dxy
        go_wp2_with fail
        have hvo := Free.val
        refine Free.wp_facts (M := [0, 0, 3, 7, 0, 0, 48, 112, 255, 511, 1023, 2047, 4095]) (D := [[], [], [(0, 85), (1, 86)], [(2, 87)], [], [], [(4, 89), (5, 90)], [(6, 91)], [(3, 88), (7, 92)], [(8, 93)], [(9, 94)], [(10, 95), (9, 94)], [(9, 94), (11, 96)]]) (outs := [12]) (soles := []) (E := [(0, 85, false), (1, 86, false), (2, 87, false), (3, 88, false), (4, 89, false), (5, 90, false), (6, 91, false), (7, 92, false), (8, 93, false), (9, 94, false), (10, 95, false), (11, 96, false), (12, 97, true)]) (N := 156) (S := (fun w' => Below W3.heap.size W3 w')) [Free.Fact.is ?_, Free.Fact.is ?_, Free.Fact.is ?_, Free.Fact.is ?_, Free.Fact.is ?_, Free.Fact.is ?_, Free.Fact.is ?_, Free.Fact.is ?_, Free.Fact.is (.bool false), Free.Fact.is ?_, Free.Fact.is ?_, Free.Fact.is ?_, Free.Fact.is ?_] (by kernel_rfl) (by kernel_rfl) rfl ((Below.refl _ _).drew) ?_ ?_
        rotate_left 12
        refine Free.cons ?_ ?_
        · intro w' hS; intro K hK; have ka0 := (hS.cell (p := ⟨gn, on + r * 2, none⟩) hgn).trans c2; have ka1 := (hS.cell (p := ⟨gn, on + r * 2 + 1, none⟩) hgn).trans c3; have ka2 := (hS.cell (p := ⟨gn, on + j * 2, none⟩) hgn).trans c4; have ka3 := (hS.cell (p := ⟨gn, on + j * 2 + 1, none⟩) hgn).trans c5; first | (refine Free.run_yes (by rfl) ?_; go_simp; refine Free.o hK hS ?_; exact rfl) | (refine Free.run_no (by rfl) (Free.o hK hS ?_); exact rfl)
        refine Free.cons ?_ ?_
        · intro w' hS; intro K hK; have ka0 := (hS.cell (p := ⟨gn, on + r * 2, none⟩) hgn).trans c2; have ka1 := (hS.cell (p := ⟨gn, on + r * 2 + 1, none⟩) hgn).trans c3; have ka2 := (hS.cell (p := ⟨gn, on + j * 2, none⟩) hgn).trans c4; have ka3 := (hS.cell (p := ⟨gn, on + j * 2 + 1, none⟩) hgn).trans c5; first | (refine Free.run_yes (by rfl) ?_; go_simp; refine Free.o hK hS ?_; exact rfl) | (refine Free.run_no (by rfl) (Free.o hK hS ?_); exact rfl)
        refine Free.cons ?_ ?_
        · intro w' hS; (rintro _ rfl); (rintro _ rfl); intro K hK; have ka0 := (hS.cell (p := ⟨gn, on + r * 2, none⟩) hgn).trans c2; have ka1 := (hS.cell (p := ⟨gn, on + r * 2 + 1, none⟩) hgn).trans c3; have ka2 := (hS.cell (p := ⟨gn, on + j * 2, none⟩) hgn).trans c4; have ka3 := (hS.cell (p := ⟨gn, on + j * 2 + 1, none⟩) hgn).trans c5; first | (refine Free.run_yes (by rfl) ?_; go_simp; refine Free.o hK hS ?_; exact rfl) | (refine Free.run_no (by rfl) (Free.o hK hS ?_); exact rfl)
        refine Free.cons ?_ ?_
        · intro w' hS; (rintro _ rfl); intro K hK; have ka0 := (hS.cell (p := ⟨gn, on + r * 2, none⟩) hgn).trans c2; have ka1 := (hS.cell (p := ⟨gn, on + r * 2 + 1, none⟩) hgn).trans c3; have ka2 := (hS.cell (p := ⟨gn, on + j * 2, none⟩) hgn).trans c4; have ka3 := (hS.cell (p := ⟨gn, on + j * 2 + 1, none⟩) hgn).trans c5; first | (refine Free.run_yes (by rfl) ?_; go_simp; refine Free.o hK hS ?_; exact rfl) | (refine Free.run_no (by rfl) (Free.o hK hS ?_); exact rfl)
        refine Free.cons ?_ ?_
        · intro w' hS; intro K hK; have ka0 := (hS.cell (p := ⟨gn, on + r * 2, none⟩) hgn).trans c2; have ka1 := (hS.cell (p := ⟨gn, on + r * 2 + 1, none⟩) hgn).trans c3; have ka2 := (hS.cell (p := ⟨gn, on + j * 2, none⟩) hgn).trans c4; have ka3 := (hS.cell (p := ⟨gn, on + j * 2 + 1, none⟩) hgn).trans c5; first | (refine Free.run_yes (by rfl) ?_; go_simp; refine Free.o hK hS ?_; exact rfl) | (refine Free.run_no (by rfl) (Free.o hK hS ?_); exact rfl)
        refine Free.cons ?_ ?_
        · intro w' hS; intro K hK; have ka0 := (hS.cell (p := ⟨gn, on + r * 2, none⟩) hgn).trans c2; have ka1 := (hS.cell (p := ⟨gn, on + r * 2 + 1, none⟩) hgn).trans c3; have ka2 := (hS.cell (p := ⟨gn, on + j * 2, none⟩) hgn).trans c4; have ka3 := (hS.cell (p := ⟨gn, on + j * 2 + 1, none⟩) hgn).trans c5; first | (refine Free.run_yes (by rfl) ?_; go_simp; refine Free.o hK hS ?_; exact rfl) | (refine Free.run_no (by rfl) (Free.o hK hS ?_); exact rfl)
        refine Free.cons ?_ ?_
        · intro w' hS; (rintro _ rfl); (rintro _ rfl); intro K hK; have ka0 := (hS.cell (p := ⟨gn, on + r * 2, none⟩) hgn).trans c2; have ka1 := (hS.cell (p := ⟨gn, on + r * 2 + 1, none⟩) hgn).trans c3; have ka2 := (hS.cell (p := ⟨gn, on + j * 2, none⟩) hgn).trans c4; have ka3 := (hS.cell (p := ⟨gn, on + j * 2 + 1, none⟩) hgn).trans c5; first | (refine Free.run_yes (by rfl) ?_; go_simp; refine Free.o hK hS ?_; exact rfl) | (refine Free.run_no (by rfl) (Free.o hK hS ?_); exact rfl)
        refine Free.cons ?_ ?_
        · intro w' hS; (rintro _ rfl); intro K hK; have ka0 := (hS.cell (p := ⟨gn, on + r * 2, none⟩) hgn).trans c2; have ka1 := (hS.cell (p := ⟨gn, on + r * 2 + 1, none⟩) hgn).trans c3; have ka2 := (hS.cell (p := ⟨gn, on + j * 2, none⟩) hgn).trans c4; have ka3 := (hS.cell (p := ⟨gn, on + j * 2 + 1, none⟩) hgn).trans c5; first | (refine Free.run_yes (by rfl) ?_; go_simp; refine Free.o hK hS ?_; exact rfl) | (refine Free.run_no (by rfl) (Free.o hK hS ?_); exact rfl)
        refine Free.cons ?_ ?_
        · intro w' hS; (rintro _ rfl); (rintro _ rfl); intro K hK; have ka0 := (hS.cell (p := ⟨gn, on + r * 2, none⟩) hgn).trans c2; have ka1 := (hS.cell (p := ⟨gn, on + r * 2 + 1, none⟩) hgn).trans c3; have ka2 := (hS.cell (p := ⟨gn, on + j * 2, none⟩) hgn).trans c4; have ka3 := (hS.cell (p := ⟨gn, on + j * 2 + 1, none⟩) hgn).trans c5; refine Free.run_yes (by rfl) ?_; (by_cases d1 : y.1 = x.1 <;> by_cases d2 : y.2 = x.2 <;> first | exact absurd (Prod.ext d1 d2) dxy.out | (go_simp; refine Free.o hK hS ?_; exact congrArg Value.bool (by simp [d1, d2])))
        refine Free.cons ?_ ?_
        · intro w' hS; (rintro _ rfl); intro K hK; have ka0 := (hS.cell (p := ⟨gn, on + r * 2, none⟩) hgn).trans c2; have ka1 := (hS.cell (p := ⟨gn, on + r * 2 + 1, none⟩) hgn).trans c3; have ka2 := (hS.cell (p := ⟨gn, on + j * 2, none⟩) hgn).trans c4; have ka3 := (hS.cell (p := ⟨gn, on + j * 2 + 1, none⟩) hgn).trans c5; first | (refine Free.run_yes (by rfl) ?_; go_simp; refine Free.o hK hS ?_; exact rfl) | (refine Free.run_no (by rfl) (Free.o hK hS ?_); exact rfl)
        refine Free.cons ?_ ?_
        · intro w' hS; (rintro _ rfl); intro K hK; have ka0 := (hS.cell (p := ⟨gn, on + r * 2, none⟩) hgn).trans c2; have ka1 := (hS.cell (p := ⟨gn, on + r * 2 + 1, none⟩) hgn).trans c3; have ka2 := (hS.cell (p := ⟨gn, on + j * 2, none⟩) hgn).trans c4; have ka3 := (hS.cell (p := ⟨gn, on + j * 2 + 1, none⟩) hgn).trans c5; first | (refine Free.run_yes (by rfl) ?_; go_simp; refine Free.o hK hS ?_; exact rfl) | (refine Free.run_no (by rfl) (Free.o hK hS ?_); exact rfl)
        refine Free.cons ?_ ?_
        · intro w' hS; (rintro _ rfl); (rintro _ rfl); intro K hK; have ka0 := (hS.cell (p := ⟨gn, on + r * 2, none⟩) hgn).trans c2; have ka1 := (hS.cell (p := ⟨gn, on + r * 2 + 1, none⟩) hgn).trans c3; have ka2 := (hS.cell (p := ⟨gn, on + j * 2, none⟩) hgn).trans c4; have ka3 := (hS.cell (p := ⟨gn, on + j * 2 + 1, none⟩) hgn).trans c5; first | (refine Free.run_yes (by rfl) ?_; go_simp; refine Free.o hK hS ?_; exact rfl) | (refine Free.run_no (by rfl) (Free.o hK hS ?_); exact rfl)
        refine Free.cons ?_ ?_
        · intro w' hS; (rintro _ rfl); (rintro _ rfl); intro K hK; have ka0 := (hS.cell (p := ⟨gn, on + r * 2, none⟩) hgn).trans c2; have ka1 := (hS.cell (p := ⟨gn, on + r * 2 + 1, none⟩) hgn).trans c3; have ka2 := (hS.cell (p := ⟨gn, on + j * 2, none⟩) hgn).trans c4; have ka3 := (hS.cell (p := ⟨gn, on + j * 2 + 1, none⟩) hgn).trans c5; first | (refine Free.run_yes (by rfl) ?_; go_simp; refine Free.o hK hS ?_; exact rfl) | (refine Free.run_no (by rfl) (Free.o hK hS ?_); exact rfl)
        exact Free.nil
        clear hvo
        intro w' hS; intro v0; intro v1; intro v2; intro v3; intro v4; intro v5; intro v6; intro v7; intro v8; intro v9; intro v10; intro v11; (rintro _ rfl); (try simp only [Act.put, List.setIfInBounds_toArray, List.set_cons_zero, List.set_cons_succ]); refine Free.toldE_nil ?_
        cases fb with
        | false =>
          have hcc := uq_fresh hyh.out hf2.out
          go_wp2
          go_roundw
          case rel => exact ⟨r + 1, kb, by omega, by go_num, congrArg (fun z : Nat => Value.int .i64 z) (by rw [hcc, huu.out]; rfl), rfl, Lib.hid hst.out.1, congrArg (fun z : Nat => Value.int .i64 z) hst.out.2.symm, Below.next bq (Below.next b3 hS (Nat.le_refl _)) (Nat.le_refl _)⟩
          case measure => simp [intOf]; omega
        | true =>
          have hcc := uq_fresh hyh.out hf2.out
          go_wp2
          go_roundw
          case rel => exact ⟨r + 1, kb, by omega, by go_num, (by rw [hcc, huu.out, if_pos rfl]; go_num), rfl, Lib.hid hst.out.1, congrArg (fun z : Nat => Value.int .i64 z) hst.out.2.symm, Below.next bq (Below.next b3 hS (Nat.le_refl _)) (Nat.le_refl _)⟩
          case measure => simp [intOf]; omega
      -- I2]
  · obtain rfl : q = j := by omega
    have hxo := hxh.out
    have hstep := Lib.hid (ordS_step (L := L) (pads := P) hxo)
    have hpadq := Lib.hid (ordS_pad (L := L) (pads := P) (l := l) (i := q) (x := x))
    have hcount := Lib.hid (uq_count hxo)
    have hul := uq_len l q
    have hul1 := uq_len l (q + 1)
    have hq1 : q < n1 := gj
    have e4 := (blq.cell (p := ⟨gn, on + q * 2, none⟩) (World.block_lt_of_cell? w _ (hcn.out q x hxo).1)).trans (hcn.out q x hxo).1
    have e5 := (blq.cell (p := ⟨gn, on + q * 2 + 1, none⟩) (World.block_lt_of_cell? w _ (hcn.out q x hxo).2)).trans (hcn.out q x hxo).2
    have hgn := World.block_lt_of_cell? Wq _ e4
    replace hO := hO.below bq
    replace hF := hF.below bq
    have hkn : (fndK x (ordS L P l q).ks 0).isSome = kb := hkb.out.symm
    have hkn1 : (fndK x (ordS L P l (q + 1)).ks 0).isSome = true := (fndK_mem x _ 0).2 ((uq_mem (by have := hl1.out; omega)).2 (by rw [List.take_add_one, hxo]; simp))
    have hat : atK l x (uq l q).length q ≤ (uq l q).length := by
      unfold atK
      cases e : fndK x (uq l q) 0 with
      | none => exact Nat.le_refl _
      | some a => have := fndK_ge _ _ _ _ e; simp only; omega
    obtain ⟨na, hna⟩ : ∃ na, atK l x (uq l q).length q = na := ⟨_, rfl⟩
    rewrite [hna]
    rw [hna] at hat
    clear hxo
    have hpadl : padOf (ordS L P l q) x = drawL P (na * L) L := by rw [hpadq.out, hna]
    replace hna := Lib.hid hna
    obtain ⟨uu, huu⟩ : ∃ uu, (uq l q).length = uu := ⟨_, rfl⟩
    obtain ⟨u1, hu1⟩ : ∃ u1, (uq l (q + 1)).length = u1 := ⟨_, rfl⟩
    have huu0 : uu ≤ 39 := by omega
    have hu10 : u1 ≤ 40 := by omega
    have hna0 : na ≤ 39 := by omega
    rewrite [huu]
    have hkn2 := Lib.hid hkn
    have hkn3 := Lib.hid hkn1
    have hpad2 := Lib.hid hpadl
    have huu2 := Lib.hid huu
    have hu12 := Lib.hid hu1
    clear hkn hkn1 hpadl huu hu1 hat hul hul1 hkb
    have hgw := World.block_lt_of_cell? w _ (hcn.out q x hxh.out).1
    have hu1e : u1 = uu + (if kb = true then 0 else 1) := by
      have h1 := hcount.out
      rw [show (fndK x (uq l q) 0).isSome = kb from hkn2.out, hu12.out, huu2.out] at h1
      exact h1
    replace hu1e := Lib.hid hu1e
    have o1 := hO.o1
    have o2 := hO.o2
    clear hq hcount
    go_wp2_with fail
    refine (orc_known _ p t m B n0 d n0 (.slice none 0 0) vs (ordS L P l q) x.1 x.2 kb hO hkn2.out).mono ?_
    rintro e wa ⟨rfl, ba⟩
    have bla := Below.next blq ba (Nat.le_refl _)
    replace hO := hO.below ba
    replace hF := hF.below ba
    replace e4 := (ba.cell (p := ⟨gn, on + q * 2, none⟩) hgn).trans e4
    replace e5 := (ba.cell (p := ⟨gn, on + q * 2 + 1, none⟩) hgn).trans e5
    have hdd : (ordS L P l q).d ≤ 1000000000000 := by
      show (uq l q).length * L ≤ _
      rw [huu2.out]
      exact Nat.le_trans (Nat.mul_le_mul huu0 hL2) (by decide)
    have hsz := Nat.lt_of_lt_of_le hb6l (Nat.le_trans bq.size ba.size)
    have HP := Lib.hid (orc_pad wa p t m B n0 d n0 (.slice none 0 0) vs (ordS L P l q) x.1 x.2 hO hdd)
    clear ba blq hdd hO bq bl
    cases kb with
    | true =>
      have huz : u1 = uu := hu1e.out
      have huz2 := Lib.hid huz
      clear huz
      go_wp2_with fail
      refine HP.out.mono ?_
      rintro e wb ⟨v, vs', rfl, hov, hOb, hk, -, -⟩
      have hov2 : OB wb wa.heap.size v (drawL P (na * L) L) := by rw [← hpad2.out]; exact hov
      obtain ⟨A5, c5, rfl, hr5⟩ := OB.sl hov2 L (drawL_len _ _ _)
      have hOc : Orc wb p t m B n0 d n0 (.slice none 0 0) vs' (ordS L P l (q + 1)) := by rw [← hstep.out]; exact hOb
      have blb : Below w.heap.size w wb := bla.keeps hk (fun j hj e => e.elim (fun e => by omega) (fun e => by omega)) (Nat.le_refl _)
      replace hF := hF.keeps hk (fun _ a ha hS => by injection ha with ha; subst ha; exact hS.elim (fun e => by simp only at e; omega) (fun e => by simp only at e; omega))
      have hw5 : w5.heap.size < wb.heap.size := Nat.lt_of_lt_of_le hsz hk.size
      clear hOb hov hov2 hk bla HP e4 e5 hgn
      have e4 := (blb.cell (p := ⟨gn, on + q * 2, none⟩) hgw).trans (hcn.out q x hxh.out).1
      have e5 := (blb.cell (p := ⟨gn, on + q * 2 + 1, none⟩) hgw).trans (hcn.out q x hxh.out).2
      have hgn := World.block_lt_of_cell? wb _ e4
      have hT : Tape wb t (u1 * L) P B n0 d n0 := by
        have := hOc.tp
        rw [show (ordS L P l (q + 1)).d = u1 * L from by show (uq l (q + 1)).length * L = _; rw [hu12.out]] at this
        exact this
      have y0 := hOc.blk.cell 0 (v := .pointer (some ⟨t, 0, none⟩)) rfl
      have e1 : (u1 * L : Nat) ≤ 800 := Nat.le_trans (Nat.mul_le_mul hu10 hL2) (by decide)
      have e2 : (na * L : Nat) ≤ 780 := Nat.le_trans (Nat.mul_le_mul hna0 hL2) (by decide)
      have hcm : (u1 : Int) * (L : Int) = wrap64 ((uu : Int) * (L : Int)) := by
        rw [← huz2.out, ← Int.natCast_mul, IntWalk.wrap64_in _ (by omega)]
      have hcut := hF.cut (na * L) (na * L + L) (by omega) (by omega)
      rw [if_neg (by omega), Option.map_some, Addr.add_lit, Nat.zero_add, Nat.add_sub_cancel_left, ← hfu.out, full_cut (by omega)] at hcut
      have HB := Lib.hid (ref_Bytes A5 _ L c5 L (M - na * L) _ _ wb hr5 hcut)
      rw [beq_self_eq_true] at HB
      clear hr5 hcut
      go_wp2_with fail
      refine (reel_drawn _ t (u1 * L) P B n0 d n0 hT).mono ?_
      rintro e wc ⟨rfl, rfl⟩
      go_wp2_with fail
      refine HB.out.mono ?_
      rintro e wc ⟨rfl, rfl⟩
      go_wp2_with fail
      refine (orc_known _ p t m B n0 d n0 (.slice none 0 0) vs' (ordS L P l (q + 1)) x.1 x.2 true hOc hkn3.out).mono ?_
      rintro e wc ⟨rfl, bc⟩
      go_wp2
      go_roundw
      case rel => exact ⟨q + 1, vs', by omega, by rw [hu12.out, huz2.out], by go_num, hOc.below bc, Below.next blb bc (Nat.le_refl _), hF.below bc, Nat.lt_of_lt_of_le hw5 bc.size⟩
      case measure => simp [intOf]; omega
    | false =>
      have huz : u1 = uu + 1 := hu1e.out
      have huz2 := Lib.hid huz
      clear huz
      go_wp2_with fail
      refine HP.out.mono ?_
      rintro e wb ⟨v, vs', rfl, hov, hOb, hk, -, -⟩
      have hov2 : OB wb wa.heap.size v (drawL P (na * L) L) := by rw [← hpad2.out]; exact hov
      obtain ⟨A5, c5, rfl, hr5⟩ := OB.sl hov2 L (drawL_len _ _ _)
      have hOc : Orc wb p t m B n0 d n0 (.slice none 0 0) vs' (ordS L P l (q + 1)) := by rw [← hstep.out]; exact hOb
      have blb : Below w.heap.size w wb := bla.keeps hk (fun j hj e => e.elim (fun e => by omega) (fun e => by omega)) (Nat.le_refl _)
      replace hF := hF.keeps hk (fun _ a ha hS => by injection ha with ha; subst ha; exact hS.elim (fun e => by simp only at e; omega) (fun e => by simp only at e; omega))
      have hw5 : w5.heap.size < wb.heap.size := Nat.lt_of_lt_of_le hsz hk.size
      clear hOb hov hov2 hk bla HP e4 e5 hgn
      have e4 := (blb.cell (p := ⟨gn, on + q * 2, none⟩) hgw).trans (hcn.out q x hxh.out).1
      have e5 := (blb.cell (p := ⟨gn, on + q * 2 + 1, none⟩) hgw).trans (hcn.out q x hxh.out).2
      have hgn := World.block_lt_of_cell? wb _ e4
      have hT : Tape wb t (u1 * L) P B n0 d n0 := by
        have := hOc.tp
        rw [show (ordS L P l (q + 1)).d = u1 * L from by show (uq l (q + 1)).length * L = _; rw [hu12.out]] at this
        exact this
      have y0 := hOc.blk.cell 0 (v := .pointer (some ⟨t, 0, none⟩)) rfl
      have e1 : (u1 * L : Nat) ≤ 800 := Nat.le_trans (Nat.mul_le_mul hu10 hL2) (by decide)
      have e2 : (na * L : Nat) ≤ 780 := Nat.le_trans (Nat.mul_le_mul hna0 hL2) (by decide)
      have hcm : (u1 : Int) * (L : Int) = wrap64 (((uu : Int) + 1) * (L : Int)) := by
        rw [show ((uu : Int) + 1) = (u1 : Int) from by rw [huz2.out]; omega, ← Int.natCast_mul, IntWalk.wrap64_in _ (by omega)]
      have hcut := hF.cut (na * L) (na * L + L) (by omega) (by omega)
      rw [if_neg (by omega), Option.map_some, Addr.add_lit, Nat.zero_add, Nat.add_sub_cancel_left, ← hfu.out, full_cut (by omega)] at hcut
      have HB := Lib.hid (ref_Bytes A5 _ L c5 L (M - na * L) _ _ wb hr5 hcut)
      rw [beq_self_eq_true] at HB
      clear hr5 hcut
      go_wp2_with fail
      refine (reel_drawn _ t (u1 * L) P B n0 d n0 hT).mono ?_
      rintro e wc ⟨rfl, rfl⟩
      go_wp2_with fail
      refine HB.out.mono ?_
      rintro e wc ⟨rfl, rfl⟩
      go_wp2_with fail
      refine (orc_known _ p t m B n0 d n0 (.slice none 0 0) vs' (ordS L P l (q + 1)) x.1 x.2 true hOc hkn3.out).mono ?_
      rintro e wc ⟨rfl, bc⟩
      go_wp2
      go_roundw
      case rel => exact ⟨q + 1, vs', by omega, by rw [hu12.out, huz2.out]; go_num, by go_num, hOc.below bc, Below.next blb bc (Nat.le_refl _), hF.below bc, Nat.lt_of_lt_of_le hw5 bc.size⟩
      case measure => simp [intOf]; omega
end Go.Proofs.Ytniendffanemcaa
/- A slice of bytes that came in reads as bytes. -/
namespace Go.Proofs.Ytniendffanemcaa
open Go.ChangeShapes Go.WideShapes Go.ChangeAt Go.RowKit
open Go.ChangeMaps (open_string shut_string)
set_option linter.unusedVariables false
set_option linter.unusedSimpArgs false
set_option maxRecDepth 100000
section
variable {H : Type} {enc : TypeId × Value → H}
theorem cells_u8 : Try.prog.cellsOf 5 = 1 := by kernel_rfl
theorem wf_byte {n : Int} (h : (Lit.int .u8 n).wf = true) : 0 ≤ n ∧ n < 256 := by
  have := range_u8 (zs := [n]) (fun m hm => by simp at hm; subst hm; exact h) 0
  simp at this
  omega
theorem open_bytes1 {W : World} {fuel : Nat} {v : Value} {x : DataW H × List MemPlace} (hf : DataW.trod enc Try.prog W 0 (fun _ => true) true fuel 22 [v] = some x) :
    ∃ A n c l, v = .slice A n c ∧ RB W A n c l := by
  rcases open_ints Try.underlying22 Try.underlying5 cells_u8 hf with ⟨hcs, hx⟩ | ⟨a, len', cap', zs, hcs, _, hl, hm, hz, hx, hcell, hwz⟩
  · simp at hcs
    exact ⟨none, 0, 0, [], hcs, RB.none_ W⟩
  · simp at hcs
    simp only [if_true] at hz
    refine ⟨some a, len', cap', (zs.take len').map fun n => UInt8.ofNat n.toNat, hcs, by simp; omega, hl, hm, fun h => (by cases h), fun hn => ?_⟩
    obtain ⟨ab, ao, spot⟩ := a
    have hspot : spot = none := by simpa [Addr.add] using World.cell?_spot (hcell 0 (by omega))
    subst hspot
    refine ⟨ab, ao, rfl, fun i b hb => ?_⟩
    have hi : i < len' := by have := (List.getElem?_eq_some_iff.1 hb).1; simp at this; omega
    have hc := hcell i (by omega)
    rw [Addr.add_lit] at hc
    rw [hc]
    rw [List.getElem?_map, List.getElem?_take, if_pos hi, List.getElem?_eq_getElem (by omega)] at hb
    simp only [Option.map_some, Option.some.injEq] at hb
    rw [← hb]
    have hw := wf_byte (hwz (zs[i]'(by omega)) (List.getElem_mem _))
    simp only [List.getD, List.getElem?_eq_getElem (show i < zs.length by omega), Option.getD_some, bv]
    generalize zs[i]'(by omega) = z at *
    rw [UInt8.toNat_ofNat', Nat.mod_eq_of_lt (by omega)]
    congr 3
    omega
theorem open_bytes {W : World} {base : Nat} {v1 : Value} {d1 : DataW H} {p1 : List MemPlace} (hval : Value.okWide Try.prog W .any base 22 v1) (h1 : DataW.Trod enc Try.prog W 0 (fun _ => true) true 22 v1 d1 p1) :
    ∃ A n c l, v1 = .slice A n c ∧ RB W A n c l := by
  obtain ⟨a1, len, cap, rfl⟩ := okWide_slice Try.underlying22 hval
  obtain ⟨fuel, hf⟩ := h1
  exact open_bytes1 hf
end
end Go.Proofs.Ytniendffanemcaa
