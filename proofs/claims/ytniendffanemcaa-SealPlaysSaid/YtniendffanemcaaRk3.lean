/- Merged: SlW, SlX, SlY, SlZ, SmA, SmB, SmC, SlN, Recs, Args, SmD, SlP, SlQ, SmE, SmF, SmH. -/
import Derived.Test.YtniendffanemcaaRk2
import Derived.ChangeSlices
import Derived.Deep.Slices
import Derived.Deep.Fields
import Derived.Deep.Matrix
/- The document's tape of pads: Draw. -/
namespace Go.Proofs.Ytniendffanemcaa
open Go.ChangeShapes Go.WideShapes Go.ChangeAt Go.RowKit
open Go.ChangeMaps (open_string shut_string)
set_option linter.unusedVariables false
set_option linter.unusedSimpArgs false
set_option maxRecDepth 100000

set_option maxHeartbeats 8000000 in
theorem rf_draw (u d m : Nat) (l : List UInt8) (A : Option Addr) (n c : Nat) (w : World) (hb : Blk w u #[.slice A n c, .int .i64 d] 62) (hr : RB w A n c l) (hn : n ≤ 1000000) (hd : d ≤ 1000000000000) (h1 : 1 ≤ m) (h4 : m ≤ 4000) :
    Calls Try.prog 40 #[.pointer (some ⟨u, 0, none⟩), .int .i64 m] w fun e w' => e = .returned (.slice (some ⟨w.heap.size, 0, none⟩) m m) ∧ OB w' w.heap.size (.slice (some ⟨w.heap.size, 0, none⟩) m m) (drawL l d m) ∧ Blk w' u #[.slice A n c, .int .i64 ((d + m : Nat) : Int)] 62 ∧ Keeps (fun k => k = u) w w' := by
  have hmk := fun w => run_mk w m (by omega)
  have hul := hb.lt
  have hlen := Lib.hid hr.len
  have h0 : OB (w.alloc (.cells (bcells (List.replicate m 0)) 5)) w.heap.size (.slice (some ⟨w.heap.size, 0, none⟩) m m) (drawI l d m 0) := by
    have := OB.of_row (B := w.heap.size) (Blk.new w (bcells (List.replicate m 0)) 5) (by simp; unfold maxLen; omega) (Nat.le_refl _)
    rw [List.length_replicate] at this
    rw [drawI_zero]
    exact this
  have b0 := (Below.refl w.heap.size w).alloc (Nat.le_refl _) (.cells (bcells (List.replicate m 0)) 5)
  go_enter Try.func40, Try.ntmps40
  go_wp2
  go_loopw [6] (fun i wr => ∃ j : Nat, j ≤ m ∧ i = .int .i64 j ∧ OB wr w.heap.size (.slice (some ⟨w.heap.size, 0, none⟩) m m) (drawI l d m j) ∧ Below w.heap.size w wr) (fun i _ => m - (intOf i).toNat)
  case atStart => exact ⟨0, by omega, rfl, h0, b0⟩
  case round =>
    obtain ⟨j, hj, rfl, hP, blq⟩ := hrel
    obtain ⟨Wq, rfl⟩ : ∃ W, W = wr := ⟨_, rfl⟩
    have hbq := hb.below blq hul
    have hulq := hbq.lt
    have c0 := hbq.cell 0 (v := .slice A n c) rfl
    have c1 := hbq.cell 1 (v := .int .i64 d) rfl
    by_cases gj : j < m
    · have hR := fun {w w' : World} (h : Below w.heap.size w w') => h
      have hwr : IntKind.i64.wrap ((d : Int) + (j : Int)) = (d : Int) + (j : Int) := IntWalk.i64_in _ (by omega)
      go_wp2_with fail
      have hvo := Free.val
      refine Free.wp_facts (M := [0, 1, 3, 7, 0, 31, 0, 64, 192, 448, 960, 2047]) (D := [[], [(0, 20)], [(1, 21)], [(2, 22)], [], [(3, 23), (4, 24)], [], [(6, 26)], [(7, 27)], [(8, 28)], [(9, 29)], [(5, 25), (10, 30)]]) (outs := [11]) (soles := []) (E := [(0, 20, false), (1, 21, false), (2, 22, false), (3, 23, false), (4, 24, false), (5, 25, false), (6, 26, false), (7, 27, false), (8, 28, false), (9, 29, false), (10, 30, false), (11, 31, true)]) (N := 56) (S := (fun w' => Below Wq.heap.size Wq w')) [Free.Fact.is ?_, Free.Fact.is ?_, Free.Fact.is ?_, Free.Fact.is ?_, Free.Fact.is ?_, Free.Fact.is ?_, Free.Fact.is ?_, Free.Fact.is ?_, Free.Fact.is ?_, Free.Fact.is ?_, Free.Fact.is ?_, Free.Fact.is ?_] (by kernel_rfl) (by kernel_rfl) rfl ((Below.refl _ _).drew) ?_ ?_
      rotate_left 12
      refine Free.cons ?_ ?_
      · intro w' hS; intro K hK; have k0 := (hS.cell (p := ⟨u, 0, none⟩) hulq).trans c0; have k1 := (hS.cell (p := ⟨u, 1, none⟩) hulq).trans c1; first | (refine Free.run_yes (by rfl) ?_; go_simp; refine Free.o hK hS ?_; exact rfl) | (refine Free.run_no (by rfl) (Free.o hK hS ?_); exact rfl)
      refine Free.cons ?_ ?_
      · intro w' hS; (rintro _ rfl); intro K hK; have k0 := (hS.cell (p := ⟨u, 0, none⟩) hulq).trans c0; have k1 := (hS.cell (p := ⟨u, 1, none⟩) hulq).trans c1; first | (refine Free.run_yes (by rfl) ?_; go_simp; refine Free.o hK hS ?_; exact rfl) | (refine Free.run_no (by rfl) (Free.o hK hS ?_); exact rfl)
      refine Free.cons ?_ ?_
      · intro w' hS; (rintro _ rfl); intro K hK; have k0 := (hS.cell (p := ⟨u, 0, none⟩) hulq).trans c0; have k1 := (hS.cell (p := ⟨u, 1, none⟩) hulq).trans c1; first | (refine Free.run_yes (by rfl) ?_; go_simp; refine Free.o hK hS ?_; exact rfl) | (refine Free.run_no (by rfl) (Free.o hK hS ?_); exact rfl)
      refine Free.cons ?_ ?_
      · intro w' hS; (rintro _ rfl); intro K hK; have k0 := (hS.cell (p := ⟨u, 0, none⟩) hulq).trans c0; have k1 := (hS.cell (p := ⟨u, 1, none⟩) hulq).trans c1; first | (refine Free.run_yes (by rfl) ?_; go_simp; refine Free.o hK hS ?_; exact rfl) | (refine Free.run_no (by rfl) (Free.o hK hS ?_); exact rfl)
      refine Free.cons ?_ ?_
      · intro w' hS; intro K hK; have k0 := (hS.cell (p := ⟨u, 0, none⟩) hulq).trans c0; have k1 := (hS.cell (p := ⟨u, 1, none⟩) hulq).trans c1; first | (refine Free.run_yes (by rfl) ?_; go_simp; refine Free.o hK hS ?_; exact rfl) | (refine Free.run_no (by rfl) (Free.o hK hS ?_); exact rfl)
      refine Free.cons ?_ ?_
      · intro w' hS; (rintro _ rfl); (rintro _ rfl); intro K hK; have k0 := (hS.cell (p := ⟨u, 0, none⟩) hulq).trans c0; have k1 := (hS.cell (p := ⟨u, 1, none⟩) hulq).trans c1; first | (refine Free.run_yes (by rfl) ?_; go_simp; refine Free.o hK hS ?_; exact rfl) | (refine Free.run_no (by rfl) (Free.o hK hS ?_); exact rfl)
      refine Free.cons ?_ ?_
      · intro w' hS; intro K hK; have k0 := (hS.cell (p := ⟨u, 0, none⟩) hulq).trans c0; have k1 := (hS.cell (p := ⟨u, 1, none⟩) hulq).trans c1; first | (refine Free.run_yes (by rfl) ?_; go_simp; refine Free.o hK hS ?_; exact rfl) | (refine Free.run_no (by rfl) (Free.o hK hS ?_); exact rfl)
      refine Free.cons ?_ ?_
      · intro w' hS; (rintro _ rfl); intro K hK; have k0 := (hS.cell (p := ⟨u, 0, none⟩) hulq).trans c0; have k1 := (hS.cell (p := ⟨u, 1, none⟩) hulq).trans c1; first | (refine Free.run_yes (by rfl) ?_; go_simp; refine Free.o hK hS ?_; exact rfl) | (refine Free.run_no (by rfl) (Free.o hK hS ?_); exact rfl)
      refine Free.cons ?_ ?_
      · intro w' hS; (rintro _ rfl); intro K hK; have k0 := (hS.cell (p := ⟨u, 0, none⟩) hulq).trans c0; have k1 := (hS.cell (p := ⟨u, 1, none⟩) hulq).trans c1; first | (refine Free.run_yes (by rfl) ?_; go_simp; refine Free.o hK hS ?_; exact rfl) | (refine Free.run_no (by rfl) (Free.o hK hS ?_); exact rfl)
      refine Free.cons ?_ ?_
      · intro w' hS; (rintro _ rfl); intro K hK; have k0 := (hS.cell (p := ⟨u, 0, none⟩) hulq).trans c0; have k1 := (hS.cell (p := ⟨u, 1, none⟩) hulq).trans c1; first | (refine Free.run_yes (by rfl) ?_; go_simp; refine Free.o hK hS ?_; exact rfl) | (refine Free.run_no (by rfl) (Free.o hK hS ?_); exact rfl)
      refine Free.cons ?_ ?_
      · intro w' hS; (rintro _ rfl); intro K hK; have k0 := (hS.cell (p := ⟨u, 0, none⟩) hulq).trans c0; have k1 := (hS.cell (p := ⟨u, 1, none⟩) hulq).trans c1; first | (refine Free.run_yes (by rfl) ?_; go_simp; refine Free.o hK hS ?_; exact rfl) | (refine Free.run_no (by rfl) (Free.o hK hS ?_); exact rfl)
      refine Free.cons ?_ ?_
      · intro w' hS; (rintro _ rfl); (rintro _ rfl); intro K hK; have k0 := (hS.cell (p := ⟨u, 0, none⟩) hulq).trans c0; have k1 := (hS.cell (p := ⟨u, 1, none⟩) hulq).trans c1; first | (refine Free.run_yes (by rfl) ?_; go_simp; refine Free.o hK hS ?_; exact rfl) | (refine Free.run_no (by rfl) (Free.o hK hS ?_); exact rfl)
      exact Free.nil
      clear hvo
      intro w' hS; intro v0; intro v1; intro v2; intro v3; intro v4; intro v5; intro v6; intro v7; intro v8; intro v9; intro v10; (rintro _ rfl); (try simp only [Act.put, List.setIfInBounds_toArray, List.set_cons_zero, List.set_cons_succ]); refine Free.toldE_nil ?_
      obtain ⟨W7, rfl⟩ : ∃ W, W = w' := ⟨_, rfl⟩
      have bl7 := Below.next blq hS (Nat.le_refl _)
      have hP7 := OB.below hP hS
      have hb7 := hb.below bl7 hul
      have c0 := hb7.cell 0 (v := .slice A n c) rfl
      have c1 := hb7.cell 1 (v := .int .i64 d) rfl
      have hul7 := hb7.lt
      clear hS hP hbq
      by_cases gd : (d : Int) + (j : Int) < (n : Int)
      · obtain ⟨y, hy⟩ : ∃ y, l[d + j]? = some y := ⟨_, List.getElem?_eq_getElem (by have := hlen.out; omega)⟩
        have hst := drawI_set l d m j gj
        rw [hy] at hst
        obtain ⟨dj, hdj0⟩ : ∃ dj, d + j = dj := ⟨_, rfl⟩
        have hdj : (d : Int) + (j : Int) = (dj : Int) := by omega
        rw [hdj0] at hy
        have hdn : dj < n := by omega
        have hdnI : (dj : Int) < (n : Int) := by omega
        replace hdj0 := Lib.hid hdj0
        obtain ⟨gb, ob, rfl, hcb⟩ := (hr.below bl7).at_ (by omega)
        have q2 : W7.cell? ⟨gb, ob + dj, none⟩ = some (.int .u8 y.toNat) := hcb dj y hy
        have hgb := World.block_lt_of_cell? W7 _ q2
        obtain ⟨x, hx⟩ : ∃ x, (drawI l d m j)[j]? = some x := ⟨_, List.getElem?_eq_getElem (by rw [drawI_len _ _ _ _ hj]; exact gj)⟩
        obtain ⟨g5, e5, hg5, hg5b, -, hfz, hcell⟩ := hP7.at_ (by omega)
        injection e5 with e5
        injection e5 with e5
        subst e5
        have q0 := hcell j x hx
        have q1 := hfz j
        have hst := Lib.hid hst
        clear hx hy hcb hcell hfz
        go_wp2_with fail
        have hvo := Free.val
        refine Free.wp_factsR (R := (fun w w' => Below w.heap.size w w')) (ss := [15]) (pures := [0, 1, 2, 3, 4, 5, 6, 7, 8, 9, 10, 11, 12, 13, 14]) (M := [0, 0, 0, 4, 12, 28, 0, 64, 192, 448, 0, 1984, 4092, 8188, 16383, 32767]) (D := [[], [], [], [(2, 34)], [(3, 35)], [(4, 36)], [], [(6, 38)], [(7, 39)], [(8, 40)], [], [(9, 41), (10, 42)], [(5, 37), (11, 43)], [(12, 44)], [(0, 32), (1, 33)], [(14, 46), (13, 45)]]) (outs := []) (soles := [15]) (E := [(0, 32, false), (1, 33, false), (2, 34, false), (3, 35, false), (4, 36, false), (5, 37, false), (6, 38, false), (7, 39, false), (8, 40, false), (9, 41, false), (10, 42, false), (11, 43, false), (12, 44, false), (13, 45, false), (14, 46, false)]) (N := 56) (S := (fun (st : Nat) w' => (st = 0 → Below W7.heap.size W7 w') ∧ (st = 1 → ∃ w'', Below W7.heap.size W7 w'' ∧ w' = w''.setCell ⟨w.heap.size, j, none⟩ (.int .u8 y.toNat)))) [Free.FactR.is ?_, Free.FactR.is ?_, Free.FactR.is ?_, Free.FactR.is ?_, Free.FactR.is ?_, Free.FactR.is ?_, Free.FactR.is ?_, Free.FactR.is ?_, Free.FactR.is ?_, Free.FactR.is ?_, Free.FactR.is ?_, Free.FactR.is (.int .i64 dj), Free.FactR.is ?_, Free.FactR.is ?_, Free.FactR.is ?_, Free.FactR.any] (by kernel_rfl) (by kernel_rfl) (by kernel_rfl) rfl rfl (by decide) (⟨fun _ => (Below.refl _ _).drew, fun e => absurd e (by decide)⟩) ?_ ?_
        rotate_left 14
        refine Free.cons ?_ ?_
        · intro st hag; (obtain rfl : st = 0 := Nat.le_antisymm hag.2 hag.1); intro w' hS; intro K hK; have hs := hS.1 rfl; have k0 := (hs.cell (p := ⟨u, 0, none⟩) hul7).trans c0; have k1 := (hs.cell (p := ⟨u, 1, none⟩) hul7).trans c1; have ka0 := (hs.cell (p := ⟨w.heap.size, j, none⟩) hg5b).trans q0; have kf := (hs.frozen (p := ⟨w.heap.size, j, none⟩) hg5b).trans q1; have kb := (hs.cell (p := ⟨gb, ob + dj, none⟩) hgb).trans q2; first | (refine Free.run_yes (by rfl) ?_; go_simp; refine Free.oR hK (hR (Below.refl _ _)) hS ?_; exact rfl) | (refine Free.run_no (by rfl) (Free.oR hK (hR (Below.refl _ _)) hS ?_); exact rfl)
        refine Free.cons ?_ ?_
        · intro st hag; (obtain rfl : st = 0 := Nat.le_antisymm hag.2 hag.1); intro w' hS; intro K hK; have hs := hS.1 rfl; have k0 := (hs.cell (p := ⟨u, 0, none⟩) hul7).trans c0; have k1 := (hs.cell (p := ⟨u, 1, none⟩) hul7).trans c1; have ka0 := (hs.cell (p := ⟨w.heap.size, j, none⟩) hg5b).trans q0; have kf := (hs.frozen (p := ⟨w.heap.size, j, none⟩) hg5b).trans q1; have kb := (hs.cell (p := ⟨gb, ob + dj, none⟩) hgb).trans q2; first | (refine Free.run_yes (by rfl) ?_; go_simp; refine Free.oR hK (hR (Below.refl _ _)) hS ?_; exact rfl) | (refine Free.run_no (by rfl) (Free.oR hK (hR (Below.refl _ _)) hS ?_); exact rfl)
        refine Free.cons ?_ ?_
        · intro st hag; (obtain rfl : st = 0 := Nat.le_antisymm hag.2 hag.1); intro w' hS; intro K hK; have hs := hS.1 rfl; have k0 := (hs.cell (p := ⟨u, 0, none⟩) hul7).trans c0; have k1 := (hs.cell (p := ⟨u, 1, none⟩) hul7).trans c1; have ka0 := (hs.cell (p := ⟨w.heap.size, j, none⟩) hg5b).trans q0; have kf := (hs.frozen (p := ⟨w.heap.size, j, none⟩) hg5b).trans q1; have kb := (hs.cell (p := ⟨gb, ob + dj, none⟩) hgb).trans q2; first | (refine Free.run_yes (by rfl) ?_; go_simp; refine Free.oR hK (hR (Below.refl _ _)) hS ?_; exact rfl) | (refine Free.run_no (by rfl) (Free.oR hK (hR (Below.refl _ _)) hS ?_); exact rfl)
        refine Free.cons ?_ ?_
        · intro st hag; (obtain rfl : st = 0 := Nat.le_antisymm hag.2 hag.1); intro w' hS; (rintro _ rfl); intro K hK; have hs := hS.1 rfl; have k0 := (hs.cell (p := ⟨u, 0, none⟩) hul7).trans c0; have k1 := (hs.cell (p := ⟨u, 1, none⟩) hul7).trans c1; have ka0 := (hs.cell (p := ⟨w.heap.size, j, none⟩) hg5b).trans q0; have kf := (hs.frozen (p := ⟨w.heap.size, j, none⟩) hg5b).trans q1; have kb := (hs.cell (p := ⟨gb, ob + dj, none⟩) hgb).trans q2; first | (refine Free.run_yes (by rfl) ?_; go_simp; refine Free.oR hK (hR (Below.refl _ _)) hS ?_; exact rfl) | (refine Free.run_no (by rfl) (Free.oR hK (hR (Below.refl _ _)) hS ?_); exact rfl)
        refine Free.cons ?_ ?_
        · intro st hag; (obtain rfl : st = 0 := Nat.le_antisymm hag.2 hag.1); intro w' hS; (rintro _ rfl); intro K hK; have hs := hS.1 rfl; have k0 := (hs.cell (p := ⟨u, 0, none⟩) hul7).trans c0; have k1 := (hs.cell (p := ⟨u, 1, none⟩) hul7).trans c1; have ka0 := (hs.cell (p := ⟨w.heap.size, j, none⟩) hg5b).trans q0; have kf := (hs.frozen (p := ⟨w.heap.size, j, none⟩) hg5b).trans q1; have kb := (hs.cell (p := ⟨gb, ob + dj, none⟩) hgb).trans q2; first | (refine Free.run_yes (by rfl) ?_; go_simp; refine Free.oR hK (hR (Below.refl _ _)) hS ?_; exact rfl) | (refine Free.run_no (by rfl) (Free.oR hK (hR (Below.refl _ _)) hS ?_); exact rfl)
        refine Free.cons ?_ ?_
        · intro st hag; (obtain rfl : st = 0 := Nat.le_antisymm hag.2 hag.1); intro w' hS; (rintro _ rfl); intro K hK; have hs := hS.1 rfl; have k0 := (hs.cell (p := ⟨u, 0, none⟩) hul7).trans c0; have k1 := (hs.cell (p := ⟨u, 1, none⟩) hul7).trans c1; have ka0 := (hs.cell (p := ⟨w.heap.size, j, none⟩) hg5b).trans q0; have kf := (hs.frozen (p := ⟨w.heap.size, j, none⟩) hg5b).trans q1; have kb := (hs.cell (p := ⟨gb, ob + dj, none⟩) hgb).trans q2; first | (refine Free.run_yes (by rfl) ?_; go_simp; refine Free.oR hK (hR (Below.refl _ _)) hS ?_; exact rfl) | (refine Free.run_no (by rfl) (Free.oR hK (hR (Below.refl _ _)) hS ?_); exact rfl)
        refine Free.cons ?_ ?_
        · intro st hag; (obtain rfl : st = 0 := Nat.le_antisymm hag.2 hag.1); intro w' hS; intro K hK; have hs := hS.1 rfl; have k0 := (hs.cell (p := ⟨u, 0, none⟩) hul7).trans c0; have k1 := (hs.cell (p := ⟨u, 1, none⟩) hul7).trans c1; have ka0 := (hs.cell (p := ⟨w.heap.size, j, none⟩) hg5b).trans q0; have kf := (hs.frozen (p := ⟨w.heap.size, j, none⟩) hg5b).trans q1; have kb := (hs.cell (p := ⟨gb, ob + dj, none⟩) hgb).trans q2; first | (refine Free.run_yes (by rfl) ?_; go_simp; refine Free.oR hK (hR (Below.refl _ _)) hS ?_; exact rfl) | (refine Free.run_no (by rfl) (Free.oR hK (hR (Below.refl _ _)) hS ?_); exact rfl)
        refine Free.cons ?_ ?_
        · intro st hag; (obtain rfl : st = 0 := Nat.le_antisymm hag.2 hag.1); intro w' hS; (rintro _ rfl); intro K hK; have hs := hS.1 rfl; have k0 := (hs.cell (p := ⟨u, 0, none⟩) hul7).trans c0; have k1 := (hs.cell (p := ⟨u, 1, none⟩) hul7).trans c1; have ka0 := (hs.cell (p := ⟨w.heap.size, j, none⟩) hg5b).trans q0; have kf := (hs.frozen (p := ⟨w.heap.size, j, none⟩) hg5b).trans q1; have kb := (hs.cell (p := ⟨gb, ob + dj, none⟩) hgb).trans q2; first | (refine Free.run_yes (by rfl) ?_; go_simp; refine Free.oR hK (hR (Below.refl _ _)) hS ?_; exact rfl) | (refine Free.run_no (by rfl) (Free.oR hK (hR (Below.refl _ _)) hS ?_); exact rfl)
        refine Free.cons ?_ ?_
        · intro st hag; (obtain rfl : st = 0 := Nat.le_antisymm hag.2 hag.1); intro w' hS; (rintro _ rfl); intro K hK; have hs := hS.1 rfl; have k0 := (hs.cell (p := ⟨u, 0, none⟩) hul7).trans c0; have k1 := (hs.cell (p := ⟨u, 1, none⟩) hul7).trans c1; have ka0 := (hs.cell (p := ⟨w.heap.size, j, none⟩) hg5b).trans q0; have kf := (hs.frozen (p := ⟨w.heap.size, j, none⟩) hg5b).trans q1; have kb := (hs.cell (p := ⟨gb, ob + dj, none⟩) hgb).trans q2; first | (refine Free.run_yes (by rfl) ?_; go_simp; refine Free.oR hK (hR (Below.refl _ _)) hS ?_; exact rfl) | (refine Free.run_no (by rfl) (Free.oR hK (hR (Below.refl _ _)) hS ?_); exact rfl)
        refine Free.cons ?_ ?_
        · intro st hag; (obtain rfl : st = 0 := Nat.le_antisymm hag.2 hag.1); intro w' hS; (rintro _ rfl); intro K hK; have hs := hS.1 rfl; have k0 := (hs.cell (p := ⟨u, 0, none⟩) hul7).trans c0; have k1 := (hs.cell (p := ⟨u, 1, none⟩) hul7).trans c1; have ka0 := (hs.cell (p := ⟨w.heap.size, j, none⟩) hg5b).trans q0; have kf := (hs.frozen (p := ⟨w.heap.size, j, none⟩) hg5b).trans q1; have kb := (hs.cell (p := ⟨gb, ob + dj, none⟩) hgb).trans q2; first | (refine Free.run_yes (by rfl) ?_; go_simp; refine Free.oR hK (hR (Below.refl _ _)) hS ?_; exact rfl) | (refine Free.run_no (by rfl) (Free.oR hK (hR (Below.refl _ _)) hS ?_); exact rfl)
        refine Free.cons ?_ ?_
        · intro st hag; (obtain rfl : st = 0 := Nat.le_antisymm hag.2 hag.1); intro w' hS; intro K hK; have hs := hS.1 rfl; have k0 := (hs.cell (p := ⟨u, 0, none⟩) hul7).trans c0; have k1 := (hs.cell (p := ⟨u, 1, none⟩) hul7).trans c1; have ka0 := (hs.cell (p := ⟨w.heap.size, j, none⟩) hg5b).trans q0; have kf := (hs.frozen (p := ⟨w.heap.size, j, none⟩) hg5b).trans q1; have kb := (hs.cell (p := ⟨gb, ob + dj, none⟩) hgb).trans q2; first | (refine Free.run_yes (by rfl) ?_; go_simp; refine Free.oR hK (hR (Below.refl _ _)) hS ?_; exact rfl) | (refine Free.run_no (by rfl) (Free.oR hK (hR (Below.refl _ _)) hS ?_); exact rfl)
        refine Free.cons ?_ ?_
        · intro st hag; (obtain rfl : st = 0 := Nat.le_antisymm hag.2 hag.1); intro w' hS; (rintro _ rfl); (rintro _ rfl); intro K hK; have hs := hS.1 rfl; have k0 := (hs.cell (p := ⟨u, 0, none⟩) hul7).trans c0; have k1 := (hs.cell (p := ⟨u, 1, none⟩) hul7).trans c1; have ka0 := (hs.cell (p := ⟨w.heap.size, j, none⟩) hg5b).trans q0; have kf := (hs.frozen (p := ⟨w.heap.size, j, none⟩) hg5b).trans q1; have kb := (hs.cell (p := ⟨gb, ob + dj, none⟩) hgb).trans q2; refine Free.run_yes (by rfl) ?_; (go_simp; refine Free.oR hK (hR (Below.refl _ _)) hS ?_; first | rfl | exact congrArg (Value.int .i64) hdj | exact congrArg (Value.int .i64) (IntWalk.i64_in _ (by omega)))
        refine Free.cons ?_ ?_
        · intro st hag; (obtain rfl : st = 0 := Nat.le_antisymm hag.2 hag.1); intro w' hS; (rintro _ rfl); (rintro _ rfl); intro K hK; have hs := hS.1 rfl; have k0 := (hs.cell (p := ⟨u, 0, none⟩) hul7).trans c0; have k1 := (hs.cell (p := ⟨u, 1, none⟩) hul7).trans c1; have ka0 := (hs.cell (p := ⟨w.heap.size, j, none⟩) hg5b).trans q0; have kf := (hs.frozen (p := ⟨w.heap.size, j, none⟩) hg5b).trans q1; have kb := (hs.cell (p := ⟨gb, ob + dj, none⟩) hgb).trans q2; first | (refine Free.run_yes (by rfl) ?_; go_simp; refine Free.oR hK (hR (Below.refl _ _)) hS ?_; exact rfl) | (refine Free.run_no (by rfl) (Free.oR hK (hR (Below.refl _ _)) hS ?_); exact rfl)
        refine Free.cons ?_ ?_
        · intro st hag; (obtain rfl : st = 0 := Nat.le_antisymm hag.2 hag.1); intro w' hS; (rintro _ rfl); intro K hK; have hs := hS.1 rfl; have k0 := (hs.cell (p := ⟨u, 0, none⟩) hul7).trans c0; have k1 := (hs.cell (p := ⟨u, 1, none⟩) hul7).trans c1; have ka0 := (hs.cell (p := ⟨w.heap.size, j, none⟩) hg5b).trans q0; have kf := (hs.frozen (p := ⟨w.heap.size, j, none⟩) hg5b).trans q1; have kb := (hs.cell (p := ⟨gb, ob + dj, none⟩) hgb).trans q2; first | (refine Free.run_yes (by rfl) ?_; go_simp; refine Free.oR hK (hR (Below.refl _ _)) hS ?_; exact rfl) | (refine Free.run_no (by rfl) (Free.oR hK (hR (Below.refl _ _)) hS ?_); exact rfl)
        refine Free.cons ?_ ?_
        · intro st hag; (obtain rfl : st = 0 := Nat.le_antisymm hag.2 hag.1); intro w' hS; (rintro _ rfl); (rintro _ rfl); intro K hK; have hs := hS.1 rfl; have k0 := (hs.cell (p := ⟨u, 0, none⟩) hul7).trans c0; have k1 := (hs.cell (p := ⟨u, 1, none⟩) hul7).trans c1; have ka0 := (hs.cell (p := ⟨w.heap.size, j, none⟩) hg5b).trans q0; have kf := (hs.frozen (p := ⟨w.heap.size, j, none⟩) hg5b).trans q1; have kb := (hs.cell (p := ⟨gb, ob + dj, none⟩) hgb).trans q2; first | (refine Free.run_yes (by rfl) ?_; go_simp; refine Free.oR hK (hR (Below.refl _ _)) hS ?_; exact rfl) | (refine Free.run_no (by rfl) (Free.oR hK (hR (Below.refl _ _)) hS ?_); exact rfl)
        refine Free.cons ?_ ?_
        · intro st hag; (obtain rfl : st = 0 := Nat.le_antisymm hag.2 hag.1); intro w' hS; (rintro _ rfl); (rintro _ rfl); intro K hK; have hs := hS.1 rfl; have k0 := (hs.cell (p := ⟨u, 0, none⟩) hul7).trans c0; have k1 := (hs.cell (p := ⟨u, 1, none⟩) hul7).trans c1; have ka0 := (hs.cell (p := ⟨w.heap.size, j, none⟩) hg5b).trans q0; have kf := (hs.frozen (p := ⟨w.heap.size, j, none⟩) hg5b).trans q1; have kb := (hs.cell (p := ⟨gb, ob + dj, none⟩) hgb).trans q2; refine Free.run_yes (by rfl) ?_; (go_simp; refine hK.out _ _ trivial ⟨fun e => absurd e (by decide), fun _ => ⟨w', hs, rfl⟩⟩ (.inl rfl))
        exact Free.nil
        clear hvo
        intro w' hS; intro v0; intro v1; intro v2; intro v3; intro v4; intro v5; intro v6; intro v7; intro v8; intro v9; intro v10; intro v11; intro v12; intro v13; intro v14; (try simp only [Act.put, List.setIfInBounds_toArray, List.set_cons_zero, List.set_cons_succ]); refine Free.toldE_nil ?_
        obtain ⟨w13, hw13, rfl⟩ := hS.2 rfl
        go_wp2
        go_roundw
        case rel =>
          have hP13 := (OB.below hP7 hw13).set (j := j) (by rw [drawI_len _ _ _ _ hj]; exact gj) y
          rw [show (drawI l d m j).set j y = drawI l d m (j + 1) from hst.out] at hP13
          exact ⟨j + 1, by omega, by go_num, hP13, (Below.next bl7 hw13 (Nat.le_refl _)).setCell (p := ⟨w.heap.size, j, none⟩) (Nat.le_refl _) _⟩
        case measure => simp [intOf]; omega
      · have hsk := drawI_skip l d m j gj (by have := hlen.out; omega)
        rw [hsk] at hP7
        go_wp2
        go_roundw
        case rel => exact ⟨j + 1, by omega, by go_num, hP7, bl7⟩
        case measure => simp [intOf]; omega
    · obtain rfl : j = m := by omega
      rw [drawI_all] at hP
      have hf1 := hbq.fz 1
      have hset := hbq.set 1 (.int .i64 ((d : Int) + (j : Int)))
      have hug : u ≠ w.heap.size := by omega
      go_wp2
      go_ret
      refine ⟨rfl, OB.kept hP ((Keeps.refl (fun k => k = u) _).setCell (.inl rfl) _) (fun k hk e => by simp [Value.ownBlock] at hk; omega), ?_, Keeps.setCell (S := fun k => k = u) (Keeps.of_below blq) (p := ⟨u, 1, none⟩) (.inl rfl) _⟩
      exact hset
end Go.Proofs.Ytniendffanemcaa
/- The document's oracle: Pad. -/
namespace Go.Proofs.Ytniendffanemcaa
open Go.ChangeShapes Go.WideShapes Go.ChangeAt Go.RowKit
open Go.ChangeMaps (open_string shut_string)
set_option linter.unusedVariables false
set_option linter.unusedSimpArgs false
set_option maxRecDepth 100000

theorem wp_apps {o : Oper} {a : Act} {w : World} {K : Act → World → Prop} {Q : Exit → Act → World → Prop} (s y : Operand) (hop : o.op = Op.call { callee := Callee.builtin Builtin.append, args := #[s, y], argTypes := #[63, 63] })
    (B : Nat) (v x : Value) (vs : List Value) (g : Nat) (hs : a.eval s = v) (hy : a.eval y = .slice (some ⟨g, 0, none⟩) 1 1) (h : SO w B v vs) (hx : w.cell? ⟨g, 0, none⟩ = some x) (h1 : x.oneCell' = true) (hsz : vs.length ≤ 100000) (hB : B ≤ w.heap.size)
    (hK : ∀ v' w', SO w' B v' (vs ++ [x]) → Keeps (fun k => v.ownBlock = some k) w w' → (v'.ownBlock = v.ownBlock ∨ v'.ownBlock = some w.heap.size) → K (a.put o.dst v') w') : Oper.wp Try.prog o a w K Q := by
  obtain ⟨v', w', hrun, h2, h3, h4⟩ := run_apps o.type w B v x vs h hB g hx h1 hsz
  unfold Oper.wp execOp
  simp only [hop, resolve, invoke, builtin, Sem.run_bind, Sem.run_pure, Result.andThen_ok, List.map_toArray, List.map_cons, List.map_nil, hs, hy, hrun]
  exact hK v' w' h2 h3 h4
def Free.FactR.ofB (f : Free.Fact) : Free.FactR (fun w w' => Below w.heap.size w w') := { f := f.f, stab := f.stab }
/-- Behind the append of a pad drawn. -/
structure PadA (W w1 w0 : World) (p u N d L : Nat) (A : Option Addr) (n c : Nat) (vr : Value) (vs : List Value) (T : List UInt8) (x v : Value) : Prop where
  k1 : Keeps (fun k => k = u) W w1
  pb : Blk w1 u #[.slice A n c, .int .i64 ((d + L : Nat) : Int)] 62
  ox : OB w1 N x T
  so : SO w0 (p + 1) v (vs ++ [x])
  k2 : Keeps (fun k => vr.ownBlock = some k) w1 w0
  ow : v.ownBlock = vr.ownBlock ∨ v.ownBlock = some w1.heap.size
def Free.FactR.padA (W : World) (p u N d L : Nat) (A : Option Addr) (n c : Nat) (vr : Value) (vs : List Value) (T : List UInt8) : Free.FactR (fun w w' => Below w.heap.size w w') :=
  { f := fun v w' => ∃ w1 w0 x, PadA W w1 w0 p u N d L A n c vr vs T x v ∧ Below w0.heap.size w0 w', stab := fun _ _ _ ⟨w1, w0, x, h, h2⟩ hb => ⟨w1, w0, x, h, Below.next h2 hb (Nat.le_refl _)⟩ }
def Free.FactR.padB (W : World) (p u N d L : Nat) (A : Option Addr) (n c : Nat) (vr : Value) (vs : List Value) (T : List UInt8) : Free.FactR (fun w w' => Below w.heap.size w w') :=
  { f := fun _ w' => ∃ w1 w0 x v w3, PadA W w1 w0 p u N d L A n c vr vs T x v ∧ Below w0.heap.size w0 w3 ∧ Below (w3.setCell ⟨p, 2, none⟩ v).heap.size (w3.setCell ⟨p, 2, none⟩ v) w', stab := fun _ _ _ ⟨w1, w0, x, v, w3, h, h2, h3⟩ hb => ⟨w1, w0, x, v, w3, h, h2, Below.next h3 hb (Nat.le_refl _)⟩ }
theorem Rfc.padded {W0 W w1 w0 w3 w' : World} {p u bm n c : Nat} {A : Option Addr} {vp vr x v : Value} {vs : List Value} {S : OrcS} {k : Int × Int} {N : Nat}
    (h : Rfc W0 p u bm A n c vp vr vs S) (hk0 : Keeps (fun j => j = bm) W0 W) (hm : MapV W bm (S.ks ++ [k]) (((List.range S.ks.length).map fun i => .int .i64 ((i : Nat) : Int)) ++ [.int .i64 (S.ks.length : Int)])) (hN : W0.heap.size ≤ N)
    (hp : PadA W w1 w0 p u N S.d S.L A n c vr vs (drawL S.tape S.d S.L) x v) (hb : Below w0.heap.size w0 w3) (hb2 : Below (w3.setCell ⟨p, 2, none⟩ v).heap.size (w3.setCell ⟨p, 2, none⟩ v) w') :
    Rfc w' p u bm A n c vp v (vs ++ [x]) { S with d := S.d + S.L, ks := S.ks ++ [k], ps := S.ps ++ [drawL S.tape S.d S.L] } ∧ Keeps (fun j => j = p ∨ j = u ∨ j = bm ∨ vr.ownBlock = some j) W0 w' := by
  have o1 := h.o1
  have o2 := h.o2
  have hpl := h.lt
  have hvr : ∀ j, vr.ownBlock = some j → p < j ∧ j < W0.heap.size := fun j hj => by have := h.row.row.lt j hj; omega
  have hvp : ∀ j, vp.ownBlock = some j → p < j ∧ j < W0.heap.size := fun j hj => by have := h.pl.lt j hj; omega
  have hz0 := hk0.size
  have hz1 := hp.k1.size
  have hz2 := hp.k2.size
  have hz3 := hb.size
  have hx1 : ∀ j, x.ownBlock = some j → N ≤ j ∧ j < w1.heap.size := fun j hj => hp.ox.lt j hj
  -- what each step leaves alone
  have far : ∀ (cs : Array Value) (t g : Nat), Blk W0 g cs t → g ≠ p → g ≠ u → g ≠ bm → vr.ownBlock ≠ some g → Blk w' g cs t := fun cs t g hg a1 a2 a3 a4 => by
    have e1 := (((hg.keeps hk0 a3).keeps hp.k1 a2).keeps hp.k2 a4).below hb (((hg.keeps hk0 a3).keeps hp.k1 a2).keeps hp.k2 a4).lt
    exact (e1.other (p := ⟨p, 2, none⟩) a1 v).below hb2 (e1.other (p := ⟨p, 2, none⟩) a1 v).lt
  have K : Keeps (fun j => j = p ∨ j = u ∨ j = bm ∨ vr.ownBlock = some j) W0 w' :=
    ((((hk0.mono (fun _ _ e => .inr (.inr (.inl e)))).trans hp.k1 (fun _ e => .inl (.inr (.inl e)))).trans hp.k2 (fun _ e => .inl (.inr (.inr (.inr e))))).then_below hb |>.setCell (p := ⟨p, 2, none⟩) (.inl (.inl rfl)) v).then_below hb2
  refine ⟨⟨?_, ?_, h.rb.keeps K (fun hn a ha e => ?_), h.al, ?_, ?_, ?_, ?_, ?_, ?_, ?_, o1, o2, h.l1, h.l2, h.nn⟩, K⟩
  · have e1 := ((h.blk.keeps hk0 (by omega)).keeps hp.k1 (by omega)).keeps hp.k2 (fun e => by have := hvr p e; omega)
    have e2 := e1.below hb e1.lt
    have e3 := e2.set 2 v
    exact e3.below hb2 e3.lt
  · have e1 := hp.pb.keeps hp.k2 (fun e => by have := hvr u e; omega)
    have e2 := e1.below hb e1.lt
    have e3 := e2.other (p := ⟨p, 2, none⟩) (by simp only; omega) v
    exact e3.below hb2 e3.lt
  · have := h.al hn a ha
    rcases e with e | e | e | e
    · omega
    · omega
    · omega
    · have := hvr _ e; omega
  · have e1 := (hm.keeps hp.k1 (by omega)).keeps hp.k2 (fun e => by have := hvr bm e; omega)
    have e2 := (e1.below hb).other (p := ⟨p, 2, none⟩) (by simp only; omega) v
    have e3 := e2.below hb2
    simp only [List.length_append, List.length_singleton, List.range_succ, List.map_append, List.map_singleton]
    exact e3
  · have row3 : SO w' (p + 1) v (vs ++ [x]) := (((hp.so.below hb).kept (S := fun k => k = p) ((Keeps.refl (fun k => k = p) _).setCell (.inl rfl) v) (fun k hk e => by have := (hp.so.lt k hk).1; omega)).below hb2)
    refine ⟨row3, by simp [h.row.len], fun i y l h1 h2 => ?_⟩
    have key : ∀ (y : Value) (l : List UInt8), OB w1 (p + 1) y l → (∀ g, y.ownBlock = some g → vr.ownBlock ≠ some g) → OB w' (p + 1) y l ∧ ∀ g, y.ownBlock = some g → v.ownBlock ≠ some g := fun y l ho hn => by
      refine ⟨OB.below (OB.kept (S := fun k => k = p) (OB.below (OB.kept ho hp.k2 (fun k hk e => hn k hk e)) hb) ((Keeps.refl (fun k => k = p) _).setCell (.inl rfl) v) (fun k hk e => by have := (ho.lt k hk).1; omega)) hb2, fun g hg e => ?_⟩
      rcases hp.ow with ow | ow
      · exact hn g hg (ow ▸ e)
      · rw [ow] at e; injection e with e; have := (ho.lt g hg).2; omega
    by_cases hi : i < vs.length
    · rw [List.getElem?_append_left hi] at h1
      simp only at h2
      rw [List.getElem?_append_left (by rw [← h.row.len]; exact hi)] at h2
      obtain ⟨a, b⟩ := h.row.each i y l h1 h2
      exact key y l (OB.kept (OB.kept a hk0 (fun k hk e => by have := (a.lt k hk).1; omega)) hp.k1 (fun k hk e => by have := (a.lt k hk).1; omega)) b
    · rw [List.getElem?_append_right (by omega)] at h1
      simp only at h2
      rw [List.getElem?_append_right (by rw [← h.row.len]; omega), ← h.row.len] at h2
      obtain ⟨q, hq⟩ : ∃ q, i - vs.length = q := ⟨_, rfl⟩
      rw [hq] at h1 h2
      cases q with
      | zero => simp at h1 h2; subst h1 h2; exact key _ _ (hp.ox.mono (fun j hj => by have := hx1 j hj; omega)) (fun g hg e => by have := hx1 g hg; have := hvr g e; omega)
      | succ q => simp at h1
  · simp [h.kl]
  · intro l hl
    simp only at hl ⊢
    rcases List.mem_append.1 hl with hl | hl
    · exact h.pll l hl
    · simp at hl; rw [hl]; exact drawL_len _ _ _
  · exact OB.kept h.pl K (fun k hk e => by
      have := hvp k hk
      rcases e with e | e | e | e
      · omega
      · omega
      · omega
      · exact h.ap k e hk)
  · intro j hj e
    rcases hp.ow with ow | ow
    · exact h.ap j (ow ▸ hj) e
    · rw [ow] at hj; injection hj with hj; have := hvp j e; omega
  · intro y hy j hj e
    rcases List.mem_append.1 hy with hy | hy
    · exact h.ap2 y hy j hj e
    · simp at hy; subst hy; have := hx1 j hj; have := hvp j e; omega
end Go.Proofs.Ytniendffanemcaa
/- The document's oracle: Pad, walked. -/
namespace Go.Proofs.Ytniendffanemcaa
open Go.ChangeShapes Go.WideShapes Go.ChangeAt Go.RowKit
open Go.ChangeMaps (open_string shut_string)
set_option linter.unusedVariables false
set_option linter.unusedSimpArgs false
set_option maxRecDepth 100000

set_option maxHeartbeats 16000000 in
theorem rf_pad (w : World) (p u bm : Nat) (A : Option Addr) (n c : Nat) (vp vr : Value) (vs : List Value) (S : OrcS) (g k : Int) (h : Rfc w p u bm A n c vp vr vs S) (hd : S.d ≤ 1000000000000) (hkl : S.ks.length ≤ 1000) :
    Calls Try.prog 27 #[.pointer (some ⟨p, 0, none⟩), .agg #[.int .i64 g, .int .i64 k]] w fun e w' => ∃ v vr' vs', e = .returned v ∧ OB w' w.heap.size v (padOf S (g, k)) ∧ Rfc w' p u bm A n c vp vr' vs' (padS S (g, k)) ∧ Keeps (fun j => j = p ∨ j = u ∨ j = bm ∨ vr.ownBlock = some j) w w' ∧ (∀ j, vr'.ownBlock = some j → vr.ownBlock = some j ∨ w.heap.size ≤ j) ∧ (∀ x ∈ vs', x ∈ vs ∨ ∀ j, x.ownBlock = some j → w.heap.size ≤ j) ∧ ((fndK (g, k) S.ks 0).isSome = true → Below w.heap.size w w') := by
  have bb : Below w.heap.size w (w.alloc (.cells #[.int .i64 g, .int .i64 k] 67)) := (by repeat (first | exact Below.refl _ _ | assumption | apply below_drewN' | apply Below.drew | refine Below.alloc ?_ (by first | omega | (simp; done) | (simp; omega)) _ | refine Below.setCell ?_ (by first | omega | (simp; done) | (simp; omega)) _))
  have hX := Blk.new w #[.int .i64 g, .int .i64 k] 67
  have hsz : (w.alloc (.cells #[.int .i64 g, .int .i64 k] 67)).heap.size = w.heap.size + 1 := World.size_alloc _ _
  have hO := h.below bb
  have hpl := h.lt
  have l2 := h.l2
  have hlk := fun w' hh => run_lookR1 g k w' bm S.ks hh
  obtain ⟨Ar, cr, hvr, hcr, hmr, hfr⟩ := h.row.row.form
  obtain ⟨nv, hnv⟩ : ∃ nv, vs.length = nv := ⟨_, rfl⟩
  rw [hnv] at hvr hcr hfr
  have hnvk : nv = S.ks.length := by rw [← hnv, h.row.len, h.kl]
  have hnvb : nv ≤ 1000 := by omega
  subst hvr
  have bb2 : Below w.heap.size w (w.alloc (.cells #[.int .i64 g, .int .i64 k] 67)) := bb
  obtain ⟨w1, hw1⟩ : ∃ w1, w.alloc (.cells #[.int .i64 g, .int .i64 k] 67) = w1 := ⟨_, rfl⟩
  rw [hw1] at bb hX hO hsz
  replace hw1 := Lib.hid hw1
  clear bb2
  have x0 := hX.cell 0 (v := .int .i64 g) rfl
  have x1 := hX.cell 1 (v := .int .i64 k) rfl
  have y3 := hO.blk.cell 3 (v := .map (some bm)) rfl
  cases hf : fndK (g, k) S.ks 0 with
  | some j =>
    have hjk := fndK_ge _ _ _ _ hf
    have hjn : j < nv := by omega
    have hat : atV S.ks (g, k) = (j : Int) := by unfold atV; rw [hf]
    rw [hf, hat] at hlk
    replace hlk := Lib.hid hlk
    obtain ⟨x, hx⟩ : ∃ x, vs[j]? = some x := ⟨_, List.getElem?_eq_getElem (by omega)⟩
    obtain ⟨l, hl⟩ : ∃ l, S.ps[j]? = some l := ⟨_, List.getElem?_eq_getElem (by have := h.kl; omega)⟩
    have hp : padOf S (g, k) = l := by unfold padOf; rw [hf]; simp only; rw [hl]; rfl
    have hs : padS S (g, k) = S := by unfold padS; rw [hf]
    have hll := h.pll l (List.mem_of_getElem? hl)
    obtain ⟨B1, c1, rfl, hr1⟩ := OB.sl (h.row.each j x l hx hl).1 S.L hll
    obtain ⟨gr, rfl, -, hcr2⟩ := hfr (by omega)
    have hcx := hcr2 j _ hx
    have hgl := World.block_lt_of_cell? w _ hcx
    replace hnvk := Lib.hid hnvk
    have HC := Lib.hid (fun w h => ref_copy B1 S.L c1 l w h (by omega))
    rw [hp, hs]
    have hres := Lib.hid h
    clear hf hat hx hl hp hs hcr2 hfr
    go_enter Try.func27, Try.ntmps27
    go_wp2_with fail
    rw [hw1.out]
    have hvo := Free.val
    refine Free.wp_facts (M := [0, 1, 3, 7, 0, 31, 63, 127, 127, 255, 1023]) (D := [[], [(0, 8)], [(1, 9)], [(2, 10)], [], [(3, 11), (4, 12)], [(5, 13)], [(6, 7)], [(6, 7)], [(7, 14)], [(8, 15)]]) (outs := [9, 10]) (soles := []) (E := [(0, 8, false), (1, 9, false), (2, 10, false), (3, 11, false), (4, 12, false), (5, 13, false), (6, 7, false), (7, 14, false), (8, 15, false), (9, 5, true), (10, 6, true)]) (N := 55) (S := (fun w' => Below w1.heap.size w1 w')) [Free.Fact.is ?_, Free.Fact.is ?_, Free.Fact.is ?_, Free.Fact.is ?_, Free.Fact.is ?_, Free.Fact.is ?_, Free.Fact.is ?_, Free.Fact.is ?_, Free.Fact.is ?_, Free.Fact.is ?_, Free.Fact.is ?_] (by kernel_rfl) (by kernel_rfl) rfl ((Below.refl _ _).drew) ?_ ?_
    rotate_left 11
    refine Free.cons ?_ ?_
    · intro w' hS; intro K hK; have k0 := (hS.cell (p := ⟨w.heap.size, 0, none⟩) hX.lt).trans x0; have k1 := (hS.cell (p := ⟨w.heap.size, 1, none⟩) hX.lt).trans x1; have k2 := (hS.cell (p := ⟨p, 3, none⟩) hO.lt).trans y3; have k3 := hlk.out w' (hO.mp.below hS); first | (refine Free.run_yes (by rfl) ?_; go_simp; refine Free.o hK hS ?_; exact rfl) | (refine Free.run_no (by rfl) (Free.o hK hS ?_); exact rfl)
    refine Free.cons ?_ ?_
    · intro w' hS; (rintro _ rfl); intro K hK; have k0 := (hS.cell (p := ⟨w.heap.size, 0, none⟩) hX.lt).trans x0; have k1 := (hS.cell (p := ⟨w.heap.size, 1, none⟩) hX.lt).trans x1; have k2 := (hS.cell (p := ⟨p, 3, none⟩) hO.lt).trans y3; have k3 := hlk.out w' (hO.mp.below hS); first | (refine Free.run_yes (by rfl) ?_; go_simp; refine Free.o hK hS ?_; exact rfl) | (refine Free.run_no (by rfl) (Free.o hK hS ?_); exact rfl)
    refine Free.cons ?_ ?_
    · intro w' hS; (rintro _ rfl); intro K hK; have k0 := (hS.cell (p := ⟨w.heap.size, 0, none⟩) hX.lt).trans x0; have k1 := (hS.cell (p := ⟨w.heap.size, 1, none⟩) hX.lt).trans x1; have k2 := (hS.cell (p := ⟨p, 3, none⟩) hO.lt).trans y3; have k3 := hlk.out w' (hO.mp.below hS); first | (refine Free.run_yes (by rfl) ?_; go_simp; refine Free.o hK hS ?_; exact rfl) | (refine Free.run_no (by rfl) (Free.o hK hS ?_); exact rfl)
    refine Free.cons ?_ ?_
    · intro w' hS; (rintro _ rfl); intro K hK; have k0 := (hS.cell (p := ⟨w.heap.size, 0, none⟩) hX.lt).trans x0; have k1 := (hS.cell (p := ⟨w.heap.size, 1, none⟩) hX.lt).trans x1; have k2 := (hS.cell (p := ⟨p, 3, none⟩) hO.lt).trans y3; have k3 := hlk.out w' (hO.mp.below hS); first | (refine Free.run_yes (by rfl) ?_; go_simp; refine Free.o hK hS ?_; exact rfl) | (refine Free.run_no (by rfl) (Free.o hK hS ?_); exact rfl)
    refine Free.cons ?_ ?_
    · intro w' hS; intro K hK; have k0 := (hS.cell (p := ⟨w.heap.size, 0, none⟩) hX.lt).trans x0; have k1 := (hS.cell (p := ⟨w.heap.size, 1, none⟩) hX.lt).trans x1; have k2 := (hS.cell (p := ⟨p, 3, none⟩) hO.lt).trans y3; have k3 := hlk.out w' (hO.mp.below hS); first | (refine Free.run_yes (by rfl) ?_; go_simp; refine Free.o hK hS ?_; exact rfl) | (refine Free.run_no (by rfl) (Free.o hK hS ?_); exact rfl)
    refine Free.cons ?_ ?_
    · intro w' hS; (rintro _ rfl); (rintro _ rfl); intro K hK; have k0 := (hS.cell (p := ⟨w.heap.size, 0, none⟩) hX.lt).trans x0; have k1 := (hS.cell (p := ⟨w.heap.size, 1, none⟩) hX.lt).trans x1; have k2 := (hS.cell (p := ⟨p, 3, none⟩) hO.lt).trans y3; have k3 := hlk.out w' (hO.mp.below hS); first | (refine Free.run_yes (by rfl) ?_; go_simp; refine Free.o hK hS ?_; exact rfl) | (refine Free.run_no (by rfl) (Free.o hK hS ?_); exact rfl)
    refine Free.cons ?_ ?_
    · intro w' hS; (rintro _ rfl); intro K hK; have k0 := (hS.cell (p := ⟨w.heap.size, 0, none⟩) hX.lt).trans x0; have k1 := (hS.cell (p := ⟨w.heap.size, 1, none⟩) hX.lt).trans x1; have k2 := (hS.cell (p := ⟨p, 3, none⟩) hO.lt).trans y3; have k3 := hlk.out w' (hO.mp.below hS); first | (refine Free.run_yes (by rfl) ?_; go_simp; refine Free.o hK hS ?_; exact rfl) | (refine Free.run_no (by rfl) (Free.o hK hS ?_); exact rfl)
    refine Free.cons ?_ ?_
    · intro w' hS; (rintro _ rfl); intro K hK; have k0 := (hS.cell (p := ⟨w.heap.size, 0, none⟩) hX.lt).trans x0; have k1 := (hS.cell (p := ⟨w.heap.size, 1, none⟩) hX.lt).trans x1; have k2 := (hS.cell (p := ⟨p, 3, none⟩) hO.lt).trans y3; have k3 := hlk.out w' (hO.mp.below hS); first | (refine Free.run_yes (by rfl) ?_; go_simp; refine Free.o hK hS ?_; exact rfl) | (refine Free.run_no (by rfl) (Free.o hK hS ?_); exact rfl)
    refine Free.cons ?_ ?_
    · intro w' hS; (rintro _ rfl); intro K hK; have k0 := (hS.cell (p := ⟨w.heap.size, 0, none⟩) hX.lt).trans x0; have k1 := (hS.cell (p := ⟨w.heap.size, 1, none⟩) hX.lt).trans x1; have k2 := (hS.cell (p := ⟨p, 3, none⟩) hO.lt).trans y3; have k3 := hlk.out w' (hO.mp.below hS); first | (refine Free.run_yes (by rfl) ?_; go_simp; refine Free.o hK hS ?_; exact rfl) | (refine Free.run_no (by rfl) (Free.o hK hS ?_); exact rfl)
    refine Free.cons ?_ ?_
    · intro w' hS; (rintro _ rfl); intro K hK; have k0 := (hS.cell (p := ⟨w.heap.size, 0, none⟩) hX.lt).trans x0; have k1 := (hS.cell (p := ⟨w.heap.size, 1, none⟩) hX.lt).trans x1; have k2 := (hS.cell (p := ⟨p, 3, none⟩) hO.lt).trans y3; have k3 := hlk.out w' (hO.mp.below hS); first | (refine Free.run_yes (by rfl) ?_; go_simp; refine Free.o hK hS ?_; exact rfl) | (refine Free.run_no (by rfl) (Free.o hK hS ?_); exact rfl)
    refine Free.cons ?_ ?_
    · intro w' hS; (rintro _ rfl); intro K hK; have k0 := (hS.cell (p := ⟨w.heap.size, 0, none⟩) hX.lt).trans x0; have k1 := (hS.cell (p := ⟨w.heap.size, 1, none⟩) hX.lt).trans x1; have k2 := (hS.cell (p := ⟨p, 3, none⟩) hO.lt).trans y3; have k3 := hlk.out w' (hO.mp.below hS); first | (refine Free.run_yes (by rfl) ?_; go_simp; refine Free.o hK hS ?_; exact rfl) | (refine Free.run_no (by rfl) (Free.o hK hS ?_); exact rfl)
    exact Free.nil
    clear hvo
    intro w' hS; intro v0; intro v1; intro v2; intro v3; intro v4; intro v5; intro v6; intro v7; intro v8; (rintro _ rfl); (rintro _ rfl); (try simp only [Act.put, List.setIfInBounds_toArray, List.set_cons_zero, List.set_cons_succ]); refine Free.toldE_nil ?_
    obtain ⟨W, rfl⟩ : ∃ W, W = w' := ⟨_, rfl⟩
    have bW := Below.next bb hS (Nat.le_refl _)
    have hOW := hres.out.below bW
    have y2 := hOW.blk.cell 2 (v := .slice (some ⟨gr, 0, none⟩) nv cr) rfl
    have cW := (bW.cell (p := ⟨gr, j, none⟩) hgl).trans hcx
    have HC2 := Lib.hid (HC.out W (hr1.below bW))
    clear hS hO bb hX x0 x1 y3 HC
    go_wp2_with fail
    refine HC2.out.mono ?_
    rintro e w5 ⟨v, rfl, ho, b5⟩
    have b55 := Below.next bW b5 (Nat.le_refl _)
    go_wp2
    go_ret
    exact ⟨v, _, vs, rfl, ho.mono (fun i hi => by have := (ho.lt i hi).1; have := bW.size; omega), hOW.below b5, Keeps.of_below b55, fun i hi => .inl hi, fun y hy => .inl hy, fun _ => b55⟩
  | none =>
    have hat : atV S.ks (g, k) = 0 := by unfold atV; rw [hf]
    rw [hf, hat] at hlk
    replace hlk := Lib.hid hlk
    have hp : padOf S (g, k) = drawL S.tape S.d S.L := by unfold padOf; rw [hf]
    have hs : padS S (g, k) = { S with d := S.d + S.L, ks := S.ks ++ [(g, k)], ps := S.ps ++ [drawL S.tape S.d S.L] } := by unfold padS; rw [hf]
    rw [hp, hs]
    obtain ⟨T, hT⟩ : ∃ T, drawL S.tape S.d S.L = T := ⟨_, rfl⟩
    rw [hT]
    replace hT := Lib.hid hT
    have hfh := Lib.hid hf
    have hres := Lib.hid h
    replace hnvk := Lib.hid hnvk
    replace hnv := Lib.hid hnv
    clear hf hat hp hs
    go_enter Try.func27, Try.ntmps27
    go_wp2_with fail
    rw [hw1.out]
    have hvo := Free.val
    refine Free.wp_facts (M := [0, 1, 3, 7, 0, 31, 63, 127, 127, 255, 1023]) (D := [[], [(0, 8)], [(1, 9)], [(2, 10)], [], [(3, 11), (4, 12)], [(5, 13)], [(6, 7)], [(6, 7)], [(7, 14)], [(8, 15)]]) (outs := [9, 10]) (soles := []) (E := [(0, 8, false), (1, 9, false), (2, 10, false), (3, 11, false), (4, 12, false), (5, 13, false), (6, 7, false), (7, 14, false), (8, 15, false), (9, 5, true), (10, 6, true)]) (N := 55) (S := (fun w' => Below w1.heap.size w1 w')) [Free.Fact.is ?_, Free.Fact.is ?_, Free.Fact.is ?_, Free.Fact.is ?_, Free.Fact.is ?_, Free.Fact.is ?_, Free.Fact.is ?_, Free.Fact.is ?_, Free.Fact.is ?_, Free.Fact.is ?_, Free.Fact.is ?_] (by kernel_rfl) (by kernel_rfl) rfl ((Below.refl _ _).drew) ?_ ?_
    rotate_left 11
    refine Free.cons ?_ ?_
    · intro w' hS; intro K hK; have k0 := (hS.cell (p := ⟨w.heap.size, 0, none⟩) hX.lt).trans x0; have k1 := (hS.cell (p := ⟨w.heap.size, 1, none⟩) hX.lt).trans x1; have k2 := (hS.cell (p := ⟨p, 3, none⟩) hO.lt).trans y3; have k3 := hlk.out w' (hO.mp.below hS); first | (refine Free.run_yes (by rfl) ?_; go_simp; refine Free.o hK hS ?_; exact rfl) | (refine Free.run_no (by rfl) (Free.o hK hS ?_); exact rfl)
    refine Free.cons ?_ ?_
    · intro w' hS; (rintro _ rfl); intro K hK; have k0 := (hS.cell (p := ⟨w.heap.size, 0, none⟩) hX.lt).trans x0; have k1 := (hS.cell (p := ⟨w.heap.size, 1, none⟩) hX.lt).trans x1; have k2 := (hS.cell (p := ⟨p, 3, none⟩) hO.lt).trans y3; have k3 := hlk.out w' (hO.mp.below hS); first | (refine Free.run_yes (by rfl) ?_; go_simp; refine Free.o hK hS ?_; exact rfl) | (refine Free.run_no (by rfl) (Free.o hK hS ?_); exact rfl)
    refine Free.cons ?_ ?_
    · intro w' hS; (rintro _ rfl); intro K hK; have k0 := (hS.cell (p := ⟨w.heap.size, 0, none⟩) hX.lt).trans x0; have k1 := (hS.cell (p := ⟨w.heap.size, 1, none⟩) hX.lt).trans x1; have k2 := (hS.cell (p := ⟨p, 3, none⟩) hO.lt).trans y3; have k3 := hlk.out w' (hO.mp.below hS); first | (refine Free.run_yes (by rfl) ?_; go_simp; refine Free.o hK hS ?_; exact rfl) | (refine Free.run_no (by rfl) (Free.o hK hS ?_); exact rfl)
    refine Free.cons ?_ ?_
    · intro w' hS; (rintro _ rfl); intro K hK; have k0 := (hS.cell (p := ⟨w.heap.size, 0, none⟩) hX.lt).trans x0; have k1 := (hS.cell (p := ⟨w.heap.size, 1, none⟩) hX.lt).trans x1; have k2 := (hS.cell (p := ⟨p, 3, none⟩) hO.lt).trans y3; have k3 := hlk.out w' (hO.mp.below hS); first | (refine Free.run_yes (by rfl) ?_; go_simp; refine Free.o hK hS ?_; exact rfl) | (refine Free.run_no (by rfl) (Free.o hK hS ?_); exact rfl)
    refine Free.cons ?_ ?_
    · intro w' hS; intro K hK; have k0 := (hS.cell (p := ⟨w.heap.size, 0, none⟩) hX.lt).trans x0; have k1 := (hS.cell (p := ⟨w.heap.size, 1, none⟩) hX.lt).trans x1; have k2 := (hS.cell (p := ⟨p, 3, none⟩) hO.lt).trans y3; have k3 := hlk.out w' (hO.mp.below hS); first | (refine Free.run_yes (by rfl) ?_; go_simp; refine Free.o hK hS ?_; exact rfl) | (refine Free.run_no (by rfl) (Free.o hK hS ?_); exact rfl)
    refine Free.cons ?_ ?_
    · intro w' hS; (rintro _ rfl); (rintro _ rfl); intro K hK; have k0 := (hS.cell (p := ⟨w.heap.size, 0, none⟩) hX.lt).trans x0; have k1 := (hS.cell (p := ⟨w.heap.size, 1, none⟩) hX.lt).trans x1; have k2 := (hS.cell (p := ⟨p, 3, none⟩) hO.lt).trans y3; have k3 := hlk.out w' (hO.mp.below hS); first | (refine Free.run_yes (by rfl) ?_; go_simp; refine Free.o hK hS ?_; exact rfl) | (refine Free.run_no (by rfl) (Free.o hK hS ?_); exact rfl)
    refine Free.cons ?_ ?_
    · intro w' hS; (rintro _ rfl); intro K hK; have k0 := (hS.cell (p := ⟨w.heap.size, 0, none⟩) hX.lt).trans x0; have k1 := (hS.cell (p := ⟨w.heap.size, 1, none⟩) hX.lt).trans x1; have k2 := (hS.cell (p := ⟨p, 3, none⟩) hO.lt).trans y3; have k3 := hlk.out w' (hO.mp.below hS); first | (refine Free.run_yes (by rfl) ?_; go_simp; refine Free.o hK hS ?_; exact rfl) | (refine Free.run_no (by rfl) (Free.o hK hS ?_); exact rfl)
    refine Free.cons ?_ ?_
    · intro w' hS; (rintro _ rfl); intro K hK; have k0 := (hS.cell (p := ⟨w.heap.size, 0, none⟩) hX.lt).trans x0; have k1 := (hS.cell (p := ⟨w.heap.size, 1, none⟩) hX.lt).trans x1; have k2 := (hS.cell (p := ⟨p, 3, none⟩) hO.lt).trans y3; have k3 := hlk.out w' (hO.mp.below hS); first | (refine Free.run_yes (by rfl) ?_; go_simp; refine Free.o hK hS ?_; exact rfl) | (refine Free.run_no (by rfl) (Free.o hK hS ?_); exact rfl)
    refine Free.cons ?_ ?_
    · intro w' hS; (rintro _ rfl); intro K hK; have k0 := (hS.cell (p := ⟨w.heap.size, 0, none⟩) hX.lt).trans x0; have k1 := (hS.cell (p := ⟨w.heap.size, 1, none⟩) hX.lt).trans x1; have k2 := (hS.cell (p := ⟨p, 3, none⟩) hO.lt).trans y3; have k3 := hlk.out w' (hO.mp.below hS); first | (refine Free.run_yes (by rfl) ?_; go_simp; refine Free.o hK hS ?_; exact rfl) | (refine Free.run_no (by rfl) (Free.o hK hS ?_); exact rfl)
    refine Free.cons ?_ ?_
    · intro w' hS; (rintro _ rfl); intro K hK; have k0 := (hS.cell (p := ⟨w.heap.size, 0, none⟩) hX.lt).trans x0; have k1 := (hS.cell (p := ⟨w.heap.size, 1, none⟩) hX.lt).trans x1; have k2 := (hS.cell (p := ⟨p, 3, none⟩) hO.lt).trans y3; have k3 := hlk.out w' (hO.mp.below hS); first | (refine Free.run_yes (by rfl) ?_; go_simp; refine Free.o hK hS ?_; exact rfl) | (refine Free.run_no (by rfl) (Free.o hK hS ?_); exact rfl)
    refine Free.cons ?_ ?_
    · intro w' hS; (rintro _ rfl); intro K hK; have k0 := (hS.cell (p := ⟨w.heap.size, 0, none⟩) hX.lt).trans x0; have k1 := (hS.cell (p := ⟨w.heap.size, 1, none⟩) hX.lt).trans x1; have k2 := (hS.cell (p := ⟨p, 3, none⟩) hO.lt).trans y3; have k3 := hlk.out w' (hO.mp.below hS); first | (refine Free.run_yes (by rfl) ?_; go_simp; refine Free.o hK hS ?_; exact rfl) | (refine Free.run_no (by rfl) (Free.o hK hS ?_); exact rfl)
    exact Free.nil
    clear hvo
    intro w' hS; intro v0; intro v1; intro v2; intro v3; intro v4; intro v5; intro v6; intro v7; intro v8; (rintro _ rfl); (rintro _ rfl); (try simp only [Act.put, List.setIfInBounds_toArray, List.set_cons_zero, List.set_cons_succ]); refine Free.toldE_nil ?_
    obtain ⟨W, rfl⟩ : ∃ W, W = w' := ⟨_, rfl⟩
    have bW := Below.next bb hS (Nat.le_refl _)
    have hOW := hres.out.below bW
    have hXW := hX.below hS hX.lt
    have hXlt := hXW.lt
    have y2 := hOW.blk.cell 2 (v := .slice Ar nv cr) rfl
    have y3 := hOW.blk.cell 3 (v := .map (some bm)) rfl
    have x0 := hXW.cell 0 (v := .int .i64 g) rfl
    have x1 := hXW.cell 1 (v := .int .i64 k) rfl
    have hplW := hOW.lt
    have o1 := hOW.o1
    have o2 := hOW.o2
    have hR : ∀ {w w' : World}, Below w.heap.size w w' → Below w.heap.size w w' := fun h => h
    clear hS hO bb hX hlk
    go_wp2_with fail
    have hvo := Free.val
    refine Free.wp_factsR (R := (fun w w' => Below w.heap.size w w')) (ss := [6]) (pures := [0, 1, 2, 3, 4, 5]) (M := [0, 1, 3, 7, 0, 0, 63]) (D := [[], [(0, 23)], [(1, 24)], [(2, 25)], [], [], [(3, 26), (4, 27), (5, 28)]]) (outs := []) (soles := [6]) (E := [(0, 23, false), (1, 24, false), (2, 25, false), (3, 26, false), (4, 27, false), (5, 28, false)]) (N := 55) (S := (fun (st : Nat) w' => (st = 0 → Below W.heap.size W w') ∧ (st = 1 → ∃ w0, Below W.heap.size W w0 ∧ MapV w' bm (S.ks ++ [(g, k)]) (((List.range S.ks.length).map fun i => .int .i64 ((i : Nat) : Int)) ++ [.int .i64 (nv : Int)]) ∧ Keeps (fun j => j = bm) w0 w'))) [Free.FactR.is ?_, Free.FactR.is ?_, Free.FactR.is ?_, Free.FactR.is ?_, Free.FactR.is ?_, Free.FactR.is ?_, Free.FactR.any] (by kernel_rfl) (by kernel_rfl) (by kernel_rfl) rfl rfl (by decide) (⟨fun _ => (Below.refl _ _).drew, fun e => absurd e (by decide)⟩) ?_ ?_
    rotate_left 6
    refine Free.cons ?_ ?_
    · intro st hag; (obtain rfl : st = 0 := Nat.le_antisymm hag.2 hag.1); intro w' hS; intro K hK; have hs := hS.1 rfl; have k0 := (hs.cell (p := ⟨w.heap.size, 0, none⟩) hXlt).trans x0; have k1 := (hs.cell (p := ⟨w.heap.size, 1, none⟩) hXlt).trans x1; have k2 := (hs.cell (p := ⟨p, 3, none⟩) hplW).trans y3; first | (refine Free.run_yes (by rfl) ?_; go_simp; refine Free.oR hK (hR (Below.refl _ _)) hS ?_; exact rfl) | (refine Free.run_no (by rfl) (Free.oR hK (hR (Below.refl _ _)) hS ?_); exact rfl)
    refine Free.cons ?_ ?_
    · intro st hag; (obtain rfl : st = 0 := Nat.le_antisymm hag.2 hag.1); intro w' hS; (rintro _ rfl); intro K hK; have hs := hS.1 rfl; have k0 := (hs.cell (p := ⟨w.heap.size, 0, none⟩) hXlt).trans x0; have k1 := (hs.cell (p := ⟨w.heap.size, 1, none⟩) hXlt).trans x1; have k2 := (hs.cell (p := ⟨p, 3, none⟩) hplW).trans y3; first | (refine Free.run_yes (by rfl) ?_; go_simp; refine Free.oR hK (hR (Below.refl _ _)) hS ?_; exact rfl) | (refine Free.run_no (by rfl) (Free.oR hK (hR (Below.refl _ _)) hS ?_); exact rfl)
    refine Free.cons ?_ ?_
    · intro st hag; (obtain rfl : st = 0 := Nat.le_antisymm hag.2 hag.1); intro w' hS; (rintro _ rfl); intro K hK; have hs := hS.1 rfl; have k0 := (hs.cell (p := ⟨w.heap.size, 0, none⟩) hXlt).trans x0; have k1 := (hs.cell (p := ⟨w.heap.size, 1, none⟩) hXlt).trans x1; have k2 := (hs.cell (p := ⟨p, 3, none⟩) hplW).trans y3; first | (refine Free.run_yes (by rfl) ?_; go_simp; refine Free.oR hK (hR (Below.refl _ _)) hS ?_; exact rfl) | (refine Free.run_no (by rfl) (Free.oR hK (hR (Below.refl _ _)) hS ?_); exact rfl)
    refine Free.cons ?_ ?_
    · intro st hag; (obtain rfl : st = 0 := Nat.le_antisymm hag.2 hag.1); intro w' hS; (rintro _ rfl); intro K hK; have hs := hS.1 rfl; have k0 := (hs.cell (p := ⟨w.heap.size, 0, none⟩) hXlt).trans x0; have k1 := (hs.cell (p := ⟨w.heap.size, 1, none⟩) hXlt).trans x1; have k2 := (hs.cell (p := ⟨p, 3, none⟩) hplW).trans y3; first | (refine Free.run_yes (by rfl) ?_; go_simp; refine Free.oR hK (hR (Below.refl _ _)) hS ?_; exact rfl) | (refine Free.run_no (by rfl) (Free.oR hK (hR (Below.refl _ _)) hS ?_); exact rfl)
    refine Free.cons ?_ ?_
    · intro st hag; (obtain rfl : st = 0 := Nat.le_antisymm hag.2 hag.1); intro w' hS; intro K hK; have hs := hS.1 rfl; have k0 := (hs.cell (p := ⟨w.heap.size, 0, none⟩) hXlt).trans x0; have k1 := (hs.cell (p := ⟨w.heap.size, 1, none⟩) hXlt).trans x1; have k2 := (hs.cell (p := ⟨p, 3, none⟩) hplW).trans y3; first | (refine Free.run_yes (by rfl) ?_; go_simp; refine Free.oR hK (hR (Below.refl _ _)) hS ?_; exact rfl) | (refine Free.run_no (by rfl) (Free.oR hK (hR (Below.refl _ _)) hS ?_); exact rfl)
    refine Free.cons ?_ ?_
    · intro st hag; (obtain rfl : st = 0 := Nat.le_antisymm hag.2 hag.1); intro w' hS; intro K hK; have hs := hS.1 rfl; have k0 := (hs.cell (p := ⟨w.heap.size, 0, none⟩) hXlt).trans x0; have k1 := (hs.cell (p := ⟨w.heap.size, 1, none⟩) hXlt).trans x1; have k2 := (hs.cell (p := ⟨p, 3, none⟩) hplW).trans y3; first | (refine Free.run_yes (by rfl) ?_; go_simp; refine Free.oR hK (hR (Below.refl _ _)) hS ?_; exact rfl) | (refine Free.run_no (by rfl) (Free.oR hK (hR (Below.refl _ _)) hS ?_); exact rfl)
    refine Free.cons ?_ ?_
    · intro st hag; (obtain rfl : st = 0 := Nat.le_antisymm hag.2 hag.1); intro w' hS; (rintro _ rfl); (rintro _ rfl); (rintro _ rfl); intro K hK; have hs := hS.1 rfl; have k0 := (hs.cell (p := ⟨w.heap.size, 0, none⟩) hXlt).trans x0; have k1 := (hs.cell (p := ⟨w.heap.size, 1, none⟩) hXlt).trans x1; have k2 := (hs.cell (p := ⟨p, 3, none⟩) hplW).trans y3; refine Free.run_yes (by rfl) ?_; (obtain ⟨w5, hrun, hM5, hk5⟩ := run_updR (g, k) (.int .i64 (nv : Int)) w' bm S.ks _ (hOW.mp.below hs) hfh.out; unfold keyv at hrun; simp only at hrun; go_simp; refine hK.out _ _ trivial ⟨fun e => absurd e (by decide), fun _ => ⟨w', hs, hM5, hk5⟩⟩ (.inl rfl))
    exact Free.nil
    clear hvo
    intro w' hS; intro v0; intro v1; intro v2; intro v3; intro v4; intro v5; (try simp only [Act.put, List.setIfInBounds_toArray, List.set_cons_zero, List.set_cons_succ]); refine Free.toldE_nil ?_
    obtain ⟨w0a, hb0a, hM5, hk5⟩ := hS.2 rfl
    obtain ⟨V, rfl⟩ : ∃ W, W = w' := ⟨_, rfl⟩
    have hkV : Keeps (fun j => j = bm) W V := (Keeps.of_below hb0a).trans hk5 (fun _ e => .inl e)
    have hpV := (hOW.blk.keeps hkV (by omega))
    have huV := (hOW.pb.keeps hkV (by omega))
    have hrbV := hOW.rb.keeps hkV (fun hn a ha e => by have := hOW.al hn a ha; omega)
    have hrowV : SO V (p + 1) (.slice Ar nv cr) vs := hOW.row.row.kept hkV (fun i hi e => by have := (hOW.row.row.lt i hi).1; omega)
    have c0 := hpV.cell 0 (v := .pointer (some ⟨u, 0, none⟩)) rfl
    have c1 := hpV.cell 1 (v := .int .i64 S.L) rfl
    have c2 := hpV.cell 2 (v := .slice Ar nv cr) rfl
    have hpVl := hpV.lt
    have hzV := hkV.size
    have hWs := bW.size
    have hTl := drawL_len S.tape S.d S.L
    have HD := Lib.hid (fun w h1 h2 => rf_draw u S.d S.L S.tape A n c w h1 h2 hOW.nn hd hOW.l1 l2)
    have hPW := Lib.hid (fun w0 w1 w3 w' x v (hp : PadA V w1 w0 p u W.heap.size S.d S.L A n c (.slice Ar nv cr) vs (drawL S.tape S.d S.L) x v) hb hb2 => hOW.padded (k := (g, k)) (w1 := w1) (w0 := w0) (w3 := w3) (w' := w') hkV (by have := hM5; rwa [hnvk.out] at this) (Nat.le_refl _) hp hb hb2)
    simp only [hT.out] at HD hPW hTl
    replace HD := Lib.hid HD.out
    replace hPW := Lib.hid hPW.out
    replace hTl := Lib.hid hTl
    clear hS hM5 hk5 hb0a y2 y3 x0 x1
    go_wp2_with fail
    have hvo := Free.val
    refine Free.wp_factsRW (R := (fun w w' => Below w.heap.size w w')) (ss := [13, 15]) (pures := [0, 1, 2, 3, 4, 5, 6, 7, 8, 9, 10, 11, 12, 16, 17]) (M := [0, 0, 2, 6, 14, 0, 32, 96, 224, 0, 512, 1536, 3584, 8160, 16352, 32766, 65535, 131071, 262143]) (D := [[], [], [(1, 30)], [(2, 31)], [(3, 32)], [], [(5, 34)], [(6, 35)], [(7, 36)], [], [(9, 38)], [(10, 39)], [(11, 40)], [(8, 37), (12, 41)], [(13, 42)], [(4, 33), (14, 43)], [(0, 29)], [(16, 45)], [(17, 46), (15, 44)]]) (outs := [18]) (soles := [13, 15, 18]) (E := [(0, some 29, false), (1, some 30, false), (2, some 31, false), (3, some 32, false), (4, some 33, false), (5, some 34, false), (6, some 35, false), (7, some 36, false), (8, some 37, false), (9, some 38, false), (10, some 39, false), (11, some 40, false), (12, some 41, false), (13, some 42, false), (14, some 43, false), (15, some 44, false), (16, some 45, false), (17, some 46, false), (18, none, true)]) (N := 55) (S := (fun (st : Nat) w' => (st ≤ 1 → Keeps (fun j => j = u) V w') ∧ (st = 0 → Blk w' u #[.slice A n c, .int .i64 S.d] 62) ∧ (st = 1 → Blk w' u #[.slice A n c, .int .i64 ((S.d + S.L : Nat) : Int)] 62))) [Free.FactR.is ?_, Free.FactR.is ?_, Free.FactR.is ?_, Free.FactR.is ?_, Free.FactR.is ?_, Free.FactR.is ?_, Free.FactR.is ?_, Free.FactR.is ?_, Free.FactR.is ?_, Free.FactR.is ?_, Free.FactR.is ?_, Free.FactR.is ?_, Free.FactR.is ?_, Free.FactR.ofB (Free.Fact.own W.heap.size T), Free.FactR.ofB (Free.Fact.rowO W.heap.size T 22), Free.FactR.padA V p u W.heap.size S.d S.L A n c (.slice Ar nv cr) vs T, Free.FactR.is ?_, Free.FactR.is ?_, Free.FactR.padB V p u W.heap.size S.d S.L A n c (.slice Ar nv cr) vs T] (by kernel_rfl) (by kernel_rfl) (by kernel_rfl) rfl rfl (by decide) (⟨fun _ => (Keeps.refl _ _).drew, fun _ => huV.drew, fun e => absurd e (by decide)⟩) ?_ ?_
    rotate_left 15
    refine Free.cons ?_ ?_
    · intro st hag w' hS; intro K hK; first | (refine Free.run_yes (by rfl) ?_; go_simp; refine Free.oR hK (hR (Below.refl _ _)) hS ?_; exact rfl) | (refine Free.run_no (by rfl) (Free.oR hK (hR (Below.refl _ _)) hS ?_); exact rfl)
    refine Free.cons ?_ ?_
    · intro st hag w' hS; intro K hK; first | (refine Free.run_yes (by rfl) ?_; go_simp; refine Free.oR hK (hR (Below.refl _ _)) hS ?_; exact rfl) | (refine Free.run_no (by rfl) (Free.oR hK (hR (Below.refl _ _)) hS ?_); exact rfl)
    refine Free.cons ?_ ?_
    · intro st hag w' hS; (rintro _ rfl); intro K hK; first | (refine Free.run_yes (by rfl) ?_; go_simp; refine Free.oR hK (hR (Below.refl _ _)) hS ?_; exact rfl) | (refine Free.run_no (by rfl) (Free.oR hK (hR (Below.refl _ _)) hS ?_); exact rfl)
    refine Free.cons ?_ ?_
    · intro st hag w' hS; (rintro _ rfl); intro K hK; first | (refine Free.run_yes (by rfl) ?_; go_simp; refine Free.oR hK (hR (Below.refl _ _)) hS ?_; exact rfl) | (refine Free.run_no (by rfl) (Free.oR hK (hR (Below.refl _ _)) hS ?_); exact rfl)
    refine Free.cons ?_ ?_
    · intro st hag w' hS; (rintro _ rfl); intro K hK; refine Free.run_yes (by rfl) ?_; (have k2 := (hpV.keeps (hS.1 hag.2) (by omega)).cell 2 (v := .slice Ar nv cr) rfl; go_simp; refine Free.oR hK (hR (Below.refl _ _)) hS ?_; exact rfl)
    refine Free.cons ?_ ?_
    · intro st hag; (obtain rfl : st = 0 := Nat.le_antisymm hag.2 hag.1); intro w' hS; intro K hK; first | (refine Free.run_yes (by rfl) ?_; go_simp; refine Free.oR hK (hR (Below.refl _ _)) hS ?_; exact rfl) | (refine Free.run_no (by rfl) (Free.oR hK (hR (Below.refl _ _)) hS ?_); exact rfl)
    refine Free.cons ?_ ?_
    · intro st hag; (obtain rfl : st = 0 := Nat.le_antisymm hag.2 hag.1); intro w' hS; (rintro _ rfl); intro K hK; first | (refine Free.run_yes (by rfl) ?_; go_simp; refine Free.oR hK (hR (Below.refl _ _)) hS ?_; exact rfl) | (refine Free.run_no (by rfl) (Free.oR hK (hR (Below.refl _ _)) hS ?_); exact rfl)
    refine Free.cons ?_ ?_
    · intro st hag; (obtain rfl : st = 0 := Nat.le_antisymm hag.2 hag.1); intro w' hS; (rintro _ rfl); intro K hK; first | (refine Free.run_yes (by rfl) ?_; go_simp; refine Free.oR hK (hR (Below.refl _ _)) hS ?_; exact rfl) | (refine Free.run_no (by rfl) (Free.oR hK (hR (Below.refl _ _)) hS ?_); exact rfl)
    refine Free.cons ?_ ?_
    · intro st hag; (obtain rfl : st = 0 := Nat.le_antisymm hag.2 hag.1); intro w' hS; (rintro _ rfl); intro K hK; refine Free.run_yes (by rfl) ?_; (have k0 := (hpV.keeps (hS.1 (by decide)) (by omega)).cell 0 (v := .pointer (some ⟨u, 0, none⟩)) rfl; go_simp; refine Free.oR hK (hR (Below.refl _ _)) hS ?_; exact rfl)
    refine Free.cons ?_ ?_
    · intro st hag; (obtain rfl : st = 0 := Nat.le_antisymm hag.2 hag.1); intro w' hS; intro K hK; first | (refine Free.run_yes (by rfl) ?_; go_simp; refine Free.oR hK (hR (Below.refl _ _)) hS ?_; exact rfl) | (refine Free.run_no (by rfl) (Free.oR hK (hR (Below.refl _ _)) hS ?_); exact rfl)
    refine Free.cons ?_ ?_
    · intro st hag; (obtain rfl : st = 0 := Nat.le_antisymm hag.2 hag.1); intro w' hS; (rintro _ rfl); intro K hK; first | (refine Free.run_yes (by rfl) ?_; go_simp; refine Free.oR hK (hR (Below.refl _ _)) hS ?_; exact rfl) | (refine Free.run_no (by rfl) (Free.oR hK (hR (Below.refl _ _)) hS ?_); exact rfl)
    refine Free.cons ?_ ?_
    · intro st hag; (obtain rfl : st = 0 := Nat.le_antisymm hag.2 hag.1); intro w' hS; (rintro _ rfl); intro K hK; first | (refine Free.run_yes (by rfl) ?_; go_simp; refine Free.oR hK (hR (Below.refl _ _)) hS ?_; exact rfl) | (refine Free.run_no (by rfl) (Free.oR hK (hR (Below.refl _ _)) hS ?_); exact rfl)
    refine Free.cons ?_ ?_
    · intro st hag; (obtain rfl : st = 0 := Nat.le_antisymm hag.2 hag.1); intro w' hS; (rintro _ rfl); intro K hK; refine Free.run_yes (by rfl) ?_; (have k1 := (hpV.keeps (hS.1 (by decide)) (by omega)).cell 1 (v := .int .i64 S.L) rfl; go_simp; refine Free.oR hK (hR (Below.refl _ _)) hS ?_; exact rfl)
    refine Free.cons ?_ ?_
    · intro st hag; (obtain rfl : st = 0 := Nat.le_antisymm hag.2 hag.1); intro w' hS; (rintro _ rfl); (rintro _ rfl); intro K hK; refine Free.run_yes (by rfl) ?_; (go_simp; go_at_call 40; refine (HD.out w' (hS.2.1 rfl) (hrbV.keeps (hS.1 (by decide)) (fun hn a ha e => by have := hOW.al hn a ha; omega))).mono ?_; rintro e w5 ⟨rfl, ho5, hb5, hk5⟩; simp only [Free.valOf, Act.put, List.setIfInBounds_toArray, List.set_cons_zero, List.set_cons_succ, Array.getD_eq_getD_getElem?, List.getElem?_toArray, List.getElem?_cons_succ, List.getElem?_cons_zero, Option.getD_some]; have h0 := hS.1 (by decide); have h0s := h0.size; refine hK.out _ _ (ho5.mono (fun j hj => by have := (ho5.lt j hj).1; omega)) ⟨fun _ => h0.trans hk5 (fun _ e => .inl e), fun e => absurd e (by decide), fun _ => hb5⟩ (.inl rfl))
    refine Free.cons ?_ ?_
    · intro st hag; (obtain rfl : st = 1 := Nat.le_antisymm hag.2 hag.1); intro w' hS; (intro v13 h13); intro K hK; refine Free.run_yes (by rfl) ?_; (obtain ⟨A5, c5, rfl, hr5⟩ := OB.sl h13 S.L hTl.out; go_simp; have h0 := hS.1 (by decide); have h0s := h0.size; refine hK.out _ _ ⟨_, _, _, _, rfl, Blk.new _ _ _, OB.alloc h13 _⟩ ⟨fun _ => h0.alloc _, fun e => absurd e (by decide), fun e => (hS.2.2 e).alloc _⟩ (.inr (hR ((Below.refl _ _).alloc (Nat.le_refl _) _))))
    refine Free.cons ?_ ?_
    · intro st hag; (obtain rfl : st = 1 := Nat.le_antisymm hag.2 hag.1); intro w' hS; (rintro _ rfl); (intro v14 h14); intro K hK; refine Free.run_yes (by rfl) ?_; (obtain ⟨g6, A6, n6, c6, rfl, hb6, ho6⟩ := h14; have h0 := hS.1 (by decide); have h0s := h0.size; refine wp_apps (.tmp 33) (.tmp 43) rfl (p + 1) (.slice Ar nv cr) (.slice A6 n6 c6) vs g6 rfl rfl (hrowV.kept h0 (fun i hi e => by have := (hrowV.lt i hi).1; omega)) (hb6.cell 0 rfl) rfl (by have := hnv.out; omega) (by omega) ?_; intro v7 w7 hso hk7 hv7; refine ⟨rfl, ?_⟩; simp only [Free.valOf, Act.put, List.setIfInBounds_toArray, List.set_cons_zero, List.set_cons_succ, Array.getD_eq_getD_getElem?, List.getElem?_toArray, List.getElem?_cons_succ, List.getElem?_cons_zero, Option.getD_some]; refine hK.out _ _ ⟨w', w7, .slice A6 n6 c6, ⟨h0, hS.2.2 rfl, ho6, hso, hk7, hv7⟩, Below.refl _ _⟩ ⟨fun e => absurd e (by decide), fun e => absurd e (by decide), fun e => absurd e (by decide)⟩ (.inl rfl))
    refine Free.cons ?_ ?_
    · intro st hag; (obtain rfl : st = 2 := Nat.le_antisymm hag.2 hag.1); intro w' hS; (rintro _ rfl); intro K hK; first | (refine Free.run_yes (by rfl) ?_; go_simp; refine Free.oR hK (hR (Below.refl _ _)) hS ?_; exact rfl) | (refine Free.run_no (by rfl) (Free.oR hK (hR (Below.refl _ _)) hS ?_); exact rfl)
    refine Free.cons ?_ ?_
    · intro st hag; (obtain rfl : st = 2 := Nat.le_antisymm hag.2 hag.1); intro w' hS; (rintro _ rfl); intro K hK; first | (refine Free.run_yes (by rfl) ?_; go_simp; refine Free.oR hK (hR (Below.refl _ _)) hS ?_; exact rfl) | (refine Free.run_no (by rfl) (Free.oR hK (hR (Below.refl _ _)) hS ?_); exact rfl)
    refine Free.cons ?_ ?_
    · intro st hag; (obtain rfl : st = 2 := Nat.le_antisymm hag.2 hag.1); intro w' hS; (rintro _ rfl); (intro v15 h15); intro K hK; refine Free.run_yes (by rfl) ?_; (obtain ⟨w1, w0, x, hpa, hb7⟩ := h15; obtain ⟨A7, c7, hv7, -, -, -⟩ := hpa.so.form; rw [show (vs ++ [x]).length = nv + 1 from by rw [List.length_append, hnv.out]; rfl] at hv7; subst hv7; have hbk := (((hpV.keeps hpa.k1 (by omega)).keeps hpa.k2 (fun e => by have := (hrowV.lt p e).1; omega)).below hb7 (((hpV.keeps hpa.k1 (by omega)).keeps hpa.k2 (fun e => by have := (hrowV.lt p e).1; omega)).lt)); have k0 := hbk.cell 2 (v := .slice Ar nv cr) rfl; have k1 := hbk.fz 2; go_simp; refine hK.out _ _ ⟨w1, w0, x, _, w', hpa, hb7, Below.refl _ _⟩ ⟨fun e => absurd e (by decide), fun e => absurd e (by decide), fun e => absurd e (by decide)⟩ (.inl rfl))
    exact Free.nil
    clear hvo
    intro w' hS; intro v0; intro v1; intro v2; intro v3; intro v4; intro v5; intro v6; intro v7; intro v8; intro v9; intro v10; intro v11; intro v12; intro v13; intro v14; intro v15; intro v16; intro v17; intro v18 h18; (try simp only [Act.put, List.setIfInBounds_toArray, List.set_cons_zero, List.set_cons_succ]); refine Free.toldW_nil ?_
    obtain ⟨w1a, w0b, x, v, w3, hpa, hb7, hb8⟩ := h18
    obtain ⟨hRf, hKf⟩ := hPW.out _ _ _ _ _ _ hpa hb7 hb8
    obtain ⟨W2, rfl⟩ : ∃ W, W = w' := ⟨_, rfl⟩
    obtain ⟨A8, c8, hv8, -, -, hf8⟩ := hRf.row.row.form
    rw [show (vs ++ [x]).length = nv + 1 from by rw [List.length_append, hnv.out]; rfl] at hv8 hf8
    subst hv8
    obtain ⟨g8, rfl, -, hc8⟩ := hf8 (by omega)
    have hxn : (vs ++ [x])[nv]? = some x := by rw [List.getElem?_append_right (by rw [hnv.out]; exact Nat.le_refl _), hnv.out, Nat.sub_self]; rfl
    have hkps : S.ps.length = nv := by rw [hnvk.out, hres.out.kl]
    have hTn : (S.ps ++ [T])[nv]? = some T := by rw [List.getElem?_append_right (by omega), hkps, Nat.sub_self]; rfl
    obtain ⟨B1, d1, rfl, hr1⟩ := OB.sl (hRf.row.each nv x T hxn hTn).1 S.L hTl.out
    have cx := hc8 nv _ hxn
    have y2 := hRf.blk.cell 2 (v := .slice (some ⟨g8, 0, none⟩) (nv + 1) c8) rfl
    have hnewv : ∀ j, (Value.slice (some ⟨g8, 0, none⟩) (nv + 1) c8).ownBlock = some j → (Value.slice Ar nv cr).ownBlock = some j ∨ w.heap.size ≤ j := fun j hj => by
      rcases hpa.ow with e | e
      · left; rw [← e]; exact hj
      · right; rw [e] at hj; injection hj with hj; have := hpa.k1.size; omega
    have hnewx : ∀ j, (Value.slice B1 S.L d1).ownBlock = some j → w.heap.size ≤ j := fun j hj => by have := (hpa.ox.lt j hj).1; omega
    have HC2 := Lib.hid (ref_copy B1 S.L d1 T W2 hr1 (by omega))
    have hKall := (Keeps.of_below (S := fun j => j = p ∨ j = u ∨ j = bm ∨ (Value.slice Ar nv cr).ownBlock = some j) bW).trans hKf (fun _ e => .inl e)
    have hws := hKall.size
    clear hS hPW hpa hb7 hb8 hKf hkps hTn hxn hc8 HD hkV hpV huV hrbV hrowV c0 c1 c2
    go_wp2_with fail
    refine HC2.out.mono ?_
    rintro e w5 ⟨vo, rfl, ho, b5⟩
    go_wp2
    go_ret
    exact ⟨vo, _, _, rfl, ho.mono (fun i hi => by have := (ho.lt i hi).1; omega), hRf.below b5, hKall.then_below b5, hnewv, fun y hy => by
      rcases List.mem_append.1 hy with hy | hy
      · exact .inl hy
      · simp at hy; subst hy; exact .inr hnewx, fun e => absurd e (by simp)⟩
end Go.Proofs.Ytniendffanemcaa
/- The document's oracle: Seal that may not be; Open. -/
namespace Go.Proofs.Ytniendffanemcaa
open Go.ChangeShapes Go.WideShapes Go.ChangeAt Go.RowKit
open Go.ChangeMaps (open_string shut_string)
set_option linter.unusedVariables false
set_option linter.unusedSimpArgs false
set_option maxRecDepth 100000

set_option maxHeartbeats 4000000 in
theorem rf_seal_no (w : World) (p u bm : Nat) (A : Option Addr) (n c : Nat) (vp vr : Value) (vs : List Value) (S : OrcS) (g k : Int) (A1 : Option Addr) (n1 c1 : Nat) (a : List UInt8) (h : Rfc w p u bm A n c vp vr vs S) (ha : RB w A1 n1 c1 a) (E : Int) (hE : sealE S g k a = E) (hne : E ≠ 0) :
    Calls Try.prog 24 #[.pointer (some ⟨p, 0, none⟩), .agg #[.int .i64 g, .int .i64 k], .slice A1 n1 c1] w fun e w' => e = .returned (.tuple #[.slice none 0 0, .int .i64 E]) ∧ Below w.heap.size w w' := by
  have bb : Below w.heap.size w (w.alloc (.cells #[.int .i64 g, .int .i64 k] 67)) := (by repeat (first | exact Below.refl _ _ | assumption | apply below_drewN' | apply Below.drew | refine Below.alloc ?_ (by first | omega | (simp; done) | (simp; omega)) _ | refine Below.setCell ?_ (by first | omega | (simp; done) | (simp; omega)) _))
  have hX := Blk.new w #[.int .i64 g, .int .i64 k] 67
  have hO := h.below bb
  have hal := ha.len
  obtain ⟨m, hm⟩ : ∃ m, (amongB g && amongB k) = m := ⟨_, rfl⟩
  have HM := Lib.hid (fun w => ref_may_is g k m w hm)
  obtain ⟨b, hb⟩ : ∃ b, (fndK (g, k) S.ks 0).isSome = b := ⟨_, rfl⟩
  have HK := Lib.hid (fun w h => rf_known w p u bm A n c vp vr vs S g k b h hb)
  unfold sealE at hE
  rw [hm, hb, hal] at hE
  clear hm hb
  cases m with
  | false =>
    rw [if_pos (.inl rfl)] at hE
    subst hE
    go_enter Try.func24, Try.ntmps24
    go_wp2_with fail
    refine (HM.out _).mono ?_
    rintro e w2 ⟨rfl, e3⟩
    go_wp2
    go_ret2
    exact ⟨rfl, Below.next bb e3 (Nat.le_refl _)⟩
  | true =>
  by_cases h0 : g = 0
  · rw [if_pos (.inr h0)] at hE
    subst hE h0
    go_enter Try.func24, Try.ntmps24
    go_wp2_with fail
    refine (HM.out _).mono ?_
    rintro e w2 ⟨rfl, e3⟩
    have x0 := (hX.below e3 hX.lt).cell 0 (v := .int .i64 0) rfl
    go_wp2
    go_ret2
    exact ⟨rfl, Below.next bb e3 (Nat.le_refl _)⟩
  rw [if_neg (by simp [h0])] at hE
  have h02 : (g == 0) = false := by rw [beq_eq_false_iff_ne]; exact h0
  by_cases hL : n1 = S.L
  rotate_left
  · rw [if_pos hL] at hE
    subst hE
    have hL2 : ((n1 : Int) != (S.L : Int)) = true := by rw [bne_iff_ne]; omega
    go_enter Try.func24, Try.ntmps24
    go_wp2_with fail
    refine (HM.out _).mono ?_
    rintro e w2 ⟨rfl, e3⟩
    have x0 := (hX.below e3 hX.lt).cell 0 (v := .int .i64 g) rfl
    have y1 := (hO.below e3).blk.cell 1 (v := .int .i64 S.L) rfl
    go_wp2
    go_ret2
    exact ⟨rfl, Below.next bb e3 (Nat.le_refl _)⟩
  · rw [if_neg (by simpa using hL)] at hE
    have hL2 : ((n1 : Int) != (S.L : Int)) = false := by rw [bne_eq_false_iff_eq]; omega
    cases b with
    | false => rw [if_neg (by simp)] at hE; exact absurd hE.symm hne
    | true =>
      rw [if_pos rfl] at hE
      subst hE
      go_enter Try.func24, Try.ntmps24
      go_wp2_with fail
      refine (HM.out _).mono ?_
      rintro e w2 ⟨rfl, e3⟩
      have hX2 := hX.below e3 hX.lt
      have hO2 := hO.below e3
      have x0 := hX2.cell 0 (v := .int .i64 g) rfl
      have x1 := hX2.cell 1 (v := .int .i64 k) rfl
      have y1 := hO2.blk.cell 1 (v := .int .i64 S.L) rfl
      go_wp2_with fail
      refine (HK.out _ hO2).mono ?_
      rintro e w4 ⟨rfl, e4⟩
      go_wp2
      go_ret2
      exact ⟨rfl, Below.next (Below.next bb e3 (Nat.le_refl _)) e4 (Nat.le_refl _)⟩
set_option maxHeartbeats 8000000 in
theorem rf_open (w : World) (p u bm : Nat) (A : Option Addr) (n c : Nat) (vp vr : Value) (vs : List Value) (S : OrcS) (A1 : Option Addr) (n1 c1 : Nat) (l : List UInt8) (h : Rfc w p u bm A n c vp vr vs S) (ha : RB w A1 n1 c1 l) (hd : S.d ≤ 1000000000000) (hn : n1 ≤ 1000000) (hkl : S.ks.length ≤ 1000) :
    Calls Try.prog 26 #[.pointer (some ⟨p, 0, none⟩), .slice A1 n1 c1] w fun e w' => ∃ A' n' c', e = .returned (.tuple #[.slice A' n' c', .int .i64 (openE S l)]) ∧ RB w' A' n' c' (openT S l) ∧ Below w.heap.size w w' := by
  have hal := ha.len
  have hac := ha.cap
  have l1 := h.l1
  have l2 := h.l2
  have y1 := h.blk.cell 1 (v := .int .i64 S.L) rfl
  by_cases hL : l.length = 12 + S.L
  rotate_left
  · have hE : openE S l = 2 := by unfold openE; rw [if_pos hL]
    have hT : openT S l = [] := by unfold openT; rw [hE]; rfl
    rw [hE, hT]
    have hL2 : ((n1 : Int) != 12 + (S.L : Int)) = true := by rw [bne_iff_ne]; omega
    go_enter Try.func26, Try.ntmps26
    go_wp2
    go_ret2
    exact ⟨none, 0, 0, rfl, RB.none_ _, Below.refl _ _⟩
  have hL2 : ((n1 : Int) != 12 + (S.L : Int)) = false := by rw [bne_eq_false_iff_eq]; omega
  have hsl : ∀ w, (Instr.slice 22 (.slice A1 n1 c1) none (some (.int .i64 12)) none).run Try.prog w = .ok (.slice A1 12 c1) w := fun w => run_takeS A1 n1 c1 12 w (by omega)
  have ht := ha.take 12 (by omega)
  have HN := Lib.hid (fun w h => ref_parse A1 12 c1 (l.take 12) w h)
  have hE1 : openE S l = if parseOk (l.take 12) = false then 2 else if rnumV (l.take 6) = 0 then 0 else if (fndK (rnumV (l.take 6), rnumV ((l.take 12).drop 6)) S.ks 0).isSome = true then 0 else 5 := by unfold openE; rw [if_neg (by simpa using hL)]
  cases hp : parseOk (l.take 12) with
  | false =>
    rw [hp, if_pos rfl] at hE1
    have hT : openT S l = [] := by unfold openT; rw [hE1]; rfl
    rw [hE1, hT]
    rw [parseV_no hp, hp] at HN
    clear hp hE1 hT
    go_enter Try.func26, Try.ntmps26
    go_wp2_with fail
    refine (HN.out _ ht).mono ?_
    rintro e w2 ⟨rfl, e3⟩
    go_wp2
    go_ret2
    exact ⟨none, 0, 0, rfl, RB.none_ _, e3.alloc e3.size _⟩
  | true =>
    rw [hp, if_neg (by simp)] at hE1
    rw [parseV_yes hp, hp, List.take_take, show min 6 12 = 6 from rfl] at HN
    obtain ⟨g, hg⟩ : ∃ g, rnumV (l.take 6) = g := ⟨_, rfl⟩
    obtain ⟨k, hk⟩ : ∃ k, rnumV ((l.take 12).drop 6) = k := ⟨_, rfl⟩
    have hT1 : openT S l = if openE S l ≠ 0 then [] else if g = 0 then List.replicate S.L 0 else xor2 (l.drop 12) (padOf S (g, k)) := by unfold openT; rw [hg, hk]
    rw [hg, hk] at HN hE1
    clear hg hk hp
    by_cases h0 : g = 0
    · rw [if_pos h0] at hE1
      have hT : openT S l = List.replicate S.L 0 := by rw [hT1, hE1, if_neg (by simp), if_pos h0]
      rw [hE1, hT]
      have hmk := fun w => run_mk w S.L (by omega)
      clear hE1 hT1 hT
      subst h0
      go_enter Try.func26, Try.ntmps26
      go_wp2_with fail
      refine (HN.out _ ht).mono ?_
      rintro e w2 ⟨rfl, e3⟩
      have z1 := (h.below (e3.alloc e3.size (.cells #[.int .i64 0, .int .i64 k] 67))).blk.cell 1 (v := .int .i64 S.L) rfl
      go_wp2
      go_ret2
      exact ⟨_, _, _, rfl, RB.of_cells (Blk.new2 _ _ _ _) (by simp) (by unfold maxLen; omega), (e3.alloc e3.size _).alloc (by have := e3.size; simp; omega) _⟩
    rw [if_neg h0] at hE1
    have h02 : (g == 0) = false := by rw [beq_eq_false_iff_ne]; exact h0
    obtain ⟨b, hb⟩ : ∃ b, (fndK (g, k) S.ks 0).isSome = b := ⟨_, rfl⟩
    have HK := Lib.hid (fun w h => rf_known w p u bm A n c vp vr vs S g k b h hb)
    rw [hb] at hE1
    cases b with
    | false =>
      rw [if_neg (by simp)] at hE1
      have hT : openT S l = [] := by rw [hT1, hE1]; rfl
      rw [hE1, hT]
      clear hE1 hT1 hT h0
      go_enter Try.func26, Try.ntmps26
      go_wp2_with fail
      refine (HN.out _ ht).mono ?_
      rintro e w2 ⟨rfl, e3⟩
      have b2 := e3.alloc e3.size (.cells #[.int .i64 g, .int .i64 k] 67)
      have hX := Blk.new w2 #[.int .i64 g, .int .i64 k] 67
      have x0 := hX.cell 0 (v := .int .i64 g) rfl
      have x1 := hX.cell 1 (v := .int .i64 k) rfl
      go_wp2_with fail
      refine (HK.out _ (h.below b2)).mono ?_
      rintro e w4 ⟨rfl, e4⟩
      go_wp2
      go_ret2
      exact ⟨none, 0, 0, rfl, RB.none_ _, Below.next b2 e4 (Nat.le_refl _)⟩
    | true =>
      rw [if_pos rfl] at hE1
      have hT : openT S l = xor2 (l.drop 12) (padOf S (g, k)) := by rw [hT1, hE1, if_neg (by simp), if_neg h0]
      rw [hE1, hT]
      have HP := Lib.hid (fun w h => rf_pad w p u bm A n c vp vr vs S g k h hd hkl)
      have hPl : (padOf S (g, k)).length = S.L := by
        unfold padOf
        cases hf : fndK (g, k) S.ks 0 with
        | none => exact drawL_len _ _ _
        | some j =>
          have hj := fndK_ge _ _ _ _ hf
          obtain ⟨l, hl⟩ : ∃ l, S.ps[j]? = some l := ⟨_, List.getElem?_eq_getElem (by have := h.kl; omega)⟩
          simp only [hl, Option.getD_some]
          exact h.pll l (List.mem_of_getElem? hl)
      generalize padOf S (g, k) = T at *
      have hcut := ha.cut 12 n1 (by omega) (Nat.le_refl _)
      rw [show l.take n1 = l from by rw [← hal, List.take_length]] at hcut
      have hsl2 : ∀ w, (Instr.slice 22 (.slice A1 n1 c1) (some (.int .i64 12)) none none).run Try.prog w = .ok (.slice (if c1 = 12 then A1 else A1.map (·.add 12)) (n1 - 12) (c1 - 12)) w := fun w => run_fromS A1 n1 c1 12 w (by omega)
      have hdl : (l.drop 12).length = S.L := by rw [List.length_drop]; omega
      obtain ⟨A2, c2, hAc⟩ : ∃ A2 c2, A2 = (if c1 = 12 then A1 else A1.map (·.add 12)) ∧ c2 = c1 - 12 := ⟨_, _, rfl, rfl⟩
      obtain ⟨n2, hn2⟩ : ∃ n2, n2 = n1 - 12 := ⟨_, rfl⟩
      rw [← hAc.1, ← hAc.2, ← hn2] at hcut
      simp only [← hAc.1, ← hAc.2, ← hn2] at hsl2
      have hn2L : n2 = S.L := by omega
      have HX := Lib.hid (fun B5 c5 w h h2 => ref_xor A2 n2 c2 (l.drop 12) B5 S.L c5 T w h h2 (by omega))
      have hXl := Lib.hid (show (xor2 (l.drop 12) T).length = S.L from by rw [xor2_len]; exact hdl)
      have hTl := Lib.hid hPl
      have hbt := Lib.hid hb
      generalize l.drop 12 = D at *
      replace hn2 := Lib.hid hn2
      replace hn2L := Lib.hid hn2L
      clear hE1 hT1 hT h0 hPl hAc hb hL hdl
      go_enter Try.func26, Try.ntmps26
      go_wp2_with fail
      refine (HN.out _ ht).mono ?_
      rintro e w2 ⟨rfl, e3⟩
      have b2 := e3.alloc e3.size (.cells #[.int .i64 g, .int .i64 k] 67)
      have hX := Blk.new w2 #[.int .i64 g, .int .i64 k] 67
      have x0 := hX.cell 0 (v := .int .i64 g) rfl
      have x1 := hX.cell 1 (v := .int .i64 k) rfl
      have hx := e3.size
      go_wp2_with fail
      refine (HK.out _ (h.below b2)).mono ?_
      rintro e w4 ⟨rfl, e4⟩
      have b4 := Below.next b2 e4 (Nat.le_refl _)
      have hX4 := hX.below e4 hX.lt
      have hO4 := h.below b4
      have hc4 := hcut.below b4
      clear e4 b2 hX x0 x1 e3
      have x0 := hX4.cell 0 (v := .int .i64 g) rfl
      have x1 := hX4.cell 1 (v := .int .i64 k) rfl
      go_wp2_with fail
      have hvo := Free.val
      refine Free.wp_facts (M := [0, 1, 0, 0, 12, 31, 63, 127]) (D := [[], [(0, 39)], [], [], [(2, 41), (3, 42)], [(1, 40), (4, 43)], [(5, 44)], []]) (outs := [6, 7]) (soles := []) (E := [(0, 39, false), (1, 40, false), (2, 41, false), (3, 42, false), (4, 43, false), (5, 44, false), (6, 4, true), (7, 5, true)]) (N := 45) (S := (fun w' => Below w4.heap.size w4 w')) [Free.Fact.is ?_, Free.Fact.is ?_, Free.Fact.is ?_, Free.Fact.is ?_, Free.Fact.own w4.heap.size T, Free.Fact.sl S.L (xor2 D T), Free.Fact.sl S.L (xor2 D T), Free.Fact.is ?_] (by kernel_rfl) (by kernel_rfl) rfl ((Below.refl _ _).drew) ?_ ?_
      rotate_left 5
      refine Free.cons ?_ ?_
      · intro w' hS; intro K hK; have k0 := (hS.cell (p := ⟨w2.heap.size, 0, none⟩) hX4.lt).trans x0; have k1 := (hS.cell (p := ⟨w2.heap.size, 1, none⟩) hX4.lt).trans x1; first | (refine Free.run_yes (by rfl) ?_; go_simp; refine Free.o hK hS ?_; exact rfl) | (refine Free.run_no (by rfl) (Free.o hK hS ?_); exact rfl)
      refine Free.cons ?_ ?_
      · intro w' hS; (rintro _ rfl); intro K hK; have k0 := (hS.cell (p := ⟨w2.heap.size, 0, none⟩) hX4.lt).trans x0; have k1 := (hS.cell (p := ⟨w2.heap.size, 1, none⟩) hX4.lt).trans x1; first | (refine Free.run_yes (by rfl) ?_; go_simp; refine Free.o hK hS ?_; exact rfl) | (refine Free.run_no (by rfl) (Free.o hK hS ?_); exact rfl)
      refine Free.cons ?_ ?_
      · intro w' hS; intro K hK; have k0 := (hS.cell (p := ⟨w2.heap.size, 0, none⟩) hX4.lt).trans x0; have k1 := (hS.cell (p := ⟨w2.heap.size, 1, none⟩) hX4.lt).trans x1; first | (refine Free.run_yes (by rfl) ?_; go_simp; refine Free.o hK hS ?_; exact rfl) | (refine Free.run_no (by rfl) (Free.o hK hS ?_); exact rfl)
      refine Free.cons ?_ ?_
      · intro w' hS; intro K hK; have k0 := (hS.cell (p := ⟨w2.heap.size, 0, none⟩) hX4.lt).trans x0; have k1 := (hS.cell (p := ⟨w2.heap.size, 1, none⟩) hX4.lt).trans x1; first | (refine Free.run_yes (by rfl) ?_; go_simp; refine Free.o hK hS ?_; exact rfl) | (refine Free.run_no (by rfl) (Free.o hK hS ?_); exact rfl)
      refine Free.cons ?_ ?_
      · intro w' hS; (rintro _ rfl); (rintro _ rfl); intro K hK; have k0 := (hS.cell (p := ⟨w2.heap.size, 0, none⟩) hX4.lt).trans x0; have k1 := (hS.cell (p := ⟨w2.heap.size, 1, none⟩) hX4.lt).trans x1; refine Free.run_yes (by rfl) ?_; (go_simp; go_at_call 27; refine (HP.out _ (hO4.below hS)).mono ?_; rintro e w5 ⟨v1, vr', vs', rfl, ho, -, -, -, -, hx'⟩; have hb5 := hx' hbt.out; (try simp only [Free.valOf, Act.put, List.setIfInBounds_toArray, List.set_cons_zero, List.set_cons_succ, Array.getD_eq_getD_getElem?, List.getElem?_toArray, List.getElem?_cons_succ, List.getElem?_cons_zero, Option.getD_some]); have hs1 := hS.size; refine hK.out _ _ (OB.mono ho (fun j hj => by have := (ho.lt j hj).1; omega)) (Below.next hS hb5 (Nat.le_refl _)) (.inr hb5))
      refine Free.cons ?_ ?_
      · intro w' hS; (rintro _ rfl); (intro v4 h4); intro K hK; have k0 := (hS.cell (p := ⟨w2.heap.size, 0, none⟩) hX4.lt).trans x0; have k1 := (hS.cell (p := ⟨w2.heap.size, 1, none⟩) hX4.lt).trans x1; refine Free.run_yes (by rfl) ?_; (obtain ⟨A6, c6, rfl, hr6⟩ := OB.sl h4 S.L hTl.out; go_simp; go_at_call 11; refine (HX.out _ _ _ (hc4.below hS) hr6).mono ?_; rintro e w5 ⟨v1, rfl, ho, hb⟩; (try simp only [Free.valOf, Act.put, List.setIfInBounds_toArray, List.set_cons_zero, List.set_cons_succ, Array.getD_eq_getD_getElem?, List.getElem?_toArray, List.getElem?_cons_succ, List.getElem?_cons_zero, Option.getD_some]); have ho2 := OB.sl (l := xor2 D T) ho S.L hXl.out; refine hK.out _ _ ho2 (Below.next hS hb (Nat.le_refl _)) (.inr hb))
      refine Free.cons ?_ ?_
      · intro w' hS; (intro v5 h5); intro K hK; have k0 := (hS.cell (p := ⟨w2.heap.size, 0, none⟩) hX4.lt).trans x0; have k1 := (hS.cell (p := ⟨w2.heap.size, 1, none⟩) hX4.lt).trans x1; first | (refine Free.run_yes (by rfl) ?_; go_simp; refine Free.o hK hS ?_; first | exact rfl | assumption) | (refine Free.run_no (by rfl) (Free.o hK hS ?_); exact rfl)
      refine Free.cons ?_ ?_
      · intro w' hS; intro K hK; have k0 := (hS.cell (p := ⟨w2.heap.size, 0, none⟩) hX4.lt).trans x0; have k1 := (hS.cell (p := ⟨w2.heap.size, 1, none⟩) hX4.lt).trans x1; first | (refine Free.run_yes (by rfl) ?_; go_simp; refine Free.o hK hS ?_; exact rfl) | (refine Free.run_no (by rfl) (Free.o hK hS ?_); exact rfl)
      exact Free.nil
      clear hvo
      intro w' hS; intro v0; intro v1; intro v2; intro v3; intro v4; intro v5; intro v6 h6; (rintro _ rfl); (try simp only [Act.put, List.setIfInBounds_toArray, List.set_cons_zero, List.set_cons_succ]); refine Free.toldE_nil ?_
      obtain ⟨A7, c7, rfl, hr7⟩ := h6
      go_wp2
      go_ret2
      exact ⟨A7, _, c7, rfl, hr7, Below.next b4 hS (Nat.le_refl _)⟩
end Go.Proofs.Ytniendffanemcaa
/- The document's oracle: Seal. -/
namespace Go.Proofs.Ytniendffanemcaa
open Go.ChangeShapes Go.WideShapes Go.ChangeAt Go.RowKit
open Go.ChangeMaps (open_string shut_string)
set_option linter.unusedVariables false
set_option linter.unusedSimpArgs false
set_option maxRecDepth 100000

theorem Rfc.uniq {w : World} {p u bm n c : Nat} {A : Option Addr} {vp vr vr' : Value} {vs vs' : List Value} {S S' : OrcS} (h : Rfc w p u bm A n c vp vr vs S) (h' : Rfc w p u bm A n c vp vr' vs' S') : vr = vr' ∧ vs = vs' := by
  have e1 := h.blk
  have e2 := h'.blk
  unfold Blk at e1 e2
  rw [e1] at e2
  injection e2 with e2
  injection e2 with e2
  simp only [Array.mk.injEq, List.cons.injEq] at e2
  obtain ⟨-, -, e3, -⟩ := e2
  subst e3
  refine ⟨rfl, ?_⟩
  rcases h.row.row.2 with ⟨e, h0⟩ | ⟨g, cap, cur, e, _, hg, _, _, _, ht⟩
  · rcases h'.row.row.2 with ⟨e', h0'⟩ | ⟨g', cap', cur', e', _⟩
    · rw [List.eq_nil_of_length_eq_zero h0, List.eq_nil_of_length_eq_zero h0']
    · rw [e] at e'; cases e'
  · rcases h'.row.row.2 with ⟨e', h0'⟩ | ⟨g', cap', cur', e', _, hg', _, _, _, ht'⟩
    · rw [e] at e'; cases e'
    · rw [e] at e'
      injection e' with a1 a2 a3
      injection a1 with a1
      injection a1 with a1
      subst a1
      rw [hg] at hg'
      injection hg' with hg'
      injection hg' with hg'
      subst hg'
      rw [← ht, ← ht', a2]
/-- What a step of the document's oracle leaves. -/
def RStep (B p u bm : Nat) (A : Option Addr) (n c : Nat) (vp : Value) (w w' : World) : Prop := Keeps (fun j => j < B) w w' ∧ ∀ vr vs S, Rfc w p u bm A n c vp vr vs S → ∃ vr' vs' S', Rfc w' p u bm A n c vp vr' vs' S' ∧ (∀ j, vr'.ownBlock = some j → vr.ownBlock = some j ∨ w.heap.size ≤ j) ∧ (∀ x ∈ vs', x ∈ vs ∨ ∀ j, x.ownBlock = some j → w.heap.size ≤ j)
theorem RStep.of_below {B p u bm n c : Nat} {A : Option Addr} {vp : Value} {w w' : World} (h : Below w.heap.size w w') : RStep B p u bm A n c vp w w' :=
  ⟨Keeps.of_below h, fun vr vs S h1 => ⟨vr, vs, S, h1.below h, fun j hj => .inl hj, fun x hx => .inl hx⟩⟩
def Free.FactR.apartR (B p u bm : Nat) (A : Option Addr) (n c : Nat) (vp : Value) (l : List UInt8) : Free.FactR (RStep B p u bm A n c vp) :=
  { f := fun v w => OB w B v l ∧ ∃ vr vs S, Rfc w p u bm A n c vp vr vs S ∧ ∀ j, v.ownBlock = some j → vr.ownBlock ≠ some j ∧ ∀ x ∈ vs, x.ownBlock ≠ some j
    stab := fun v w w' ⟨h1, vr, vs, S, hR, h2⟩ ⟨hk, hm⟩ => ⟨OB.kept h1 hk (fun j hj e => by have := (h1.lt j hj).1; omega), by
      obtain ⟨vr', vs', S', hR', hv, hx⟩ := hm vr vs S hR
      refine ⟨vr', vs', S', hR', fun j hj => ⟨fun e => ?_, fun x hx' e => ?_⟩⟩
      · rcases hv j e with e | e
        · exact (h2 j hj).1 e
        · have := (h1.lt j hj).2; omega
      · rcases hx x hx' with e2 | e2
        · exact (h2 j hj).2 x e2 e
        · have := e2 j e; have := (h1.lt j hj).2; omega⟩ }
def Free.FactR.ownR (B p u bm : Nat) (A : Option Addr) (n c : Nat) (vp : Value) (l : List UInt8) : Free.FactR (RStep B p u bm A n c vp) :=
  { f := fun v w => OB w B v l, stab := fun v w w' h1 ⟨hk, _⟩ => OB.kept h1 hk (fun j hj e => by have := (h1.lt j hj).1; omega) }
theorem Rfc.sealed {w w5 : World} {p u bm n c : Nat} {A : Option Addr} {vp vr vq : Value} {vs : List Value} {S : OrcS} {a : List UInt8} (h : Rfc w p u bm A n c vp vr vs S) (hap : App w w5 (p + 1) vp vq (S.plain ++ a)) :
    Rfc (w5.setCell ⟨p, 4, none⟩ vq) p u bm A n c vq vr vs { S with plain := S.plain ++ a } ∧ Keeps (fun j => j = p ∨ vp.ownBlock = some j) w (w5.setCell ⟨p, 4, none⟩ vq) := by
  have o1 := h.o1
  have o2 := h.o2
  have hvp : ∀ j, vp.ownBlock = some j → p < j ∧ j < w.heap.size := fun j hj => by have := h.pl.lt j hj; omega
  have hvr : ∀ j, vr.ownBlock = some j → p < j ∧ j < w.heap.size := fun j hj => by have := h.row.row.lt j hj; omega
  have K : Keeps (fun j => j = p ∨ vp.ownBlock = some j) w (w5.setCell ⟨p, 4, none⟩ vq) := (hap.keeps.mono (fun _ _ e => .inr e)).setCell (p := ⟨p, 4, none⟩) (.inl (.inl rfl)) vq
  refine ⟨⟨?_, h.pb.keeps K (fun e => e.elim (fun e => by omega) (fun e => by have := hvp u e; omega)), h.rb.keeps K (fun hn a1 ha e => by have := h.al hn a1 ha; exact e.elim (fun e => by omega) (fun e => by have := hvp _ e; omega)), h.al, h.mp.keeps K (fun e => e.elim (fun e => by omega) (fun e => by have := hvp bm e; omega)), ?_, h.kl, h.pll, ?_, ?_, ?_, o1, o2, h.l1, h.l2, h.nn⟩, K⟩
  · have e1 := h.blk.keeps hap.keeps (fun e => by have := hvp p e; omega)
    exact e1.set 4 vq
  · refine ⟨h.row.row.kept K (fun j hj e => e.elim (fun e => by have := hvr j hj; omega) (fun e => h.ap j hj e)), h.row.len, fun i x l e1 e2 => ?_⟩
    obtain ⟨a1, a2⟩ := h.row.each i x l e1 e2
    exact ⟨OB.kept a1 K (fun j hj e => e.elim (fun e => by have := (a1.lt j hj).1; omega) (fun e => h.ap2 x (List.mem_of_getElem? e1) j hj e)), a2⟩
  · exact OB.kept hap.own (S := fun k => k = p) ((Keeps.refl (fun k => k = p) _).setCell (.inl rfl) vq) (fun j hj e => by have := (hap.own.lt j hj).1; omega)
  · intro j hj e
    rcases hap.at_ with e2 | e2
    · exact h.ap j hj (e2 ▸ e)
    · rw [e2] at e; injection e with e; have := hvr j hj; omega
  · intro x hx j hj e
    rcases hap.at_ with e2 | e2
    · exact h.ap2 x hx j hj (e2 ▸ e)
    · rw [e2] at e; injection e with e; have := (h.vlt x hx j hj).2.1; omega
end Go.Proofs.Ytniendffanemcaa
/- The document's oracle: Seal, walked. -/
namespace Go.Proofs.Ytniendffanemcaa
open Go.ChangeShapes Go.WideShapes Go.ChangeAt Go.RowKit
open Go.ChangeMaps (open_string shut_string)
set_option linter.unusedVariables false
set_option linter.unusedSimpArgs false
set_option maxRecDepth 100000

theorem rf_padl {w : World} {p u bm n c : Nat} {A : Option Addr} {vp vr : Value} {vs : List Value} {S : OrcS} (h : Rfc w p u bm A n c vp vr vs S) (k : Int × Int) : (padOf S k).length = S.L := by
  unfold padOf
  cases hf : fndK k S.ks 0 with
  | none => exact drawL_len _ _ _
  | some j =>
    have hj := fndK_ge _ _ _ _ hf
    obtain ⟨l, hl⟩ : ∃ l, S.ps[j]? = some l := ⟨_, List.getElem?_eq_getElem (by have := h.kl; omega)⟩
    simp only [hl, Option.getD_some]
    exact h.pll l (List.mem_of_getElem? hl)
set_option maxHeartbeats 16000000 in
theorem rf_seal (w : World) (p u bm : Nat) (A : Option Addr) (n c : Nat) (vp vr : Value) (vs : List Value) (S : OrcS) (g k : Int) (A1 : Option Addr) (n1 c1 : Nat) (a : List UInt8) (h : Rfc w p u bm A n c vp vr vs S) (ha : RB w A1 n1 c1 a) (hE : sealE S g k a = 0) (hd : S.d ≤ 1000000000000) (hpl : S.plain.length ≤ 1000000000) (hkl : S.ks.length ≤ 1000)
    (hna : 0 < n1 → ∀ a1, A1 = some a1 → ¬ (a1.block = p ∨ a1.block = u ∨ a1.block = bm ∨ vp.ownBlock = some a1.block ∨ vr.ownBlock = some a1.block)) :
    Calls Try.prog 24 #[.pointer (some ⟨p, 0, none⟩), .agg #[.int .i64 g, .int .i64 k], .slice A1 n1 c1] w fun e w' => ∃ v vp' vr' vs', e = .returned (.tuple #[v, .int .i64 0]) ∧ OB w' w.heap.size v (nonceB g k ++ xor2 a (padOf S (g, k))) ∧ Rfc w' p u bm A n c vp' vr' vs' (sealS S g k a) ∧ Keeps (fun j => j = p ∨ j = u ∨ j = bm ∨ vp.ownBlock = some j ∨ vr.ownBlock = some j) w w' ∧ (∀ j, vp'.ownBlock = some j → vp.ownBlock = some j ∨ w.heap.size ≤ j) ∧ (∀ j, vr'.ownBlock = some j → vr.ownBlock = some j ∨ w.heap.size ≤ j) ∧ (∀ x ∈ vs', x ∈ vs ∨ ∀ j, x.ownBlock = some j → w.heap.size ≤ j) ∧ (∀ j, v.ownBlock = some j → vp'.ownBlock ≠ some j ∧ vr'.ownBlock ≠ some j ∧ ∀ x ∈ vs', x.ownBlock ≠ some j) := by
  have bb : Below w.heap.size w (w.alloc (.cells #[.int .i64 g, .int .i64 k] 67)) := (by repeat (first | exact Below.refl _ _ | assumption | apply below_drewN' | apply Below.drew | refine Below.alloc ?_ (by first | omega | (simp; done) | (simp; omega)) _ | refine Below.setCell ?_ (by first | omega | (simp; done) | (simp; omega)) _))
  have hX := Blk.new w #[.int .i64 g, .int .i64 k] 67
  have hO := h.below bb
  have l1 := h.l1
  have l2 := h.l2
  have hu := h.o1
  have hbm := h.o2
  have hpw := h.lt
  unfold sealE at hE
  have hM : (amongB g && amongB k) = true := by
    cases hm : (amongB g && amongB k) with
    | true => rfl
    | false => rw [if_pos (.inl hm)] at hE; cases hE
  have h0 : g ≠ 0 := fun e => by rw [if_pos (.inr e)] at hE; cases hE
  rw [if_neg (by rw [hM]; simp [h0])] at hE
  have hL : a.length = S.L := by
    by_cases e : a.length = S.L
    · exact e
    · rw [if_pos e] at hE; cases hE
  rw [if_neg (by simpa using hL)] at hE
  have hK0 : (fndK (g, k) S.ks 0).isSome = false := by
    cases e : (fndK (g, k) S.ks 0).isSome with
    | false => rfl
    | true => rw [if_pos e] at hE; cases hE
  have hn1 : n1 = S.L := by rw [← ha.len]; exact hL
  have h02 : (g == 0) = false := by rw [beq_eq_false_iff_ne]; exact h0
  have hL2 : ((n1 : Int) != (S.L : Int)) = false := by rw [bne_eq_false_iff_eq]; omega
  have HM := Lib.hid (fun w => ref_may_is g k true w hM)
  have HK := Lib.hid (fun w h => rf_known w p u bm A n c vp vr vs S g k false h hK0)
  have HN := Lib.hid (fun w => ref_nonce_bytes g k w)
  have hNl := Lib.hid (nonceB_length g k)
  generalize nonceB g k = N at *
  have hpe : padOf { S with plain := S.plain ++ a } (g, k) = padOf S (g, k) := rfl
  have hres : padS { S with plain := S.plain ++ a } (g, k) = sealS S g k a := rfl
  have HP := Lib.hid (fun vq w h => rf_pad w p u bm A n c vq vr vs { S with plain := S.plain ++ a } g k h hd hkl)
  have hPl := rf_padl h (g, k)
  rw [hpe, hres] at HP
  clear hpe hres
  generalize padOf S (g, k) = T at *
  generalize sealS S g k a = S2 at *
  clear hM hK0 hE h0
  replace hn1 := Lib.hid hn1
  go_enter Try.func24, Try.ntmps24
  go_wp2_with fail
  refine (HM.out _).mono ?_
  rintro e w2 ⟨rfl, e3⟩
  have hX2 := hX.below e3 hX.lt
  have hO2 := hO.below e3
  have b2 := Below.next bb e3 (Nat.le_refl _)
  have x0 := hX2.cell 0 (v := .int .i64 g) rfl
  have x1 := hX2.cell 1 (v := .int .i64 k) rfl
  have y1 := hO2.blk.cell 1 (v := .int .i64 S.L) rfl
  clear e3 hX hO bb
  go_wp2_with fail
  refine (HK.out _ hO2).mono ?_
  rintro e w4 ⟨rfl, e3⟩
  have hX4 := hX2.below e3 hX2.lt
  have hO4 := hO2.below e3
  have b4 := Below.next b2 e3 (Nat.le_refl _)
  have y3 := hO4.blk.cell 4 (v := vp) rfl
  clear e3 hX2 hO2 x0 x1 y1 b2
  have hp4 := hO4.lt
  have hx4 := hX4.lt
  have hal : a.length = n1 := by rw [hn1.out]; exact hL
  go_wp2_with (first
    | (refine wpList_app rfl (.tmp 33) (.tmp 34) rfl (p + 1) vp S.plain a A1 n1 c1 rfl rfl hO4.pl (ha.below b4) (by have := hn1.out; omega) (by omega) ?_
       intro v5 w5 hap
       obtain ⟨A5, c5, rfl, _⟩ := OB.sl hap.own (S.plain.length + n1) (by rw [List.length_append, hal])
       have y5b := hO4.blk.keeps hap.keeps (fun e => by have := (hO4.pl.lt p e).1; omega)
       have y5 := y5b.fz 4
       have y6 := y5b.cell 4 (v := vp) rfl)
    | fail)
  obtain ⟨hO6, hk6⟩ := hO4.sealed hap
  have hownp : ∀ j, vp.ownBlock = some j → p < j ∧ j < w.heap.size := fun j e => by have := h.pl.lt j e; omega
  have hownr : ∀ j, vr.ownBlock = some j → p < j ∧ j < w.heap.size := fun j e => by have := h.row.row.lt j e; omega
  have hX6 := hX4.keeps hk6 (fun e => e.elim (fun e => by omega) (fun e => by have := (hownp _ e).2; omega))
  have hk06 : Keeps (fun j => j = p ∨ j = u ∨ j = bm ∨ vp.ownBlock = some j ∨ vr.ownBlock = some j) w (w5.setCell ⟨p, 4, none⟩ (.slice A5 (S.plain.length + n1) c5)) := (Keeps.of_below b4).trans hk6 (fun j e => .inl (e.elim .inl (fun e => .inr (.inr (.inr (.inl e))))))
  have ha6 := ha.keeps hk06 (fun hn a1 e => hna hn a1 e)
  have hvq : ∀ j, (Value.slice A5 (S.plain.length + n1) c5).ownBlock = some j → vp.ownBlock = some j ∨ w.heap.size ≤ j := fun j hj => by
    rcases hap.at_ with e | e
    · left; rw [← e]; exact hj
    · right; rw [e] at hj; injection hj with hj; have := b4.size; omega
  obtain ⟨W6, hW6⟩ : ∃ W, w5.setCell ⟨p, 4, none⟩ (.slice A5 (S.plain.length + n1) c5) = W := ⟨_, rfl⟩
  rw [hW6] at hO6 hk6 hX6 hk06 ha6 ⊢
  have hs6 := hk06.size
  have hp6 := hO6.lt
  have HX := Lib.hid (fun B5 c5 w h h2 => ref_xor A1 n1 c1 a B5 S.L c5 T w h h2 (by have := hn1.out; omega))
  have hv5 : ∀ j, (Value.slice A5 (S.plain.length + n1) c5).ownBlock = some j → p < j ∧ j < W6.heap.size := fun j e => by have := hO6.pl.lt j e; omega
  have hTl := Lib.hid hPl
  have hXl := Lib.hid (show (xor2 a T).length = S.L from by rw [xor2_len]; exact hL)
  clear y5 y6 y5b y3 hap hW6 hPl
  generalize ({ S with plain := S.plain ++ a } : OrcS) = S1 at *
  generalize (Value.slice A5 (S.plain.length + n1) c5) = vq at *
  have hR : ∀ {w w' : World}, Below w.heap.size w w' → RStep W6.heap.size p u bm A n c vq w w' := fun h => RStep.of_below h
  have hkA : ∀ {w' : World}, Keeps (fun j => j = p ∨ j = u ∨ j = bm ∨ vr.ownBlock = some j) W6 w' → RB w' A1 n1 c1 a := fun hk => ha6.keeps hk (fun hn a1 e hh => hna hn a1 e (by
    rcases hh with e | e | e | e
    · exact .inl e
    · exact .inr (.inl e)
    · exact .inr (.inr (.inl e))
    · exact .inr (.inr (.inr (.inr e)))))
  have hvo := Free.val
  refine Free.wp_factsR (R := (fun w w' => RStep W6.heap.size p u bm A n c vq w w')) (ss := [5]) (pures := [0, 2, 3, 4, 9]) (M := [0, 1, 0, 0, 0, 27, 63, 127, 255, 511]) (D := [[], [(0, 38)], [], [], [], [(3, 41), (4, 42)], [(2, 40), (5, 43)], [(1, 39), (6, 44)], [(7, 45)], []]) (outs := [8, 9]) (soles := [7]) (E := [(0, 38, false), (1, 39, false), (2, 40, false), (3, 41, false), (4, 42, false), (5, 43, false), (6, 44, false), (7, 45, false), (8, 6, true), (9, 7, true)]) (N := 46) (S := (fun (st : Nat) w' => Keeps (fun j => j = p ∨ j = u ∨ j = bm ∨ vr.ownBlock = some j) W6 w' ∧ (st = 0 → Rfc w' p u bm A n c vq vr vs S1) ∧ (st = 1 → ∃ vr' vs', Rfc w' p u bm A n c vq vr' vs' S2 ∧ (∀ j, vr'.ownBlock = some j → vr.ownBlock = some j ∨ W6.heap.size ≤ j) ∧ (∀ x ∈ vs', x ∈ vs ∨ ∀ j, x.ownBlock = some j → W6.heap.size ≤ j)))) [Free.FactR.is ?_, Free.FactR.apartR W6.heap.size p u bm A n c vq N, Free.FactR.is ?_, Free.FactR.is ?_, Free.FactR.is ?_, Free.FactR.ownR W6.heap.size p u bm A n c vq T, Free.FactR.ownR W6.heap.size p u bm A n c vq (xor2 a T), Free.FactR.apartR W6.heap.size p u bm A n c vq (N ++ xor2 a T), Free.FactR.apartR W6.heap.size p u bm A n c vq (N ++ xor2 a T), Free.FactR.is ?_] (by kernel_rfl) (by kernel_rfl) (by kernel_rfl) rfl rfl (by decide) (⟨(Keeps.refl _ _).drew, fun _ => hO6.below (Below.refl _ _).drew, fun e => absurd e (by decide)⟩) ?_ ?_
  rotate_left 5
  refine Free.cons ?_ ?_
  · intro st hag; (obtain rfl : st = 0 := Nat.le_antisymm hag.2 hag.1); intro w' hS; intro K hK; have hFx : ¬ (w.heap.size = p ∨ w.heap.size = u ∨ w.heap.size = bm ∨ vr.ownBlock = some w.heap.size) := fun e => e.elim (fun e => by omega) (fun e => e.elim (fun e => by omega) (fun e => e.elim (fun e => by omega) (fun e => by have := hownr _ e; omega))); have k0 := (hX6.keeps hS.1 hFx).cell 0 (v := .int .i64 g) rfl; have k1 := (hX6.keeps hS.1 hFx).cell 1 (v := .int .i64 k) rfl; clear hFx; first | (refine Free.run_yes (by rfl) ?_; go_simp; refine Free.oR hK (hR (Below.refl _ _)) hS ?_; exact rfl) | (refine Free.run_no (by rfl) (Free.oR hK (hR (Below.refl _ _)) hS ?_); exact rfl)
  refine Free.cons ?_ ?_
  · intro st hag; (obtain rfl : st = 0 := Nat.le_antisymm hag.2 hag.1); intro w' hS; (rintro _ rfl); intro K hK; have hFx : ¬ (w.heap.size = p ∨ w.heap.size = u ∨ w.heap.size = bm ∨ vr.ownBlock = some w.heap.size) := fun e => e.elim (fun e => by omega) (fun e => e.elim (fun e => by omega) (fun e => e.elim (fun e => by omega) (fun e => by have := hownr _ e; omega))); have k0 := (hX6.keeps hS.1 hFx).cell 0 (v := .int .i64 g) rfl; have k1 := (hX6.keeps hS.1 hFx).cell 1 (v := .int .i64 k) rfl; clear hFx; refine Free.run_yes (by rfl) ?_; (go_simp; go_at_call 38; refine (HN.out _).mono ?_; rintro e w5 ⟨v1, rfl, ho, hb⟩; simp only [Free.valOf, Act.put, List.setIfInBounds_toArray, List.set_cons_zero, List.set_cons_succ, Array.getD_eq_getD_getElem?, List.getElem?_toArray, List.getElem?_cons_succ, List.getElem?_cons_zero, Option.getD_some]; have hs1 := hS.1.size; refine hK.out _ _ ⟨ho.mono (fun j hj => by have := (ho.lt j hj).1; omega), ?_⟩ ⟨hS.1.then_below hb, fun e => (hS.2.1 e).below hb, fun e => (let ⟨u1, u2, hu, hu2⟩ := hS.2.2 e; ⟨u1, u2, hu.below hb, hu2⟩)⟩ (.inr (hR hb)); exact ⟨vr, vs, S1, (hS.2.1 rfl).below hb, fun j hj => ⟨fun e => by have := (ho.lt j hj).1; have := (hS.2.1 rfl).row.row.lt j e; omega, fun x hx e => by have := (ho.lt j hj).1; have := ((hS.2.1 rfl).vlt x hx j e).2.1; omega⟩⟩)
  refine Free.cons ?_ ?_
  · intro st hag w' hS; intro K hK; have hFx : ¬ (w.heap.size = p ∨ w.heap.size = u ∨ w.heap.size = bm ∨ vr.ownBlock = some w.heap.size) := fun e => e.elim (fun e => by omega) (fun e => e.elim (fun e => by omega) (fun e => e.elim (fun e => by omega) (fun e => by have := hownr _ e; omega))); have k0 := (hX6.keeps hS.1 hFx).cell 0 (v := .int .i64 g) rfl; have k1 := (hX6.keeps hS.1 hFx).cell 1 (v := .int .i64 k) rfl; clear hFx; first | (refine Free.run_yes (by rfl) ?_; go_simp; refine Free.oR hK (hR (Below.refl _ _)) hS ?_; exact rfl) | (refine Free.run_no (by rfl) (Free.oR hK (hR (Below.refl _ _)) hS ?_); exact rfl)
  refine Free.cons ?_ ?_
  · intro st hag; (obtain rfl : st = 0 := Nat.le_antisymm hag.2 hag.1); intro w' hS; intro K hK; have hFx : ¬ (w.heap.size = p ∨ w.heap.size = u ∨ w.heap.size = bm ∨ vr.ownBlock = some w.heap.size) := fun e => e.elim (fun e => by omega) (fun e => e.elim (fun e => by omega) (fun e => e.elim (fun e => by omega) (fun e => by have := hownr _ e; omega))); have k0 := (hX6.keeps hS.1 hFx).cell 0 (v := .int .i64 g) rfl; have k1 := (hX6.keeps hS.1 hFx).cell 1 (v := .int .i64 k) rfl; clear hFx; first | (refine Free.run_yes (by rfl) ?_; go_simp; refine Free.oR hK (hR (Below.refl _ _)) hS ?_; exact rfl) | (refine Free.run_no (by rfl) (Free.oR hK (hR (Below.refl _ _)) hS ?_); exact rfl)
  refine Free.cons ?_ ?_
  · intro st hag; (obtain rfl : st = 0 := Nat.le_antisymm hag.2 hag.1); intro w' hS; intro K hK; have hFx : ¬ (w.heap.size = p ∨ w.heap.size = u ∨ w.heap.size = bm ∨ vr.ownBlock = some w.heap.size) := fun e => e.elim (fun e => by omega) (fun e => e.elim (fun e => by omega) (fun e => e.elim (fun e => by omega) (fun e => by have := hownr _ e; omega))); have k0 := (hX6.keeps hS.1 hFx).cell 0 (v := .int .i64 g) rfl; have k1 := (hX6.keeps hS.1 hFx).cell 1 (v := .int .i64 k) rfl; clear hFx; first | (refine Free.run_yes (by rfl) ?_; go_simp; refine Free.oR hK (hR (Below.refl _ _)) hS ?_; exact rfl) | (refine Free.run_no (by rfl) (Free.oR hK (hR (Below.refl _ _)) hS ?_); exact rfl)
  refine Free.cons ?_ ?_
  · intro st hag; (obtain rfl : st = 0 := Nat.le_antisymm hag.2 hag.1); intro w' hS; (rintro _ rfl); (rintro _ rfl); intro K hK; have hFx : ¬ (w.heap.size = p ∨ w.heap.size = u ∨ w.heap.size = bm ∨ vr.ownBlock = some w.heap.size) := fun e => e.elim (fun e => by omega) (fun e => e.elim (fun e => by omega) (fun e => e.elim (fun e => by omega) (fun e => by have := hownr _ e; omega))); have k0 := (hX6.keeps hS.1 hFx).cell 0 (v := .int .i64 g) rfl; have k1 := (hX6.keeps hS.1 hFx).cell 1 (v := .int .i64 k) rfl; clear hFx; refine Free.run_yes (by rfl) ?_; (go_simp; go_at_call 27; refine (HP.out _ _ (hS.2.1 rfl)).mono ?_; rintro e w5 ⟨v1, vr', vs', rfl, ho, hO', hk', hv', hx', -⟩; simp only [Free.valOf, Act.put, List.setIfInBounds_toArray, List.set_cons_zero, List.set_cons_succ, Array.getD_eq_getD_getElem?, List.getElem?_toArray, List.getElem?_cons_succ, List.getElem?_cons_zero, Option.getD_some]; have hs1 := hS.1.size; refine hK.out _ _ (ho.mono (fun j hj => by have := (ho.lt j hj).1; omega)) ⟨hS.1.trans hk' (fun _ e => .inl e), fun e => absurd e (by decide), fun _ => ⟨vr', vs', hO', fun j hj => (hv' j hj).imp id (fun e => by omega), fun x hx => (hx' x hx).imp id (fun e j hj => by have := e j hj; omega)⟩⟩ (.inr ⟨hk'.mono (fun j _ e => e.elim (fun e => by omega) (fun e => e.elim (fun e => by omega) (fun e => e.elim (fun e => by omega) (fun e => by have := hownr _ e; omega)))), fun vr0 vs0 S0 h1 => ⟨vr', vs', S2, hO', fun j hj => by rw [(h1.uniq (hS.2.1 rfl)).1]; exact hv' j hj, fun x hx => by rw [(h1.uniq (hS.2.1 rfl)).2]; exact hx' x hx⟩⟩))
  refine Free.cons ?_ ?_
  · intro st hag; (obtain rfl : st = 1 := Nat.le_antisymm hag.2 hag.1); intro w' hS; (rintro _ rfl); (intro v5 h5); intro K hK; have hFx : ¬ (w.heap.size = p ∨ w.heap.size = u ∨ w.heap.size = bm ∨ vr.ownBlock = some w.heap.size) := fun e => e.elim (fun e => by omega) (fun e => e.elim (fun e => by omega) (fun e => e.elim (fun e => by omega) (fun e => by have := hownr _ e; omega))); have k0 := (hX6.keeps hS.1 hFx).cell 0 (v := .int .i64 g) rfl; have k1 := (hX6.keeps hS.1 hFx).cell 1 (v := .int .i64 k) rfl; clear hFx; refine Free.run_yes (by rfl) ?_; (obtain ⟨A6, c6, rfl, hr6⟩ := OB.sl h5 S.L hTl.out; go_simp; go_at_call 11; refine (HX.out _ _ _ (hkA hS.1) hr6).mono ?_; rintro e w5 ⟨v1, rfl, ho, hb⟩; simp only [Free.valOf, Act.put, List.setIfInBounds_toArray, List.set_cons_zero, List.set_cons_succ, Array.getD_eq_getD_getElem?, List.getElem?_toArray, List.getElem?_cons_succ, List.getElem?_cons_zero, Option.getD_some]; have hs1 := hS.1.size; refine hK.out _ _ (OB.mono ho (fun j hj => by have := (ho.lt j hj).1; omega)) ⟨hS.1.then_below hb, fun e => (hS.2.1 e).below hb, fun e => (let ⟨u1, u2, hu, hu2⟩ := hS.2.2 e; ⟨u1, u2, hu.below hb, hu2⟩)⟩ (.inr (hR hb)))
  refine Free.cons ?_ ?_
  · intro st hag; (obtain rfl : st = 1 := Nat.le_antisymm hag.2 hag.1); intro w' hS; (intro v1 h1); (intro v6 h6); intro K hK; have hFx : ¬ (w.heap.size = p ∨ w.heap.size = u ∨ w.heap.size = bm ∨ vr.ownBlock = some w.heap.size) := fun e => e.elim (fun e => by omega) (fun e => e.elim (fun e => by omega) (fun e => e.elim (fun e => by omega) (fun e => by have := hownr _ e; omega))); have k0 := (hX6.keeps hS.1 hFx).cell 0 (v := .int .i64 g) rfl; have k1 := (hX6.keeps hS.1 hFx).cell 1 (v := .int .i64 k) rfl; clear hFx; refine Free.run_yes (by rfl) ?_; (obtain ⟨A7, c7, rfl, hr7⟩ := OB.sl h6 S.L hXl.out; have hs1 := hS.1.size; refine wp_app (.tmp 39) (.tmp 44) rfl W6.heap.size v1 N (xor2 a T) A7 S.L c7 (by rfl) (by rfl) h1.1 hr7 (by have := hNl.out; omega) hs1 ?_; intro v8 w8 ha8; refine ⟨rfl, ?_⟩; simp only [Free.valOf, Act.put, List.setIfInBounds_toArray, List.set_cons_zero, List.set_cons_succ, Array.getD_eq_getD_getElem?, List.getElem?_toArray, List.getElem?_cons_succ, List.getElem?_cons_zero, Option.getD_some]; obtain ⟨vr', vs', hO', hv', hx'⟩ := hS.2.2 rfl; obtain ⟨vr0, vs0, S0, hR0, hap0⟩ := h1.2; obtain ⟨q1, q2⟩ := hR0.uniq hO'; subst q1 q2; have hO8 := hO'.keeps ha8.keeps (fun e => by have := (h1.1.lt p e).1; omega) (fun e => by have := (h1.1.lt u e).1; omega) (fun e => by have := (h1.1.lt bm e).1; omega) (fun hn a1 e1 e => by have := (h1.1.lt _ e).1; have := hO'.al hn a1 e1; omega) (fun j hj e => by have := (h1.1.lt j e).1; have := (hv5 j hj).2; omega) (fun j hj e => (hap0 j e).1 hj) (fun x hx j hj e => (hap0 j e).2 x hx hj); refine hK.out _ _ ⟨ha8.own, _, _, S2, hO8, fun j hj => by rcases ha8.at_ with e | e; exact hap0 j (e ▸ hj); rw [e] at hj; injection hj with hj; exact ⟨fun e => by have := (hO'.row.row.lt j e).2; omega, fun x hx e => by have := (hO'.vlt x hx j e).2.1; omega⟩⟩ ⟨hS.1.trans ha8.keeps (fun j e => .inr (h1.1.lt j e).1), fun e => absurd e (by decide), fun _ => ⟨_, _, hO8, hv', hx'⟩⟩ (.inl rfl))
  refine Free.cons ?_ ?_
  · intro st hag; (obtain rfl : st = 1 := Nat.le_antisymm hag.2 hag.1); intro w' hS; (intro v7 h7); intro K hK; have hFx : ¬ (w.heap.size = p ∨ w.heap.size = u ∨ w.heap.size = bm ∨ vr.ownBlock = some w.heap.size) := fun e => e.elim (fun e => by omega) (fun e => e.elim (fun e => by omega) (fun e => e.elim (fun e => by omega) (fun e => by have := hownr _ e; omega))); have k0 := (hX6.keeps hS.1 hFx).cell 0 (v := .int .i64 g) rfl; have k1 := (hX6.keeps hS.1 hFx).cell 1 (v := .int .i64 k) rfl; clear hFx; first | (refine Free.run_yes (by rfl) ?_; go_simp; refine Free.oR hK (hR (Below.refl _ _)) hS ?_; first | exact rfl | assumption) | (refine Free.run_no (by rfl) (Free.oR hK (hR (Below.refl _ _)) hS ?_); exact rfl)
  refine Free.cons ?_ ?_
  · intro st hag; (obtain rfl : st = 1 := Nat.le_antisymm hag.2 hag.1); intro w' hS; intro K hK; have hFx : ¬ (w.heap.size = p ∨ w.heap.size = u ∨ w.heap.size = bm ∨ vr.ownBlock = some w.heap.size) := fun e => e.elim (fun e => by omega) (fun e => e.elim (fun e => by omega) (fun e => e.elim (fun e => by omega) (fun e => by have := hownr _ e; omega))); have k0 := (hX6.keeps hS.1 hFx).cell 0 (v := .int .i64 g) rfl; have k1 := (hX6.keeps hS.1 hFx).cell 1 (v := .int .i64 k) rfl; clear hFx; first | (refine Free.run_yes (by rfl) ?_; go_simp; refine Free.oR hK (hR (Below.refl _ _)) hS ?_; exact rfl) | (refine Free.run_no (by rfl) (Free.oR hK (hR (Below.refl _ _)) hS ?_); exact rfl)
  exact Free.nil
  clear hvo
  intro w' hS; intro v0; intro v1; intro v2; intro v3; intro v4; intro v5; intro v6; intro v7; intro v8 h8; (rintro _ rfl); (try simp only [Act.put, List.setIfInBounds_toArray, List.set_cons_zero, List.set_cons_succ]); refine Free.toldE_nil ?_
  obtain ⟨hk9, -, hO9⟩ := hS
  obtain ⟨vr', vs', hO9, hv9, hx9⟩ := hO9 rfl
  obtain ⟨ho8, vr0, vs0, S0, hR0, hap0⟩ := h8
  obtain ⟨q1, q2⟩ := hR0.uniq hO9
  subst q1 q2
  go_wp2
  go_ret2
  exact ⟨v8, vq, _, _, rfl, OB.mono ho8 (fun j hj => by have := (OB.lt ho8 j hj).1; omega), hO9, hk06.trans hk9 (fun j e => .inl (e.elim .inl (fun e => e.elim (fun e => .inr (.inl e)) (fun e => e.elim (fun e => .inr (.inr (.inl e))) (fun e => .inr (.inr (.inr (.inr e)))))))), hvq, fun j hj => (hv9 j hj).imp id (fun e => by omega), fun x hx => (hx9 x hx).imp id (fun e j hj => by have := e j hj; omega), fun j hj => ⟨fun e => by have := (ho8.lt j hj).1; have := (hv5 j e).2; omega, (hap0 j hj).1, (hap0 j hj).2⟩⟩
end Go.Proofs.Ytniendffanemcaa
/- The oracle: Seal, with what is new told. -/
namespace Go.Proofs.Ytniendffanemcaa
open Go.ChangeShapes Go.WideShapes Go.ChangeAt Go.RowKit
open Go.ChangeMaps (open_string shut_string)
set_option linter.unusedVariables false
set_option linter.unusedSimpArgs false
set_option maxRecDepth 100000

set_option maxHeartbeats 8000000 in
theorem orc_seal2 (w : World) (p t bm : Nat) (A : Option Addr) (n c : Nat) (z : Int) (vp : Value) (vs : List Value) (S : OrcS) (g k : Int) (A1 : Option Addr) (n1 c1 : Nat) (a : List UInt8) (h : Orc w p t bm A n c z vp vs S) (ha : RB w A1 n1 c1 a) (hE : sealE S g k a = 0) (hd : S.d ≤ 1000000000000) (hpl : S.plain.length ≤ 1000000000)
    (hna : ∀ a1, A1 = some a1 → ¬ (a1.block = p ∨ a1.block = t ∨ a1.block = bm ∨ vp.ownBlock = some a1.block)) :
    Calls Try.prog 15 #[.pointer (some ⟨p, 0, none⟩), .agg #[.int .i64 g, .int .i64 k], .slice A1 n1 c1] w fun e w' => ∃ v vp' vs', e = .returned (.tuple #[v, .int .i64 0]) ∧ OB w' w.heap.size v (nonceB g k ++ xor2 a (padOf S (g, k))) ∧ Orc w' p t bm A n c z vp' vs' (sealS S g k a) ∧ Keeps (fun j => j = p ∨ j = t ∨ j = bm ∨ vp.ownBlock = some j) w w' ∧ (∀ j, vp'.ownBlock = some j → vp.ownBlock = some j ∨ w.heap.size ≤ j) ∧ (∀ x ∈ vs', x ∈ vs ∨ ∃ g1, x.ownBlock = some g1 ∧ w.heap.size ≤ g1) := by
  have bb : Below w.heap.size w (w.alloc (.cells #[.int .i64 g, .int .i64 k] 36)) := (by repeat (first | exact Below.refl _ _ | assumption | apply below_drewN' | apply Below.drew | refine Below.alloc ?_ (by first | omega | (simp; done) | (simp; omega)) _ | refine Below.setCell ?_ (by first | omega | (simp; done) | (simp; omega)) _))
  have hX := Blk.new w #[.int .i64 g, .int .i64 k] 36
  have hO := h.below bb
  have l1 := h.l1
  have l2 := h.l2
  have ht := h.o1
  have hbm := h.o2
  have hpw := h.lt
  unfold sealE at hE
  have hM : (amongB g && amongB k) = true := by
    cases hm : (amongB g && amongB k) with
    | true => rfl
    | false => rw [if_pos (.inl hm)] at hE; cases hE
  have h0 : g ≠ 0 := fun e => by rw [if_pos (.inr e)] at hE; cases hE
  rw [if_neg (by rw [hM]; simp [h0])] at hE
  have hL : a.length = S.L := by
    by_cases e : a.length = S.L
    · exact e
    · rw [if_pos e] at hE; cases hE
  rw [if_neg (by simpa using hL)] at hE
  have hK0 : (fndK (g, k) S.ks 0).isSome = false := by
    cases e : (fndK (g, k) S.ks 0).isSome with
    | false => rfl
    | true => rw [if_pos e] at hE; cases hE
  have hn1 : n1 = S.L := by rw [← ha.len]; exact hL
  have h02 : (g == 0) = false := by rw [beq_eq_false_iff_ne]; exact h0
  have hL2 : ((n1 : Int) != (S.L : Int)) = false := by rw [bne_eq_false_iff_eq]; omega
  have HM := Lib.hid (fun w => may_is g k true w hM)
  have HK := Lib.hid (fun w h => orc_known w p t bm A n c z vp vs S g k false h hK0)
  have HN := Lib.hid (fun w => nonce_bytes g k w)
  have hNl := Lib.hid (nonceB_length g k)
  generalize nonceB g k = N at *
  have hpe : padOf { S with plain := S.plain ++ a } (g, k) = padOf S (g, k) := rfl
  have hres : padS { S with plain := S.plain ++ a } (g, k) = sealS S g k a := rfl
  have HP := Lib.hid (fun vq w h => orc_pad w p t bm A n c z vq vs { S with plain := S.plain ++ a } g k h hd)
  have hPl : (padOf S (g, k)).length = S.L := by
    unfold padOf
    cases hf : fndK (g, k) S.ks 0 with
    | none => exact drawL_len _ _ _
    | some j =>
      have hj := fndK_ge _ _ _ _ hf
      obtain ⟨v, hv⟩ : ∃ v, vs[j]? = some v := ⟨_, List.getElem?_eq_getElem (by have := h.vl; have := h.kl; omega)⟩
      obtain ⟨l, hl⟩ : ∃ l, S.ps[j]? = some l := ⟨_, List.getElem?_eq_getElem (by have := h.kl; omega)⟩
      obtain ⟨_, _, _, hr, _⟩ := h.pads j v l hv hl
      simp only [hl, Option.getD_some]
      exact hr.len
  rw [hpe, hres] at HP
  clear hpe hres
  generalize padOf S (g, k) = T at *
  generalize sealS S g k a = S2 at *
  clear hM hK0 hE h0
  replace hn1 := Lib.hid hn1
  go_enter Try.func15, Try.ntmps15
  go_wp2_with fail
  refine (HM.out _).mono ?_
  rintro e w2 ⟨rfl, e3⟩
  have hX2 := hX.below e3 hX.lt
  have hO2 := hO.below e3
  have b2 := Below.next bb e3 (Nat.le_refl _)
  have x0 := hX2.cell 0 (v := .int .i64 g) rfl
  have x1 := hX2.cell 1 (v := .int .i64 k) rfl
  have y1 := hO2.blk.cell 1 (v := .int .i64 S.L) rfl
  clear e3 hX hO bb
  go_wp2_with fail
  refine (HK.out _ hO2).mono ?_
  rintro e w4 ⟨rfl, e3⟩
  have hX4 := hX2.below e3 hX2.lt
  have hO4 := hO2.below e3
  have b4 := Below.next b2 e3 (Nat.le_refl _)
  have y3 := hO4.blk.cell 3 (v := vp) rfl
  clear e3 hX2 hO2 x0 x1 y1 b2
  have hp4 := hO4.lt
  have hx4 := hX4.lt
  have hal : a.length = n1 := by rw [hn1.out]; exact hL
  go_wp2_with (first
    | (refine wpList_app rfl (.tmp 33) (.tmp 34) rfl (p + 1) vp S.plain a A1 n1 c1 rfl rfl hO4.pl (ha.below b4) (by have := hn1.out; omega) (by omega) ?_
       intro v5 w5 hap
       obtain ⟨A5, c5, rfl, _⟩ := OB.sl hap.own (S.plain.length + n1) (by rw [List.length_append, hal])
       have y5b := hO4.blk.keeps hap.keeps (fun e => by have := (hO4.pl.lt p e).1; omega)
       have y5 := y5b.fz 3
       have y6 := y5b.cell 3 (v := vp) rfl)
    | fail)
  obtain ⟨hO6, hk6⟩ := hO4.sealed (n1 := S.plain.length + n1) hap
  have hownp : ∀ j, vp.ownBlock = some j → p < j ∧ j < w.heap.size := fun j e => by have := h.pl.lt j e; omega
  have hX6 := hX4.keeps hk6 (fun e => e.elim (fun e => by omega) (fun e => by have := (hownp _ e).2; omega))
  have hk06 : Keeps (fun j => j = p ∨ j = t ∨ j = bm ∨ vp.ownBlock = some j) w (w5.setCell ⟨p, 3, none⟩ (.slice A5 (S.plain.length + n1) c5)) := (Keeps.of_below b4).trans hk6 (fun j e => .inl (e.elim .inl (fun e => .inr (.inr (.inr e)))))
  have ha6 := ha.keeps hk06 (fun _ a1 e => hna a1 e)
  have hvq : ∀ j, (Value.slice A5 (S.plain.length + n1) c5).ownBlock = some j → vp.ownBlock = some j ∨ w.heap.size ≤ j := fun j hj => by
    rcases hap.at_ with e | e
    · left; rw [← e]; exact hj
    · right; rw [e] at hj; injection hj with hj; have := b4.size; omega
  obtain ⟨W6, hW6⟩ : ∃ W, w5.setCell ⟨p, 3, none⟩ (.slice A5 (S.plain.length + n1) c5) = W := ⟨_, rfl⟩
  rw [hW6] at hO6 hk6 hX6 hk06 ha6 ⊢
  have hs6 := hk06.size
  have hp6 := hO6.lt
  have HX := Lib.hid (fun g6 w h h2 => seal_xor A1 n1 c1 a (some ⟨g6, 0, none⟩) 1 1 [T] w h h2 (by have := hn1.out; omega))
  have hbB : bm < W6.heap.size ∧ t < W6.heap.size := ⟨by omega, by omega⟩
  have hnx : ¬ (w.heap.size = t ∨ w.heap.size = bm) := by omega
  have hR : ∀ {w w' : World}, Below w.heap.size w w' → OStep t bm w w' := fun h => OStep.of_below h
  have hna2 : ∀ a1, A1 = some a1 → ¬ (a1.block = t ∨ a1.block = bm) := fun a1 e hh => hna a1 e (hh.elim (fun e => .inr (.inl e)) (fun e => .inr (.inr (.inl e))))
  have hv5 : ∀ j, (Value.slice A5 (S.plain.length + n1) c5).ownBlock = some j → p < j ∧ j < W6.heap.size := fun j e => by have := hO6.pl.lt j e; omega
  have hTl := Lib.hid hPl
  have hXl := Lib.hid (show (xor2 a T).length = S.L from by rw [xor2_len]; exact hL)
  clear y5 y6 y5b y3 hap hW6 hPl
  generalize ({ S with plain := S.plain ++ a } : OrcS) = S1 at *
  generalize (Value.slice A5 (S.plain.length + n1) c5) = vq at *
  have hvo := Free.val
  refine Free.wp_factsR (R := (fun w w' => OStep t bm w w')) (ss := [5]) (pures := [0, 2, 3, 4, 10]) (M := [0, 1, 0, 0, 0, 27, 59, 127, 255, 511, 1023]) (D := [[], [(0, 38)], [], [], [], [(3, 41), (4, 42)], [(5, 43)], [(2, 40), (6, 44)], [(1, 39), (7, 45)], [(8, 46)], []]) (outs := [9, 10]) (soles := [8]) (E := [(0, 38, false), (1, 39, false), (2, 40, false), (3, 41, false), (4, 42, false), (5, 43, false), (6, 44, false), (7, 45, false), (8, 46, false), (9, 6, true), (10, 7, true)]) (N := 47) (S := (fun (st : Nat) w' => Keeps (fun j => j = t ∨ j = bm) W6 w' ∧ (st = 0 → Orc w' p t bm A n c z vq vs S1) ∧ (st = 1 → ∃ vs', Orc w' p t bm A n c z vq vs' S2 ∧ ∀ x ∈ vs', x ∈ vs ∨ ∃ g1, x.ownBlock = some g1 ∧ W6.heap.size ≤ g1) ∧ ∃ ks' vs', MapV w' bm ks' vs' ∧ ∀ x ∈ vs', ∀ j, x.ownBlock = some j → j < w'.heap.size)) [Free.FactR.is ?_, Free.FactR.apart t bm W6.heap.size N hbB, Free.FactR.is ?_, Free.FactR.is ?_, Free.FactR.is ?_, Free.FactR.ownS t bm W6.heap.size T hbB, Free.FactR.rowS t bm W6.heap.size T 22 hbB, Free.FactR.ownS t bm W6.heap.size (xor2 a T) hbB, Free.FactR.ownS t bm W6.heap.size (N ++ xor2 a T) hbB, Free.FactR.ownS t bm W6.heap.size (N ++ xor2 a T) hbB, Free.FactR.is ?_] (by kernel_rfl) (by kernel_rfl) (by kernel_rfl) rfl rfl (by decide) (⟨(Keeps.refl _ _).drew, fun _ => hO6.below (Below.refl _ _).drew, fun e => absurd e (by decide), _, _, hO6.mp.below (Below.refl _ _).drew, fun x hx j hj => (hO6.vlt x hx j hj).2.1⟩) ?_ ?_
  rotate_left 5
  refine Free.cons ?_ ?_
  · intro st hag; (obtain rfl : st = 0 := Nat.le_antisymm hag.2 hag.1); intro w' hS; intro K hK; have k0 := (hX6.keeps hS.1 hnx).cell 0 (v := .int .i64 g) rfl; have k1 := (hX6.keeps hS.1 hnx).cell 1 (v := .int .i64 k) rfl; first | (refine Free.run_yes (by rfl) ?_; go_simp; refine Free.oR hK (hR (Below.refl _ _)) hS ?_; exact rfl) | (refine Free.run_no (by rfl) (Free.oR hK (hR (Below.refl _ _)) hS ?_); exact rfl)
  refine Free.cons ?_ ?_
  · intro st hag; (obtain rfl : st = 0 := Nat.le_antisymm hag.2 hag.1); intro w' hS; (rintro _ rfl); intro K hK; have k0 := (hX6.keeps hS.1 hnx).cell 0 (v := .int .i64 g) rfl; have k1 := (hX6.keeps hS.1 hnx).cell 1 (v := .int .i64 k) rfl; refine Free.run_yes (by rfl) ?_; (go_simp; go_at_call 20; refine (HN.out _).mono ?_; rintro e w5 ⟨v1, rfl, ho, hb⟩; simp only [Free.valOf, Act.put, List.setIfInBounds_toArray, List.set_cons_zero, List.set_cons_succ, Array.getD_eq_getD_getElem?, List.getElem?_toArray, List.getElem?_cons_succ, List.getElem?_cons_zero, Option.getD_some]; have hs1 := hS.1.size; obtain ⟨ks', vs', hM', hx'⟩ := hS.2.2.2; refine hK.out _ _ ⟨ho.mono (fun j hj => by have := (ho.lt j hj).1; omega), ks', vs', hM'.below hb, fun x hx j hj e => by have := hx' x hx j hj; have := (ho.lt j e).1; omega⟩ ⟨hS.1.then_below hb, fun e => (hS.2.1 e).below hb, fun e => (let ⟨u, hu, hu2⟩ := hS.2.2.1 e; ⟨u, hu.below hb, hu2⟩), ks', vs', hM'.below hb, fun x hx j hj => Nat.lt_of_lt_of_le (hx' x hx j hj) hb.size⟩ (.inr (OStep.of_below hb)))
  refine Free.cons ?_ ?_
  · intro st hag w' hS; intro K hK; have k0 := (hX6.keeps hS.1 hnx).cell 0 (v := .int .i64 g) rfl; have k1 := (hX6.keeps hS.1 hnx).cell 1 (v := .int .i64 k) rfl; first | (refine Free.run_yes (by rfl) ?_; go_simp; refine Free.oR hK (hR (Below.refl _ _)) hS ?_; exact rfl) | (refine Free.run_no (by rfl) (Free.oR hK (hR (Below.refl _ _)) hS ?_); exact rfl)
  refine Free.cons ?_ ?_
  · intro st hag; (obtain rfl : st = 0 := Nat.le_antisymm hag.2 hag.1); intro w' hS; intro K hK; have k0 := (hX6.keeps hS.1 hnx).cell 0 (v := .int .i64 g) rfl; have k1 := (hX6.keeps hS.1 hnx).cell 1 (v := .int .i64 k) rfl; first | (refine Free.run_yes (by rfl) ?_; go_simp; refine Free.oR hK (hR (Below.refl _ _)) hS ?_; exact rfl) | (refine Free.run_no (by rfl) (Free.oR hK (hR (Below.refl _ _)) hS ?_); exact rfl)
  refine Free.cons ?_ ?_
  · intro st hag; (obtain rfl : st = 0 := Nat.le_antisymm hag.2 hag.1); intro w' hS; intro K hK; have k0 := (hX6.keeps hS.1 hnx).cell 0 (v := .int .i64 g) rfl; have k1 := (hX6.keeps hS.1 hnx).cell 1 (v := .int .i64 k) rfl; first | (refine Free.run_yes (by rfl) ?_; go_simp; refine Free.oR hK (hR (Below.refl _ _)) hS ?_; exact rfl) | (refine Free.run_no (by rfl) (Free.oR hK (hR (Below.refl _ _)) hS ?_); exact rfl)
  refine Free.cons ?_ ?_
  · intro st hag; (obtain rfl : st = 0 := Nat.le_antisymm hag.2 hag.1); intro w' hS; (rintro _ rfl); (rintro _ rfl); intro K hK; have k0 := (hX6.keeps hS.1 hnx).cell 0 (v := .int .i64 g) rfl; have k1 := (hX6.keeps hS.1 hnx).cell 1 (v := .int .i64 k) rfl; refine Free.run_yes (by rfl) ?_; (go_simp; go_at_call 18; refine (HP.out _ _ (hS.2.1 rfl)).mono ?_; rintro e w5 ⟨v1, vs', rfl, ho, hO', hk', hx', -⟩; simp only [Free.valOf, Act.put, List.setIfInBounds_toArray, List.set_cons_zero, List.set_cons_succ, Array.getD_eq_getD_getElem?, List.getElem?_toArray, List.getElem?_cons_succ, List.getElem?_cons_zero, Option.getD_some]; have hs1 := hS.1.size; refine hK.out _ _ (ho.mono (fun j hj => by have := (ho.lt j hj).1; omega)) ⟨hS.1.trans hk' (fun _ e => .inl e), fun e => absurd e (by decide), fun _ => ⟨vs', hO', fun x hx => (hx' x hx).imp id (fun ⟨g1, e1, e2⟩ => ⟨g1, e1, by omega⟩)⟩, _, vs', hO'.mp, fun x hx j hj => (hO'.vlt x hx j hj).2.1⟩ (.inr ⟨hk', fun ks0 vs0 h1 => ⟨_, vs', hO'.mp, fun x hx => by have e0 := h1.uniq (hS.2.1 rfl).mp; subst e0; exact hx' x hx⟩⟩))
  refine Free.cons ?_ ?_
  · intro st hag; (obtain rfl : st = 1 := Nat.le_antisymm hag.2 hag.1); intro w' hS; (intro v5 h5); intro K hK; have k0 := (hX6.keeps hS.1 hnx).cell 0 (v := .int .i64 g) rfl; have k1 := (hX6.keeps hS.1 hnx).cell 1 (v := .int .i64 k) rfl; refine Free.run_yes (by rfl) ?_; (obtain ⟨A6, c6, rfl, _⟩ := OB.sl h5 S.L hTl.out; have hb := (Below.refl w'.heap.size w').alloc (Nat.le_refl _) (.cells #[.slice A6 S.L c6] 22); obtain ⟨ks', vs', hM', hx'⟩ := hS.2.2.2; go_simp; refine hK.out _ _ ⟨_, A6, _, c6, rfl, hS.1.size, Blk.new _ _ _, OB.alloc h5 _⟩ ⟨hS.1.then_below hb, fun e => (hS.2.1 e).below hb, fun e => (let ⟨u, hu, hu2⟩ := hS.2.2.1 e; ⟨u, hu.below hb, hu2⟩), ks', vs', hM'.below hb, fun x hx j hj => Nat.lt_of_lt_of_le (hx' x hx j hj) hb.size⟩ (.inr (OStep.of_below hb)))
  refine Free.cons ?_ ?_
  · intro st hag; (obtain rfl : st = 1 := Nat.le_antisymm hag.2 hag.1); intro w' hS; (rintro _ rfl); (intro v6 h6); intro K hK; have k0 := (hX6.keeps hS.1 hnx).cell 0 (v := .int .i64 g) rfl; have k1 := (hX6.keeps hS.1 hnx).cell 1 (v := .int .i64 k) rfl; refine Free.run_yes (by rfl) ?_; (obtain ⟨g6, A6, n6, c6, rfl, hg6, hb6, ho6⟩ := h6; go_simp; go_at_call 9; refine (HX.out _ _ (ha6.keeps hS.1 (fun _ a1 e => hna2 a1 e)) (RBB.one hb6 (OB.reads ho6))).mono ?_; rintro e w5 ⟨v1, rfl, ho, hb⟩; simp only [Free.valOf, Act.put, List.setIfInBounds_toArray, List.set_cons_zero, List.set_cons_succ, Array.getD_eq_getD_getElem?, List.getElem?_toArray, List.getElem?_cons_succ, List.getElem?_cons_zero, Option.getD_some]; have hs1 := hS.1.size; obtain ⟨ks', vs', hM', hx'⟩ := hS.2.2.2; refine hK.out _ _ (OB.mono ho (fun j hj => by have := (ho.lt j hj).1; omega)) ⟨hS.1.then_below hb, fun e => (hS.2.1 e).below hb, fun e => (let ⟨u, hu, hu2⟩ := hS.2.2.1 e; ⟨u, hu.below hb, hu2⟩), ks', vs', hM'.below hb, fun x hx j hj => Nat.lt_of_lt_of_le (hx' x hx j hj) hb.size⟩ (.inr (OStep.of_below hb)))
  refine Free.cons ?_ ?_
  · intro st hag; (obtain rfl : st = 1 := Nat.le_antisymm hag.2 hag.1); intro w' hS; (intro v1 h1); (intro v7 h7); intro K hK; have k0 := (hX6.keeps hS.1 hnx).cell 0 (v := .int .i64 g) rfl; have k1 := (hX6.keeps hS.1 hnx).cell 1 (v := .int .i64 k) rfl; refine Free.run_yes (by rfl) ?_; (obtain ⟨A7, c7, rfl, hr7⟩ := OB.sl h7 S.L hXl.out; have hs1 := hS.1.size; refine wp_app (.tmp 39) (.tmp 45) rfl W6.heap.size v1 N (xor2 a T) A7 S.L c7 (by rfl) (by rfl) h1.1 hr7 (by have := hNl.out; omega) hs1 ?_; intro v8 w8 ha8; refine ⟨rfl, ?_⟩; simp only [Free.valOf, Act.put, List.setIfInBounds_toArray, List.set_cons_zero, List.set_cons_succ, Array.getD_eq_getD_getElem?, List.getElem?_toArray, List.getElem?_cons_succ, List.getElem?_cons_zero, Option.getD_some]; obtain ⟨vs', hO', hx2⟩ := hS.2.2.1 rfl; obtain ⟨ks0, vs0, hM0, hap0⟩ := h1.2; have e0 := hM0.uniq hO'.mp; subst e0; have hO8 := hO'.keeps2 ha8.keeps (fun j hj e => by have := (h1.1.lt j e).1; omega) (fun j hj e => by have := (h1.1.lt j e).1; have := (hv5 j hj).2; omega) (fun x hx j hj e => hap0 x hx j hj e); refine hK.out _ _ ha8.own ⟨hS.1.trans ha8.keeps (fun j e => .inr (h1.1.lt j e).1), fun e => absurd e (by decide), fun _ => ⟨_, hO8, hx2⟩, _, _, hO8.mp, fun x hx j hj => (hO8.vlt x hx j hj).2.1⟩ (.inl rfl))
  refine Free.cons ?_ ?_
  · intro st hag; (obtain rfl : st = 1 := Nat.le_antisymm hag.2 hag.1); intro w' hS; (intro v8 h8); intro K hK; have k0 := (hX6.keeps hS.1 hnx).cell 0 (v := .int .i64 g) rfl; have k1 := (hX6.keeps hS.1 hnx).cell 1 (v := .int .i64 k) rfl; first | (refine Free.run_yes (by rfl) ?_; go_simp; refine Free.oR hK (hR (Below.refl _ _)) hS ?_; first | exact rfl | assumption) | (refine Free.run_no (by rfl) (Free.oR hK (hR (Below.refl _ _)) hS ?_); exact rfl)
  refine Free.cons ?_ ?_
  · intro st hag; (obtain rfl : st = 1 := Nat.le_antisymm hag.2 hag.1); intro w' hS; intro K hK; have k0 := (hX6.keeps hS.1 hnx).cell 0 (v := .int .i64 g) rfl; have k1 := (hX6.keeps hS.1 hnx).cell 1 (v := .int .i64 k) rfl; first | (refine Free.run_yes (by rfl) ?_; go_simp; refine Free.oR hK (hR (Below.refl _ _)) hS ?_; exact rfl) | (refine Free.run_no (by rfl) (Free.oR hK (hR (Below.refl _ _)) hS ?_); exact rfl)
  exact Free.nil
  clear hvo
  intro w' hS; intro v0; intro v1; intro v2; intro v3; intro v4; intro v5; intro v6; intro v7; intro v8; intro v9 h9; (rintro _ rfl); (try simp only [Act.put, List.setIfInBounds_toArray, List.set_cons_zero, List.set_cons_succ]); refine Free.toldE_nil ?_
  obtain ⟨hk9, -, hO9, -⟩ := hS
  obtain ⟨vs', hO9, hx9⟩ := hO9 rfl
  go_wp2
  go_ret2
  exact ⟨v9, vq, vs', rfl, OB.mono h9 (fun j hj => by have := (OB.lt h9 j hj).1; omega), hO9, hk06.trans hk9 (fun j e => .inl (e.elim (fun e => .inr (.inl e)) (fun e => .inr (.inr (.inl e))))), hvq, fun x hx => (hx9 x hx).imp id (fun ⟨g1, e1, e2⟩ => ⟨g1, e1, by omega⟩)⟩
end Go.Proofs.Ytniendffanemcaa
/- SealBlank: the walk. -/
namespace Go.Proofs.Ytniendffanemcaa
open Go.ChangeShapes Go.WideShapes Go.ChangeAt Go.RowKit
open Go.ChangeMaps (open_string shut_string)
set_option linter.unusedVariables false
set_option linter.unusedSimpArgs false
set_option maxRecDepth 100000

theorem orc_seal_blank (w : World) (p t bm : Nat) (A : Option Addr) (n c : Nat) (z : Int) (vp : Value) (vs : List Value) (S : OrcS) (k : Int) (A1 : Option Addr) (n1 c1 : Nat) (h : Orc w p t bm A n c z vp vs S) :
    Calls Try.prog 15 #[.pointer (some ⟨p, 0, none⟩), .agg #[.int .i64 0, .int .i64 k], .slice A1 n1 c1] w fun e w' => e = .returned (.tuple #[.slice none 0 0, .int .i64 1]) ∧ Below w.heap.size w w' := by
  have bb : Below w.heap.size w (w.alloc (.cells #[.int .i64 0, .int .i64 k] 36)) := (by repeat (first | exact Below.refl _ _ | assumption | apply below_drewN' | apply Below.drew | refine Below.alloc ?_ (by first | omega | (simp; done) | (simp; omega)) _ | refine Below.setCell ?_ (by first | omega | (simp; done) | (simp; omega)) _))
  have hX := Blk.new w #[.int .i64 0, .int .i64 k] 36
  obtain ⟨m, hm⟩ : ∃ m, (amongB 0 && amongB k) = m := ⟨_, rfl⟩
  have HM := Lib.hid (fun w => may_is 0 k m w hm)
  clear hm
  cases m with
  | false =>
    go_enter Try.func15, Try.ntmps15
    go_wp2_with fail
    refine (HM.out _).mono ?_
    rintro e w2 ⟨rfl, e3⟩
    go_wp2
    go_ret2
    exact ⟨rfl, Below.next bb e3 (Nat.le_refl _)⟩
  | true =>
    go_enter Try.func15, Try.ntmps15
    go_wp2_with fail
    refine (HM.out _).mono ?_
    rintro e w2 ⟨rfl, e3⟩
    have x0 := (hX.below e3 hX.lt).cell 0 (v := .int .i64 0) rfl
    go_wp2
    go_ret2
    exact ⟨rfl, Below.next bb e3 (Nat.le_refl _)⟩
theorem orc_plain (w : World) (p t bm : Nat) (A : Option Addr) (n c : Nat) (z : Int) (A6 : Option Addr) (n6 c6 : Nat) (vs : List Value) (S : OrcS) (h : Orc w p t bm A n c z (.slice A6 n6 c6) vs S) (hn : n6 ≤ 1000000) :
    Calls Try.prog 21 #[.pointer (some ⟨p, 0, none⟩)] w fun e w' => ∃ v, e = .returned v ∧ OB w' w.heap.size v S.plain ∧ Below w.heap.size w w' := by
  have y3 := h.blk.cell 3 (v := .slice A6 n6 c6) rfl
  have HC := Lib.hid (fun w h => clone_any A6 n6 c6 S.plain w h (by omega))
  have hr := Lib.hid (OB.reads h.pl)
  go_enter Try.func21, Try.ntmps21
  go_wp2_with fail
  refine (HC.out _ hr.out).mono ?_
  rintro e w2 ⟨v, rfl, ho, hb⟩
  go_wp2
  go_ret
  exact ⟨v, rfl, ho, hb⟩
theorem OB.of_cells {w : World} {g B : Nat} {l : List UInt8} (h : Blk w g (bcells l) 5) (hB : B ≤ g) (hm : l.length ≤ maxLen) : OB w B (.slice (some ⟨g, 0, none⟩) l.length l.length) l := by
  refine ⟨by simp, .inr ⟨g, l.length, bcells l, rfl, hB, h, Nat.le_refl _, hm, by rw [bcells_size]; omega, ?_⟩⟩
  rw [bcells_toList, Nat.mul_one, ← List.length_map (f := bv), List.take_length]
theorem nonce_zero {k : Int} (hk : amongB k = true) (L : Nat) (T : List UInt8) (hT : T.length = L) (S : OrcS) (hS : S.L = L) : openE S (nonceB 0 k ++ T) = 0 ∧ openT S (nonceB 0 k ++ T) = List.replicate L 0 := by
  have hN := nonceB_length 0 k
  have hl : (nonceB 0 k ++ T).length = 12 + L := by rw [List.length_append, hN, hT]
  have ht : (nonceB 0 k ++ T).take 12 = nonceB 0 k := by rw [← hN, List.take_left]
  have h6 : (nonceB 0 k ++ T).take 6 = (nonceB 0 k).take 6 := by rw [List.take_append_of_le_length (by omega)]
  obtain ⟨p1, p2, p3⟩ := parse_back (show amongB 0 = true by decide) hk
  rw [parseV_yes p1] at p2
  injection p2 with p2
  have q1 : rnumV ((nonceB 0 k).take 6) = 0 := by
    have := congrArg (fun c : Array Value => c[0]?) p2
    simpa using this
  have hE : openE S (nonceB 0 k ++ T) = 0 := by
    unfold openE
    rw [ht, h6, q1, hl, hS, p1]
    simp
  refine ⟨hE, ?_⟩
  unfold openT
  rw [hE, h6, q1, hS]
  simp
theorem nonce_one {k : Int} (hk : amongB k = true) (L : Nat) (T : List UInt8) (hT : T.length = L) : openE ⟨L, 0, [], [], [], []⟩ (nonceB 1 k ++ T) = 5 ∧ openT ⟨L, 0, [], [], [], []⟩ (nonceB 1 k ++ T) = [] := by
  have hN := nonceB_length 1 k
  have hl : (nonceB 1 k ++ T).length = 12 + L := by rw [List.length_append, hN, hT]
  have ht : (nonceB 1 k ++ T).take 12 = nonceB 1 k := by rw [← hN, List.take_left]
  have h6 : (nonceB 1 k ++ T).take 6 = (nonceB 1 k).take 6 := by rw [List.take_append_of_le_length (by omega)]
  obtain ⟨p1, p2, p3⟩ := parse_back (show amongB 1 = true by decide) hk
  rw [parseV_yes p1] at p2
  injection p2 with p2
  have q1 : rnumV ((nonceB 1 k).take 6) = 1 := by
    have := congrArg (fun c : Array Value => c[0]?) p2
    simpa using this
  have hE : openE ⟨L, 0, [], [], [], []⟩ (nonceB 1 k ++ T) = 5 := by
    unfold openE
    rw [ht, h6, q1, hl, p1]
    simp [fndK]
  exact ⟨hE, by unfold openT; rw [hE]; simp⟩
theorem nonce_far {k : Int} (L : Nat) (T : List UInt8) (hT : T.length = L + 1) : openE ⟨L, 0, [], [], [], []⟩ (nonceB 0 k ++ T) = 2 ∧ openT ⟨L, 0, [], [], [], []⟩ (nonceB 0 k ++ T) = [] := by
  have hN := nonceB_length 0 k
  have hE : openE ⟨L, 0, [], [], [], []⟩ (nonceB 0 k ++ T) = 2 := by
    unfold openE
    rw [if_pos (by rw [List.length_append, hN, hT]; simp only; omega)]
  exact ⟨hE, by unfold openT; rw [hE]; simp⟩
theorem orc_open_zero (w : World) (p t bm : Nat) (A : Option Addr) (n c : Nat) (z : Int) (vp : Value) (vs : List Value) (S : OrcS) (A1 : Option Addr) (n1 c1 : Nat) (k : Int) (T : List UInt8) (h : Orc w p t bm A n c z vp vs S) (ha : RB w A1 n1 c1 (nonceB 0 k ++ T)) (hk : amongB k = true) (hT : T.length = S.L) (hn : n1 ≤ 1000000) :
    Calls Try.prog 16 #[.pointer (some ⟨p, 0, none⟩), .slice A1 n1 c1] w fun e w' => ∃ g1, e = .returned (.tuple #[.slice (some ⟨g1, 0, none⟩) S.L S.L, .int .i64 0]) ∧ w.heap.size ≤ g1 ∧ Blk w' g1 (bcells (List.replicate S.L 0)) 5 ∧ Below w.heap.size w w' := by
  have hN := nonceB_length 0 k
  have hal := ha.len
  have hac := ha.cap
  rw [List.length_append, hN, hT] at hal
  have l1 := h.l1
  have l2 := h.l2
  have y1 := h.blk.cell 1 (v := .int .i64 S.L) rfl
  have hL2 : ((n1 : Int) != 12 + (S.L : Int)) = false := by rw [bne_eq_false_iff_eq]; omega
  have hsl : ∀ w, (Instr.slice 22 (.slice A1 n1 c1) none (some (.int .i64 12)) none).run Try.prog w = .ok (.slice A1 12 c1) w := fun w => run_takeS A1 n1 c1 12 w (by omega)
  have ht := ha.take 12 (by omega)
  rw [show (nonceB 0 k ++ T).take 12 = nonceB 0 k by rw [← hN, List.take_left]] at ht
  obtain ⟨p1, p2, p3⟩ := parse_back (show amongB 0 = true by decide) hk
  have HN := Lib.hid (fun w h => nonce_parse A1 12 c1 (nonceB 0 k) w h (by omega))
  rw [p2, p3] at HN
  have hmk := fun w => run_mk w S.L (by omega)
  generalize nonceB 0 k = N at *
  clear p1 p2 p3
  go_enter Try.func16, Try.ntmps16
  go_wp2_with fail
  refine (HN.out _ ht).mono ?_
  rintro e w2 ⟨rfl, e3⟩
  have z1 := (h.below (e3.alloc e3.size (.cells #[.int .i64 0, .int .i64 k] 36))).blk.cell 1 (v := .int .i64 S.L) rfl
  go_wp2
  go_ret2
  exact ⟨_, rfl, by have := e3.size; omega, Blk.new2 _ _ _ _, (e3.alloc e3.size _).alloc (by have := e3.size; simp; omega) _⟩
end Go.Proofs.Ytniendffanemcaa
/- A slice of structs whose fields are one cell each, that came in. -/
namespace Go.Proofs.Ytniendffanemcaa
open Go.ChangeShapes Go.WideShapes Go.ChangeAt Go.RowKit
open Go.ChangeMaps (open_string shut_string)
set_option linter.unusedVariables false
set_option linter.unusedSimpArgs false
set_option maxRecDepth 100000
open Go.Deep

/-- The slice (A, n, c) reads as n rows of k cells, V. -/
structure RW (w : World) (A : Option Addr) (n c k : Nat) (V : Nat → List Value) : Prop where
  cap : n ≤ c
  max : c ≤ maxLen
  nil : A = none → c = 0
  at_ : 0 < n → ∃ g o, A = some ⟨g, o, none⟩ ∧ ∀ i, i < n → (V i).length = k ∧ ∀ f v, (V i)[f]? = some v → w.cell? ⟨g, o + i * k + f, none⟩ = some v
namespace RW
variable {w W : World} {A : Option Addr} {n c k : Nat} {V : Nat → List Value}
theorem below (h : RW w A n c k V) (hb : Below w.heap.size w W) : RW W A n c k V :=
  ⟨h.cap, h.max, h.nil, fun hn => let ⟨g, o, e, hc⟩ := h.at_ hn; ⟨g, o, e, fun i hi => ⟨(hc i hi).1, fun f v hv => (hb.cell (p := ⟨g, _, none⟩) (World.block_lt_of_cell? w _ ((hc i hi).2 f v hv))).trans ((hc i hi).2 f v hv)⟩⟩⟩
theorem none_ (w : World) (k : Nat) (V : Nat → List Value) : RW w none 0 0 k V := ⟨Nat.le_refl _, by unfold maxLen; omega, fun _ => rfl, fun h => absurd h (by omega)⟩
theorem len (h : RW w A n c k V) : n ≤ 9223372036854775807 := by have a := h.cap; have b := h.max; unfold maxLen at b; omega
end RW

section
variable {H : Type} {enc : TypeId × Value → H} {P : Program} {W : World}
theorem open_recs {t e : TypeId} {fs : Array Field} {fuel : Nat} {v : Value} {x : DataW H × List MemPlace} (ht : P.underlying t = some (.slice e)) (hs : P.underlying e = some (.struct fs)) (hone : oneCellFields P fs = true) (hC : P.cellsOf e = fs.size) (h0 : 0 < fs.size)
    (h : DataW.trod enc P W 0 (fun _ => true) true fuel t [v] = some x) :
    ∃ A n c V, v = .slice A n c ∧ RW W A n c fs.size V ∧ ∃ m, ∀ i, i < n → ∀ (f : Nat) (fd : Field), fs[f]? = some fd → ∃ y, DataW.trod enc P W 0 (fun _ => true) true m fd.type [(V i).getD f undef] = some y := by
  rcases open_slice ht h with ⟨hcs, _⟩ | ⟨a, len, cap, m, n, D, Pl, hcs, _, hl, hm, hmm, _, hx⟩
  · simp at hcs
    exact ⟨none, 0, 0, fun _ => [], hcs, RW.none_ W _ _, 0, fun i hi => absurd hi (by omega)⟩
  · simp at hcs
    simp only [if_true] at hmm
    subst hmm
    obtain ⟨V, hV⟩ := choose_lt (α := List Value) (p := fun i cs' => W.cells? 0 (a.add (i * P.cellsOf e)) (P.cellsOf e) = some cs' ∧ DataW.trod enc P W 0 (fun _ => true) true n e cs' = some (D i, Pl i)) (fun i hi => hx i hi)
    have hrow : ∀ i, i < m → (V i).length = fs.size ∧ ∀ f, f < fs.size → W.cell? (a.add (i * fs.size + f)) = (V i)[f]? := by
      intro i hi
      obtain ⟨_, hln, hc⟩ := World.cells?_some (hV i hi).1
      rw [hC] at hln hc
      refine ⟨hln, fun f hf => ?_⟩
      rw [← hc f hf]
      obtain ⟨ab, ao, sp⟩ := a
      congr 1
      rw [Addr.add_add]
    cases n with
    | zero =>
      refine ⟨some a, len, m, V, hcs, ⟨hl, hm, (fun h => by cases h), fun hn => ?_⟩, 0, fun i hi => ?_⟩
      · have := (hV 0 (by omega)).2
        simp [DataW.trod] at this
      · have := (hV i (by omega)).2
        simp [DataW.trod] at this
    | succ m' =>
      refine ⟨some a, len, m, V, hcs, ⟨hl, hm, (fun h => by cases h), fun hn => ?_⟩, m', fun i hi f fd hf => ?_⟩
      · obtain ⟨ab, ao, spot⟩ := a
        have h00 := (hrow 0 (by omega)).2 0 h0
        have hl0 := (hrow 0 (by omega)).1
        rw [List.getElem?_eq_getElem (by omega)] at h00
        have hspot : spot = none := by simpa [Addr.add] using World.cell?_spot h00
        subst hspot
        refine ⟨ab, ao, rfl, fun i hi => ⟨(hrow i (by omega)).1, fun f v hv => ?_⟩⟩
        have hf : f < fs.size := by have := (List.getElem?_eq_some_iff.1 hv).1; have := (hrow i (by omega)).1; omega
        have := (hrow i (by omega)).2 f hf
        rw [hv, Addr.add_lit, ← Nat.add_assoc] at this
        exact this
      · obtain ⟨xs, k, he, _, hlen, hxl, hg⟩ := DataW.trod_struct hs (hV i (by omega)).2
        have hk : k = m' := by omega
        subst hk
        have hlt : f < fs.size := (Array.getElem?_eq_some_iff.1 hf).1
        obtain ⟨ho, hc1⟩ := hone_of hone f fd hf
        have g := hg f fd hf
        rw [ho, hc1, take1_drop _ f undef (by rw [hlen, hC]; exact hlt), List.getElem?_eq_getElem (by omega)] at g
        exact ⟨_, g⟩
end
end Go.Proofs.Ytniendffanemcaa
/- A slice of bytes that came in reads as bytes. -/
namespace Go.Proofs.Ytniendffanemcaa
open Go.ChangeShapes Go.WideShapes Go.ChangeAt Go.RowKit
open Go.ChangeMaps (open_string shut_string)
set_option linter.unusedVariables false
set_option linter.unusedSimpArgs false
set_option maxRecDepth 100000
section
variable {H : Type} {enc : TypeId × Value → H}
theorem cells_u8 : Try.prog.cellsOf 5 = 1 := by kernel_rfl
theorem wf_byte {n : Int} (h : (Lit.int .u8 n).wf = true) : 0 ≤ n ∧ n < 256 := by
  have := range_u8 (zs := [n]) (fun m hm => by simp at hm; subst hm; exact h) 0
  simp at this
  omega
theorem open_bytes1 {W : World} {fuel : Nat} {v : Value} {x : DataW H × List MemPlace} (hf : DataW.trod enc Try.prog W 0 (fun _ => true) true fuel 22 [v] = some x) :
    ∃ A n c l, v = .slice A n c ∧ RB W A n c l := by
  rcases open_ints Try.underlying22 Try.underlying5 cells_u8 hf with ⟨hcs, hx⟩ | ⟨a, len', cap', zs, hcs, _, hl, hm, hz, hx, hcell, hwz⟩
  · simp at hcs
    exact ⟨none, 0, 0, [], hcs, RB.none_ W⟩
  · simp at hcs
    simp only [if_true] at hz
    refine ⟨some a, len', cap', (zs.take len').map fun n => UInt8.ofNat n.toNat, hcs, by simp; omega, hl, hm, fun h => (by cases h), fun hn => ?_⟩
    obtain ⟨ab, ao, spot⟩ := a
    have hspot : spot = none := by simpa [Addr.add] using World.cell?_spot (hcell 0 (by omega))
    subst hspot
    refine ⟨ab, ao, rfl, fun i b hb => ?_⟩
    have hi : i < len' := by have := (List.getElem?_eq_some_iff.1 hb).1; simp at this; omega
    have hc := hcell i (by omega)
    rw [Addr.add_lit] at hc
    rw [hc]
    rw [List.getElem?_map, List.getElem?_take, if_pos hi, List.getElem?_eq_getElem (by omega)] at hb
    simp only [Option.map_some, Option.some.injEq] at hb
    rw [← hb]
    have hw := wf_byte (hwz (zs[i]'(by omega)) (List.getElem_mem _))
    simp only [List.getD, List.getElem?_eq_getElem (show i < zs.length by omega), Option.getD_some, bv]
    generalize zs[i]'(by omega) = z at *
    rw [UInt8.toNat_ofNat', Nat.mod_eq_of_lt (by omega)]
    congr 3
    omega
theorem open_bytes {W : World} {base : Nat} {v1 : Value} {d1 : DataW H} {p1 : List MemPlace} (hval : Value.okWide Try.prog W .any base 22 v1) (h1 : DataW.Trod enc Try.prog W 0 (fun _ => true) true 22 v1 d1 p1) :
    ∃ A n c l, v1 = .slice A n c ∧ RB W A n c l := by
  obtain ⟨a1, len, cap, rfl⟩ := okWide_slice Try.underlying22 hval
  obtain ⟨fuel, hf⟩ := h1
  exact open_bytes1 hf
end
end Go.Proofs.Ytniendffanemcaa
/- SealPlays: a new oracle of the document, plain, Length, few, operations that came in. -/
namespace Go.Proofs.Ytniendffanemcaa
open Go.ChangeShapes Go.WideShapes Go.ChangeAt Go.RowKit
open Go.ChangeMaps (open_string shut_string)
set_option linter.unusedVariables false
set_option linter.unusedSimpArgs false
set_option maxRecDepth 100000
open Go.Deep

theorem rf_new (w : World) (u : Nat) (l : List UInt8) (A : Option Addr) (n c L : Nat) (h : Blk w u #[.slice A n c, .int .i64 0] 62) (hr : RB w A n c l) (ha : 0 < n → ∀ a, A = some a → a.block < u) (hn : n ≤ 1000000) (h1 : 1 ≤ L) (h4 : L ≤ 4000) :
    Calls Try.prog 23 #[.pointer (some ⟨u, 0, none⟩), .int .i64 L] w fun e w' => ∃ p bm, e = .returned (.tuple #[.pointer (some ⟨p, 0, none⟩), .int .i64 0]) ∧ Rfc w' p u bm A n c (.slice none 0 0) (.slice none 0 0) [] ⟨L, 0, l, [], [], []⟩ ∧ w.heap.size ≤ bm ∧ Below w.heap.size w w' := by
  have hmm := @run_makeMap Try.prog
  have hb1 : ∀ (q : Option Addr) (m : Int) (b : Option Nat) (w : World), (Instr.build 73 #[(0, .pointer q), (1, .int .i64 m), (3, .map b)]).run Try.prog w = .ok (.agg #[.pointer q, .int .i64 m, .slice none 0 0, .map b, .slice none 0 0]) w := fun q m b w => by kernel_rfl
  have hu := h.lt
  go_enter Try.func23, Try.ntmps23
  go_wp2
  go_ret2
  have bb : Below w.heap.size w ((w.alloc (.map #[] 0)).alloc (.cells #[.pointer (some ⟨u, 0, none⟩), .int .i64 L, .slice none 0 0, .map (some w.heap.size), .slice none 0 0] 73)) := (by repeat (first | exact Below.refl _ _ | assumption | apply below_drewN' | apply Below.drew | refine Below.alloc ?_ (by first | omega | (simp; done) | (simp; omega)) _ | refine Below.setCell ?_ (by first | omega | (simp; done) | (simp; omega)) _))
  exact ⟨w.heap.size + 1, w.heap.size, rfl, ⟨Blk.new2 _ _ _ _, h.below bb hu, hr.below bb, ha, MapV.empty (c := 0) ((Below.heap_alloc _ _ _ (by simp)).trans (heap_alloc_new w _)), DO.nil _ _, rfl, (fun l hl => by cases hl), OB.nil _ _, (fun j hj => by simp [Value.ownBlock] at hj), (fun x hx => by cases hx), hu, by omega, h1, h4, hn⟩, Nat.le_refl _, bb⟩
theorem rf_new_no (w : World) (u : Nat) (L : Int) (h : L < 1 ∨ 4000 < L) :
    Calls Try.prog 23 #[.pointer (some ⟨u, 0, none⟩), .int .i64 L] w fun e w' => e = .returned (.tuple #[.pointer none, .int .i64 1]) ∧ Below w.heap.size w w' := by
  by_cases h1 : L < 1
  · clear h
    go_enter Try.func23, Try.ntmps23
    go_wp2
    go_ret2
    exact ⟨rfl, Below.refl _ _⟩
  · have h2 : 4000 < L := by omega
    clear h
    go_enter Try.func23, Try.ntmps23
    go_wp2
    go_ret2
    exact ⟨rfl, Below.refl _ _⟩
theorem plain6 (g c : Int) (w : World) : Calls Try.prog 25 #[.agg #[.int .i64 g, .int .i64 c]] w fun e w' => e = .returned (.agg #[.int .i64 g, .int .i64 c]) ∧ Below w.heap.size w w' := by
  go_enter Try.func25, Try.ntmps25
  go_wp2
  refine bodyPost_ret (v := .agg #[.int .i64 g, .int .i64 c]) (by simp [results, Try.results25, go_sem]) rfl ⟨rfl, (by repeat (first | exact Below.refl _ _ | assumption | apply below_drewN' | apply Below.drew | refine Below.alloc ?_ (by first | omega | (simp; done) | (simp; omega)) _ | refine Below.setCell ?_ (by first | omega | (simp; done) | (simp; omega)) _))⟩
theorem orc_length (w : World) (p t bm : Nat) (A : Option Addr) (n c : Nat) (z : Int) (vp : Value) (vs : List Value) (S : OrcS) (h : Orc w p t bm A n c z vp vs S) :
    Calls Try.prog 29 #[.pointer (some ⟨p, 0, none⟩)] w fun e w' => e = .returned (.int .i64 S.L) ∧ w = w' := by
  have y1 := h.blk.cell 1 (v := .int .i64 S.L) rfl
  go_enter Try.func29, Try.ntmps29
  go_wp2
  go_ret
  exact ⟨rfl, rfl⟩
/-- An operation. -/
structure OpS where
  kind : Int
  k : Int
  g : Int
  c : Int
  b : List UInt8
instance : Inhabited OpS := ⟨⟨0, 0, 0, 0, []⟩⟩
/-- The slice reads as the operations L. -/
structure RS (w : World) (A : Option Addr) (n c : Nat) (L : List OpS) : Prop where
  len : L.length = n
  cap : n ≤ c
  max : c ≤ maxLen
  at_ : 0 < n → ∃ g o, A = some ⟨g, o, none⟩ ∧ ∀ i b, L[i]? = some b → ∃ B m k, RB w B m k b.b ∧ w.cell? ⟨g, o + i * 5, none⟩ = some (.int .i64 b.kind) ∧ w.cell? ⟨g, o + i * 5 + 1, none⟩ = some (.int .i64 b.k) ∧ w.cell? ⟨g, o + i * 5 + 2, none⟩ = some (.int .i64 b.g) ∧ w.cell? ⟨g, o + i * 5 + 3, none⟩ = some (.int .i64 b.c) ∧ w.cell? ⟨g, o + i * 5 + 4, none⟩ = some (.slice B m k)
theorem RS.below {w W : World} {A : Option Addr} {n c : Nat} {L : List OpS} (h : RS w A n c L) (hb : Below w.heap.size w W) : RS W A n c L :=
  ⟨h.len, h.cap, h.max, fun hn => let ⟨g, o, e, hc⟩ := h.at_ hn; ⟨g, o, e, fun i b hi => let ⟨B, m, k, h0, h1, h2, h3, h4, h5⟩ := hc i b hi; ⟨B, m, k, h0.below hb, (hb.cell (p := ⟨g, _, none⟩) (World.block_lt_of_cell? w _ h1)).trans h1, (hb.cell (p := ⟨g, _, none⟩) (World.block_lt_of_cell? w _ h2)).trans h2, (hb.cell (p := ⟨g, _, none⟩) (World.block_lt_of_cell? w _ h3)).trans h3, (hb.cell (p := ⟨g, _, none⟩) (World.block_lt_of_cell? w _ h4)).trans h4, (hb.cell (p := ⟨g, _, none⟩) (World.block_lt_of_cell? w _ h5)).trans h5⟩⟩⟩
def smin6 (L : List OpS) : Nat := (L.map fun x => min x.b.length 20001).sum
def tot6 (L : List OpS) : Nat := (L.map fun x => x.b.length).sum
theorem smin6_snoc {L : List OpS} {k : Nat} {x : OpS} (h : L[k]? = some x) : smin6 (L.take (k + 1)) = smin6 (L.take k) + min x.b.length 20001 := by
  unfold smin6
  rw [List.take_add_one, h]
  simp
theorem tot6_of (L : List OpS) (h : smin6 L ≤ 20000) : tot6 L ≤ 20000 := by
  have : tot6 L = smin6 L := by
    unfold smin6 at h ⊢
    unfold tot6
    induction L with
    | nil => rfl
    | cons x L ih =>
      simp only [List.map_cons, List.sum_cons] at h ⊢
      rw [ih (by omega)]
      omega
  omega
theorem tot6_mem {L : List OpS} {x : OpS} (h : x ∈ L) : x.b.length ≤ tot6 L := by
  unfold tot6
  induction L with
  | nil => cases h
  | cons y L ih =>
    simp only [List.map_cons, List.sum_cons]
    rcases List.mem_cons.1 h with rfl | h
    · omega
    · have := ih h; omega
def Few6 (L : List OpS) (e : Ending) : Prop := ∃ b, e = .returned (.bool b) ∧ (b = true → L.length ≤ 100 ∧ tot6 L ≤ 20000)
set_option maxHeartbeats 2000000 in
theorem few6_any (A : Option Addr) (n c : Nat) (L : List OpS) (w : World) (h : RS w A n c L) : Calls Try.prog 22 #[.slice A n c] w fun e w' => Few6 L e ∧ w = w' := by
  have hnm : n ≤ maxLen := Nat.le_trans h.cap h.max
  unfold maxLen at hnm
  have hLn := h.len
  go_enter Try.func22, Try.ntmps22
  go_wp2
  go_loopw [3, 4] (fun s i wr => ∃ k m : Nat, k ≤ n ∧ k ≤ 100 ∧ m ≤ k * 20001 ∧ s = .int .i64 m ∧ i = .int .i64 k ∧ Hid (m = smin6 (L.take k)) ∧ wr = w) (fun s i _ => 101 - (intOf i).toNat)
  case atStart => exact ⟨0, 0, by omega, by omega, by omega, rfl, rfl, Lib.hid (by simp [smin6]), rfl⟩
  case round =>
    obtain ⟨k, m, hk, hk2, m1, rfl, rfl, hm, rfl⟩ := hrel
    by_cases h1 : k < n
    · by_cases h2 : k < 100
      · obtain ⟨q, hq⟩ : ∃ q, L[k]? = some q := ⟨_, List.getElem?_eq_getElem (by omega)⟩
        obtain ⟨g, o, rfl, hc⟩ := h.at_ (by omega)
        obtain ⟨B, mm, kk, hE, -, -, -, -, hc5⟩ := hc k q hq
        have hmm : mm ≤ maxLen := Nat.le_trans hE.cap hE.max
        unfold maxLen at hmm
        have hsn := smin6_snoc hq
        rw [hE.len, ← hm.out] at hsn
        replace hsn := Lib.hid hsn
        clear hc hq hE
        by_cases h3 : (20001 : Int) < (mm : Int)
        · go_wp2
          go_roundw
          case rel => exact ⟨k + 1, m + 20001, by omega, by omega, by omega, by go_num, by go_num, Lib.hid (by rw [hsn.out, Nat.min_eq_right (by omega)]), trivial⟩
          case measure => simp [intOf]; omega
        · go_wp2
          go_roundw
          case rel => exact ⟨k + 1, m + mm, by omega, by omega, by omega, by go_num, by go_num, Lib.hid (by rw [hsn.out, Nat.min_eq_left (by omega)]), trivial⟩
          case measure => simp [intOf]; omega
      · have h6 : ¬ (n : Int) ≤ 100 := by omega
        go_wp2
        go_ret
        exact ⟨⟨_, rfl, fun h => by cases h⟩, rfl⟩
    · have h6 : (n : Int) ≤ 100 := by omega
      have h7 := Lib.hid (show n ≤ 100 by omega)
      by_cases h8 : (m : Int) ≤ 20000
      · have h9 := Lib.hid (show L.length ≤ 100 ∧ tot6 L ≤ 20000 from ⟨by omega, tot6_of L (by have := hm.out; rw [List.take_of_length_le (by omega)] at this; omega)⟩)
        go_wp2
        go_ret
        exact ⟨⟨_, rfl, fun _ => h9.out⟩, rfl⟩
      · go_wp2
        go_ret
        exact ⟨⟨_, rfl, fun h => by cases h⟩, rfl⟩
end Go.Proofs.Ytniendffanemcaa
/- SealOrder: the plain law. -/
namespace Go.Proofs.Ytniendffanemcaa
open Go.ChangeShapes Go.WideShapes Go.ChangeAt Go.RowKit
open Go.ChangeMaps (open_string shut_string)
set_option linter.unusedVariables false
set_option linter.unusedSimpArgs false
set_option maxRecDepth 100000

theorem fndK_mem (x : Int × Int) : ∀ (u : List (Int × Int)) (m : Nat), (fndK x u m).isSome = true ↔ x ∈ u
  | [], m => by simp [fndK]
  | a :: u, m => by
    unfold fndK
    by_cases h : x = a
    · rw [if_pos h]; simp [h]
    · rw [if_neg h, fndK_mem x u (m + 1)]; simp [h]
theorem fndK_more (x : Int × Int) (v : List (Int × Int)) : ∀ (u : List (Int × Int)) (m q : Nat), fndK x u m = some q → fndK x (u ++ v) m = some q
  | [], m, q, h => by cases h
  | a :: u, m, q, h => by
    show fndK x (a :: (u ++ v)) m = _
    unfold fndK at h ⊢
    by_cases e : x = a
    · rw [if_pos e] at h ⊢; exact h
    · rw [if_neg e] at h ⊢; exact fndK_more x v u (m + 1) q h
theorem fndK_not {x : Int × Int} {u : List (Int × Int)} {m : Nat} (h : x ∉ u) : fndK x u m = none := by
  cases e : fndK x u m with
  | none => rfl
  | some q => exact absurd ((fndK_mem x u m).1 (by rw [e]; rfl)) h
/-- The first i ones, each once. -/
def uq (l : List (Int × Int)) (i : Nat) : List (Int × Int) := (l.take i).foldl (fun u x => if (fndK x u 0).isSome = true then u else u ++ [x]) []
theorem uq_zero (l : List (Int × Int)) : uq l 0 = [] := rfl
theorem uq_step {l : List (Int × Int)} {i : Nat} {x : Int × Int} (h : l[i]? = some x) : uq l (i + 1) = if (fndK x (uq l i) 0).isSome = true then uq l i else uq l i ++ [x] := by
  unfold uq
  rw [List.take_add_one, h, List.foldl_append]
  rfl
theorem uq_mem {l : List (Int × Int)} : ∀ {i : Nat} {x : Int × Int}, i ≤ l.length → (x ∈ uq l i ↔ x ∈ l.take i)
  | 0, x, _ => by simp [uq]
  | i + 1, x, hi => by
    obtain ⟨y, hy⟩ : ∃ y, l[i]? = some y := ⟨_, List.getElem?_eq_getElem (by omega)⟩
    have ih := uq_mem (l := l) (i := i) (x := x) (by omega)
    have ihy := uq_mem (l := l) (i := i) (x := y) (by omega)
    rw [uq_step hy, List.take_add_one, hy]
    by_cases hk : (fndK y (uq l i) 0).isSome = true
    · rw [if_pos hk]
      have := ihy.1 ((fndK_mem y _ 0).1 hk)
      simp only [Option.toList, List.mem_append, List.mem_singleton]
      constructor
      · intro h; exact .inl (ih.1 h)
      · rintro (h | rfl)
        · exact ih.2 h
        · exact ih.2 this
    · rw [if_neg hk]
      simp only [Option.toList, List.mem_append, List.mem_singleton, ih]
theorem uq_len (l : List (Int × Int)) : ∀ i, (uq l i).length ≤ i
  | 0 => by simp [uq]
  | i + 1 => by
    have ih := uq_len l i
    by_cases hi : i < l.length
    · rw [uq_step (List.getElem?_eq_getElem hi)]
      split
      · omega
      · rw [List.length_append]; simp; omega
    · have : uq l (i + 1) = uq l i := by
        unfold uq
        rw [List.take_of_length_le (by omega : l.length ≤ i + 1), List.take_of_length_le (by omega : l.length ≤ i)]
      rw [this]; omega
/-- The place of x among the first j, or n. -/
def atK (l : List (Int × Int)) (x : Int × Int) (n j : Nat) : Nat := match fndK x (uq l j) 0 with | some q => q | none => n
theorem atK_hit {l : List (Int × Int)} {x : Int × Int} {n j : Nat} (hj : l[j]? = some x) (h : (fndK x (uq l j) 0).isSome = false) : atK l x n (j + 1) = (uq l j).length ∧ (fndK x (uq l (j + 1)) 0).isSome = true := by
  have hn : fndK x (uq l j) 0 = none := by cases e : fndK x (uq l j) 0 with | none => rfl | some q => rw [e] at h; cases h
  have e : uq l (j + 1) = uq l j ++ [x] := by rw [uq_step hj, if_neg (by rw [h]; simp)]
  unfold atK
  rw [e, fndK_app _ _ _ hn]
  simp
theorem atK_pass {l : List (Int × Int)} {x y : Int × Int} {n j : Nat} (hj : l[j]? = some y) (h : y ≠ x ∨ (fndK x (uq l j) 0).isSome = true) : atK l x n (j + 1) = atK l x n j ∧ (fndK x (uq l (j + 1)) 0).isSome = (fndK x (uq l j) 0).isSome := by
  have key : fndK x (uq l (j + 1)) 0 = fndK x (uq l j) 0 := by
    rw [uq_step hj]
    split
    · rfl
    · cases e : fndK x (uq l j) 0 with
      | some q => exact fndK_more x _ _ _ _ e
      | none =>
        rcases h with h | h
        · refine fndK_not ?_
          rw [List.mem_append, List.mem_singleton]
          rintro (h1 | h1)
          · have := (fndK_mem x (uq l j) 0).2 h1
            rw [e] at this; cases this
          · exact h h1.symm
        · rw [e] at h; cases h
  unfold atK
  rw [key]
  exact ⟨rfl, rfl⟩
theorem uq_count {l : List (Int × Int)} {y : Int × Int} {j : Nat} (hj : l[j]? = some y) : (uq l (j + 1)).length = (uq l j).length + (if (fndK y (uq l j) 0).isSome = true then 0 else 1) := by
  rw [uq_step hj]
  split
  · simp
  · simp
/-- The oracle behind i pads asked. -/
def ordS (L : Nat) (pads : List UInt8) (l : List (Int × Int)) (i : Nat) : OrcS := ⟨L, (uq l i).length * L, pads, uq l i, (List.range (uq l i).length).map fun q => drawL pads (q * L) L, []⟩
theorem ordS_pad {L : Nat} {pads : List UInt8} {l : List (Int × Int)} {i : Nat} {x : Int × Int} : padOf (ordS L pads l i) x = drawL pads (atK l x (uq l i).length i * L) L := by
  unfold padOf atK ordS
  simp only
  cases e : fndK x (uq l i) 0 with
  | none => rfl
  | some q =>
    have := fndK_ge _ _ _ _ e
    simp only
    rw [List.getElem?_map, List.getElem?_range (by omega)]
    rfl
theorem ordS_step {L : Nat} {pads : List UInt8} {l : List (Int × Int)} {i : Nat} {x : Int × Int} (h : l[i]? = some x) : padS (ordS L pads l i) x = ordS L pads l (i + 1) := by
  unfold padS
  show (match fndK x (uq l i) 0 with | some _ => _ | none => _) = _
  cases e : fndK x (uq l i) 0 with
  | some q =>
    have eu : uq l (i + 1) = uq l i := by rw [uq_step h, if_pos (by rw [e]; rfl)]
    unfold ordS
    rw [eu]
  | none =>
    have eu : uq l (i + 1) = uq l i ++ [x] := by rw [uq_step h, if_neg (by rw [e]; simp)]
    unfold ordS
    rw [eu]
    simp only [List.length_append, List.length_singleton, List.range_succ, List.map_append, List.map_singleton]
    congr 1
    rw [Nat.succ_mul]
theorem full_cut {pads : List UInt8} {M L q : Nat} (h : q * L + L ≤ M) : ((fill pads M).take (q * L + L)).drop (q * L) = drawL pads (q * L) L := by
  apply List.ext_getElem?
  intro i
  have e : ∀ (tp : List UInt8) (n i : Nat), (fill tp n)[i]? = if i < n then some (tp[i]?.getD 0) else none := fun tp n i => by
    unfold fill
    by_cases h1 : i < n
    · rw [if_pos h1]
      by_cases h2 : i < tp.length
      · rw [List.getElem?_append_left (by rw [List.length_take]; omega), List.getElem?_take, if_pos h1, List.getElem?_eq_getElem h2]; rfl
      · rw [List.getElem?_append_right (by rw [List.length_take]; omega), List.getElem?_replicate, if_pos (by rw [List.length_take]; omega), List.getElem?_eq_none (by omega : tp.length ≤ i)]; rfl
    · rw [if_neg h1, List.getElem?_eq_none]
      have := fill_length tp n
      unfold fill at this
      omega
  unfold drawL
  rw [List.getElem?_drop, List.getElem?_take, e, e, List.getElem?_drop]
  by_cases hi : i < L
  · rw [if_pos hi, if_pos (by omega), if_pos (by omega)]
  · rw [if_neg hi, if_neg (by omega)]
theorem fresh_no {l : List (Int × Int)} {y : Int × Int} {r : Nat} {z : Int × Int} (hz : l[r]? = some z) (h : false = decide (y ∉ l.take r)) : false = decide (y ∉ l.take (r + 1)) := by
  have h2 : y ∈ l.take r := Decidable.of_not_not (fun e => by rw [decide_eq_true e] at h; cases h)
  rw [decide_eq_false]
  rw [List.take_add_one, hz]
  exact fun e => e (List.mem_append_left _ h2)
theorem fresh_yes {l : List (Int × Int)} {y : Int × Int} {r : Nat} {z : Int × Int} (hz : l[r]? = some z) (h : true = decide (y ∉ l.take r)) : (!decide (z = y)) = decide (y ∉ l.take (r + 1)) := by
  have h2 : y ∉ l.take r := of_decide_eq_true h.symm
  rw [List.take_add_one, hz]
  by_cases e : z = y
  · subst e; simp
  · have : ¬ y = z := fun e2 => e e2.symm
    simp [h2, e, this]
/-- Behind the inner loop: what is fresh is not among those before. -/
theorem fresh_end {l : List (Int × Int)} {y : Int × Int} {q : Nat} (hq : q ≤ l.length) : decide (y ∉ l.take q) = !(fndK y (uq l q) 0).isSome := by
  cases e : (fndK y (uq l q) 0).isSome with
  | true =>
    have := (uq_mem hq).1 ((fndK_mem y _ 0).1 e)
    simp [this]
  | false =>
    have : y ∉ l.take q := fun h => by
      have := (fndK_mem y (uq l q) 0).2 ((uq_mem hq).2 h)
      rw [e] at this; cases this
    simp [this]
end Go.Proofs.Ytniendffanemcaa
/- A slice of nonces that came in; SealOrder: the walk. -/
namespace Go.Proofs.Ytniendffanemcaa
open Go.ChangeShapes Go.WideShapes Go.ChangeAt Go.RowKit
open Go.ChangeMaps (open_string shut_string)
set_option linter.unusedVariables false
set_option linter.unusedSimpArgs false
set_option maxRecDepth 100000
open Go.Deep

/-- The slice reads as the nonces l. -/
structure RNn (w : World) (A : Option Addr) (n c : Nat) (l : List (Int × Int)) : Prop where
  len : l.length = n
  cap : n ≤ c
  max : c ≤ maxLen
  at_ : 0 < n → ∃ g o, A = some ⟨g, o, none⟩ ∧ ∀ i x, l[i]? = some x → w.cell? ⟨g, o + i * 2, none⟩ = some (.int .i64 x.1) ∧ w.cell? ⟨g, o + i * 2 + 1, none⟩ = some (.int .i64 x.2)
theorem RNn.below {w W : World} {A : Option Addr} {n c : Nat} {l : List (Int × Int)} (h : RNn w A n c l) (hb : Below w.heap.size w W) : RNn W A n c l :=
  ⟨h.len, h.cap, h.max, fun hn => let ⟨g, o, e, hc⟩ := h.at_ hn; ⟨g, o, e, fun i x hx => let ⟨h0, h1⟩ := hc i x hx; ⟨(hb.cell (p := ⟨g, _, none⟩) (World.block_lt_of_cell? w _ h0)).trans h0, (hb.cell (p := ⟨g, _, none⟩) (World.block_lt_of_cell? w _ h1)).trans h1⟩⟩⟩
section
variable {H : Type} {enc : TypeId × Value → H} {W : World}
theorem cells_nonce : Try.prog.cellsOf 36 = 2 := by kernel_rfl
theorem listOf2n {α : Type} {l : List α} (h : l.length = 2) : ∃ a b, l = [a, b] := by
  match l, h with
  | [a, b], _ => exact ⟨a, b, rfl⟩
theorem open_nonces {fuel : Nat} {v : Value} {x : DataW H × List MemPlace} (h : DataW.trod enc Try.prog W 0 (fun _ => true) true fuel 41 [v] = some x) :
    ∃ A n c l, v = .slice A n c ∧ RNn W A n c l := by
  obtain ⟨A, n, c, V, rfl, hr, m, hm⟩ := open_recs Try.underlying41 Try.underlying36 (by kernel_rfl) cells_nonce (by decide) h
  have each : ∀ i, i < n → ∃ e : Int × Int, V i = [.int .i64 e.1, .int .i64 e.2] := by
    intro i hi
    obtain ⟨g, o, _, hc⟩ := hr.at_ (by omega)
    obtain ⟨v0, v1, hv⟩ := listOf2n (hc i hi).1
    obtain ⟨y0, h0⟩ := hm i hi 0 _ rfl
    obtain ⟨y1, h1⟩ := hm i hi 1 _ rfl
    rw [hv] at h0 h1
    obtain ⟨n0, e0, _, _⟩ := DataW.trod_int Try.underlying3 (show DataW.trod enc Try.prog W 0 (fun _ => true) true m 3 [v0] = some y0 from h0)
    obtain ⟨n1, e1, _, _⟩ := DataW.trod_int Try.underlying3 (show DataW.trod enc Try.prog W 0 (fun _ => true) true m 3 [v1] = some y1 from h1)
    simp at e0 e1
    exact ⟨(n0, n1), by rw [hv, e0, e1]⟩
  obtain ⟨E, hE⟩ := choose_lt (α := Int × Int) each
  refine ⟨A, n, c, (List.range n).map E, rfl, ⟨by simp, hr.cap, hr.max, fun hn => ?_⟩⟩
  obtain ⟨g, o, e, hc⟩ := hr.at_ hn
  refine ⟨g, o, e, fun i e he => ?_⟩
  have hi : i < n := by have := (List.getElem?_eq_some_iff.1 he).1; simpa using this
  rw [List.getElem?_map, List.getElem?_range hi] at he
  simp only [Option.map_some, Option.some.injEq] at he
  subst he
  have hV := hE i hi
  exact ⟨(hc i hi).2 0 _ (by rw [hV]; rfl), (hc i hi).2 1 _ (by rw [hV]; rfl)⟩
end
end Go.Proofs.Ytniendffanemcaa
/- SealPlays: operations that came in are opened. -/
namespace Go.Proofs.Ytniendffanemcaa
open Go.ChangeShapes Go.WideShapes Go.ChangeAt Go.RowKit
open Go.ChangeMaps (open_string shut_string)
set_option linter.unusedVariables false
set_option linter.unusedSimpArgs false
set_option maxRecDepth 100000
open Go.Deep

section
variable {H : Type} {enc : TypeId × Value → H} {P : Program} {W : World}
theorem open_rows {t e : TypeId} {K fuel : Nat} {v : Value} {x : DataW H × List MemPlace} (ht : P.underlying t = some (.slice e)) (hC : P.cellsOf e = K) (h0 : 0 < K)
    (h : DataW.trod enc P W 0 (fun _ => true) true fuel t [v] = some x) :
    ∃ A n c V, v = .slice A n c ∧ RW W A n c K V ∧ ∃ m, ∀ i, i < n → ∃ y, DataW.trod enc P W 0 (fun _ => true) true m e (V i) = some y := by
  rcases open_slice ht h with ⟨hcs, _⟩ | ⟨a, len, cap, m, n, D, Pl, hcs, _, hl, hm, hmm, _, hx⟩
  · simp at hcs
    exact ⟨none, 0, 0, fun _ => [], hcs, RW.none_ W _ _, 0, fun i hi => absurd hi (by omega)⟩
  · simp at hcs
    simp only [if_true] at hmm
    subst hmm
    obtain ⟨V, hV⟩ := choose_lt (α := List Value) (p := fun i cs' => W.cells? 0 (a.add (i * P.cellsOf e)) (P.cellsOf e) = some cs' ∧ DataW.trod enc P W 0 (fun _ => true) true n e cs' = some (D i, Pl i)) (fun i hi => hx i hi)
    have hrow : ∀ i, i < m → (V i).length = K ∧ ∀ f, f < K → W.cell? (a.add (i * K + f)) = (V i)[f]? := by
      intro i hi
      obtain ⟨_, hln, hc⟩ := World.cells?_some (hV i hi).1
      rw [hC] at hln hc
      refine ⟨hln, fun f hf => ?_⟩
      rw [← hc f hf]
      obtain ⟨ab, ao, sp⟩ := a
      congr 1
      rw [Addr.add_add]
    refine ⟨some a, len, m, V, hcs, ⟨hl, hm, (fun h => by cases h), fun hn => ?_⟩, n, fun i hi => ⟨_, (hV i (by omega)).2⟩⟩
    obtain ⟨ab, ao, spot⟩ := a
    have h00 := (hrow 0 (by omega)).2 0 h0
    have hl0 := (hrow 0 (by omega)).1
    rw [List.getElem?_eq_getElem (by omega)] at h00
    have hspot : spot = none := by simpa [Addr.add] using World.cell?_spot h00
    subst hspot
    refine ⟨ab, ao, rfl, fun i hi => ⟨(hrow i (by omega)).1, fun f v hv => ?_⟩⟩
    have hf : f < K := by have := (List.getElem?_eq_some_iff.1 hv).1; have := (hrow i (by omega)).1; omega
    have := (hrow i (by omega)).2 f hf
    rw [hv, Addr.add_lit, ← Nat.add_assoc] at this
    exact this
end
section
variable {H : Type} {enc : TypeId × Value → H} {W : World}
theorem cells_op6 : Try.prog.cellsOf 65 = 5 := by kernel_rfl
theorem list5 {α : Type} {l : List α} (h : l.length = 5) : ∃ a b c d e, l = [a, b, c, d, e] := by
  match l, h with
  | [a, b, c, d, e], _ => exact ⟨a, b, c, d, e, rfl⟩
theorem cells_i6 : Try.prog.cellsOf 3 = 1 := by kernel_rfl
theorem cells_s6 : Try.prog.cellsOf 22 = 1 := by kernel_rfl
theorem open_ops6 {base : Nat} {v : Value} {d : DataW H} {p : List MemPlace} (hval : Value.okWide Try.prog W .any base 55 v) (h : DataW.Trod enc Try.prog W 0 (fun _ => true) true 55 v d p) :
    ∃ A n c L, v = .slice A n c ∧ RS W A n c L := by
  obtain ⟨a1, len, cap, rfl⟩ := okWide_slice Try.underlying55 hval
  obtain ⟨fuel, hf⟩ := h
  obtain ⟨A, n, c, V, hv0, hr, m, hm⟩ := open_rows (v := .slice a1 len cap) Try.underlying55 cells_op6 (by decide) hf
  have each : ∀ i, i < n → ∃ q : OpS, ∃ B m' k, V i = [.int .i64 q.kind, .int .i64 q.k, .int .i64 q.g, .int .i64 q.c, .slice B m' k] ∧ RB W B m' k q.b := by
    intro i hi
    obtain ⟨g, o, _, hc⟩ := hr.at_ (by omega)
    obtain ⟨v0, v1, v2, v3, v4, hv⟩ := list5 (hc i hi).1
    obtain ⟨y, hy⟩ := hm i hi
    rw [hv] at hy
    obtain ⟨xs, m1, _, _, _, hxl, hg⟩ := DataW.trod_struct Try.underlying65 hy
    have hxl4 : xs.length = 4 := hxl
    have g0 : DataW.trod enc Try.prog W 0 (fun _ => true) true m1 3 (([v0, v1, v2, v3, v4].drop 0).take (Try.prog.cellsOf 3)) = xs[0]? := hg 0 _ rfl
    have g1 : DataW.trod enc Try.prog W 0 (fun _ => true) true m1 3 (([v0, v1, v2, v3, v4].drop 1).take (Try.prog.cellsOf 3)) = xs[1]? := hg 1 _ rfl
    have g2 : DataW.trod enc Try.prog W 0 (fun _ => true) true m1 36 (([v0, v1, v2, v3, v4].drop 2).take (Try.prog.cellsOf 36)) = xs[2]? := hg 2 _ rfl
    have g3 : DataW.trod enc Try.prog W 0 (fun _ => true) true m1 22 (([v0, v1, v2, v3, v4].drop 4).take (Try.prog.cellsOf 22)) = xs[3]? := hg 3 _ rfl
    rw [cells_i6, List.getElem?_eq_getElem (by omega)] at g0 g1
    rw [cells_nonce, List.getElem?_eq_getElem (by omega)] at g2
    rw [cells_s6, List.getElem?_eq_getElem (by omega)] at g3
    obtain ⟨n0, e0, _, _⟩ := DataW.trod_int Try.underlying3 (show DataW.trod enc Try.prog W 0 (fun _ => true) true m1 3 [v0] = some _ from g0)
    obtain ⟨n1, e1, _, _⟩ := DataW.trod_int Try.underlying3 (show DataW.trod enc Try.prog W 0 (fun _ => true) true m1 3 [v1] = some _ from g1)
    obtain ⟨ys, m2, _, _, _, hyl, hn⟩ := DataW.trod_struct Try.underlying36 (show DataW.trod enc Try.prog W 0 (fun _ => true) true m1 36 [v2, v3] = some _ from g2)
    have hyl2 : ys.length = 2 := hyl
    have q0 : DataW.trod enc Try.prog W 0 (fun _ => true) true m2 3 (([v2, v3].drop 0).take (Try.prog.cellsOf 3)) = ys[0]? := hn 0 _ rfl
    have q1 : DataW.trod enc Try.prog W 0 (fun _ => true) true m2 3 (([v2, v3].drop 1).take (Try.prog.cellsOf 3)) = ys[1]? := hn 1 _ rfl
    rw [cells_i6, List.getElem?_eq_getElem (by omega)] at q0 q1
    obtain ⟨n2, e2, _, _⟩ := DataW.trod_int Try.underlying3 (show DataW.trod enc Try.prog W 0 (fun _ => true) true m2 3 [v2] = some _ from q0)
    obtain ⟨n3, e3, _, _⟩ := DataW.trod_int Try.underlying3 (show DataW.trod enc Try.prog W 0 (fun _ => true) true m2 3 [v3] = some _ from q1)
    simp at e0 e1 e2 e3
    obtain ⟨B, m', k, l, e4, hE⟩ := open_bytes1 (v := v4) (show DataW.trod enc Try.prog W 0 (fun _ => true) true m1 22 [v4] = some _ from g3)
    exact ⟨⟨n0, n1, n2, n3, l⟩, B, m', k, by rw [hv, e0, e1, e2, e3, e4], hE⟩
  obtain ⟨Q, hQ⟩ := choose_lt (α := OpS) each
  refine ⟨A, n, c, (List.range n).map Q, hv0, ⟨by simp, hr.cap, hr.max, fun hn => ?_⟩⟩
  obtain ⟨g, o, e, hc⟩ := hr.at_ hn
  refine ⟨g, o, e, fun i q hq => ?_⟩
  have hi : i < n := by have := (List.getElem?_eq_some_iff.1 hq).1; simpa using this
  rw [List.getElem?_map, List.getElem?_range hi] at hq
  simp only [Option.map_some, Option.some.injEq] at hq
  subst hq
  obtain ⟨B, m', k, hV, hE⟩ := hQ i hi
  exact ⟨B, m', k, hE, (hc i hi).2 0 _ (by rw [hV]; rfl), (hc i hi).2 1 _ (by rw [hV]; rfl), (hc i hi).2 2 _ (by rw [hV]; rfl), (hc i hi).2 3 _ (by rw [hV]; rfl), (hc i hi).2 4 _ (by rw [hV]; rfl)⟩
end
end Go.Proofs.Ytniendffanemcaa
/- SealPlays: both oracles and what was made, side by side. -/
namespace Go.Proofs.Ytniendffanemcaa
open Go.ChangeShapes Go.WideShapes Go.ChangeAt Go.RowKit
open Go.ChangeMaps (open_string shut_string)
set_option linter.unusedVariables false
set_option linter.unusedSimpArgs false
set_option maxRecDepth 100000

theorem DO.keeps2 {w w' : World} {B : Nat} {v : Value} {Ls : List (List UInt8)} {vs : List Value} {F : Nat → Prop} (h : DO w B v Ls vs) (hk : Keeps F w w') (h1 : ∀ j, v.ownBlock = some j → ¬ F j) (h2 : ∀ x ∈ vs, ∀ j, x.ownBlock = some j → ¬ F j) : DO w' B v Ls vs :=
  ⟨h.row.kept hk h1, h.len, fun i x l e1 e2 => ⟨OB.kept (h.each i x l e1 e2).1 hk (h2 x (List.mem_of_getElem? e1)), (h.each i x l e1 e2).2⟩⟩
structure Tri (W : World) (N0 : Nat) (X Y : Nat → Prop) (p t bm : Nat) (A : Option Addr) (n c : Nat) (z : Int) (vp : Value) (vs : List Value) (S1 : OrcS) (q u br : Nat) (A2 : Option Addr) (n2 c2 : Nat) (vp2 vr2 : Value) (vs2 : List Value) (S2 : OrcS) (vm : Value) (made : List (List UInt8)) (vsm : List Value) : Prop where
  o : Orc W p t bm A n c z vp vs S1
  r : Rfc W q u br A2 n2 c2 vp2 vr2 vs2 S2
  m : DO W N0 vm made vsm
  xp : X p
  xt : X t
  xb : X bm
  xA : ∀ a, A = some a → X a.block
  xv : ∀ j, vp.ownBlock = some j → X j
  xs : ∀ x ∈ vs, ∀ j, x.ownBlock = some j → X j
  yq : Y q
  yu : Y u
  yb : Y br
  yA : 0 < n2 → ∀ a, A2 = some a → a.block < N0
  yv : ∀ j, vp2.ownBlock = some j → Y j
  yr : ∀ j, vr2.ownBlock = some j → Y j
  ys : ∀ x ∈ vs2, ∀ j, x.ownBlock = some j → Y j
  xy : ∀ i, X i → Y i → False
  xl : ∀ i, X i → i < W.heap.size
  xn : N0 ≤ t
  yl : ∀ i, Y i → N0 ≤ i ∧ i < W.heap.size
  zm : ∀ j, vm.ownBlock = some j → ¬ X j ∧ ¬ Y j
  zs : ∀ x ∈ vsm, ∀ j, x.ownBlock = some j → ¬ X j ∧ ¬ Y j
namespace Tri
variable {W W' : World} {N0 : Nat} {X Y : Nat → Prop} {p t bm : Nat} {A : Option Addr} {n c : Nat} {z : Int} {vp : Value} {vs : List Value} {S1 : OrcS} {q u br : Nat} {A2 : Option Addr} {n2 c2 : Nat} {vp2 vr2 : Value} {vs2 : List Value} {S2 : OrcS} {vm : Value} {made : List (List UInt8)} {vsm : List Value}
theorem below (h : Tri W N0 X Y p t bm A n c z vp vs S1 q u br A2 n2 c2 vp2 vr2 vs2 S2 vm made vsm) (hb : Below W.heap.size W W') : Tri W' N0 X Y p t bm A n c z vp vs S1 q u br A2 n2 c2 vp2 vr2 vs2 S2 vm made vsm :=
  ⟨h.o.below hb, h.r.below hb, h.m.below hb, h.xp, h.xt, h.xb, h.xA, h.xv, h.xs, h.yq, h.yu, h.yb, h.yA, h.yv, h.yr, h.ys, h.xy, fun i hi => Nat.lt_of_lt_of_le (h.xl i hi) hb.size, h.xn, fun i hi => ⟨(h.yl i hi).1, Nat.lt_of_lt_of_le (h.yl i hi).2 hb.size⟩, h.zm, h.zs⟩
theorem mlt (h : Tri W N0 X Y p t bm A n c z vp vs S1 q u br A2 n2 c2 vp2 vr2 vs2 S2 vm made vsm) : (∀ j, vm.ownBlock = some j → j < W.heap.size) ∧ ∀ x ∈ vsm, ∀ j, x.ownBlock = some j → j < W.heap.size :=
  ⟨fun j hj => (h.m.row.lt j hj).2, fun x hx j hj => by
    obtain ⟨i, hi⟩ := List.mem_iff_getElem?.1 hx
    obtain ⟨l, hl⟩ : ∃ l, made[i]? = some l := ⟨_, List.getElem?_eq_getElem (by rw [← h.m.len]; exact (List.getElem?_eq_some_iff.1 hi).1)⟩
    exact ((h.m.each i x l hi hl).1.lt j hj).2⟩
/-- A step of the oracle. -/
theorem step1 {F : Nat → Prop} {vp' : Value} {vs' : List Value} {S' : OrcS} (h : Tri W N0 X Y p t bm A n c z vp vs S1 q u br A2 n2 c2 vp2 vr2 vs2 S2 vm made vsm) (hk : Keeps F W W') (hF : ∀ j, F j → X j) (hF2 : ∀ j, F j → N0 ≤ j) (ho : Orc W' p t bm A n c z vp' vs' S')
    (hv : ∀ j, vp'.ownBlock = some j → vp.ownBlock = some j ∨ W.heap.size ≤ j) (hx : ∀ x ∈ vs', x ∈ vs ∨ ∃ g1, x.ownBlock = some g1 ∧ W.heap.size ≤ g1) (hN : N0 ≤ W.heap.size) :
    Tri W' N0 (fun i => X i ∨ (W.heap.size ≤ i ∧ i < W'.heap.size)) Y p t bm A n c z vp' vs' S' q u br A2 n2 c2 vp2 vr2 vs2 S2 vm made vsm := by
  have hz := hk.size
  have ny : ∀ j, Y j → ¬ F j := fun j hj e => h.xy j (hF j e) hj
  refine ⟨ho, h.r.keeps hk (ny _ h.yq) (ny _ h.yu) (ny _ h.yb) (fun hn a ha e => ?_) (fun j hj => ny j (h.yv j hj)) (fun j hj => ny j (h.yr j hj)) (fun x hx j hj => ny j (h.ys x hx j hj)), h.m.keeps2 hk (fun j hj e => (h.zm j hj).1 (hF j e)) (fun x hx j hj e => (h.zs x hx j hj).1 (hF j e)), .inl h.xp, .inl h.xt, .inl h.xb, fun a ha => .inl (h.xA a ha), fun j hj => ?_, fun x hx' j hj => ?_, h.yq, h.yu, h.yb, h.yA, h.yv, h.yr, h.ys, fun i hi hy => ?_, fun i hi => ?_, h.xn, fun i hi => ⟨(h.yl i hi).1, Nat.lt_of_lt_of_le (h.yl i hi).2 hz⟩, fun j hj => ⟨fun e => ?_, (h.zm j hj).2⟩, fun x hx j hj => ⟨fun e => ?_, (h.zs x hx j hj).2⟩⟩
  · have := h.yA hn a ha; have := hF2 _ e; omega
  · rcases hv j hj with e | e
    · exact .inl (h.xv j e)
    · exact .inr ⟨e, (ho.pl.lt j hj).2⟩
  · have hlt := (ho.vlt x hx' j hj).2.1
    rcases hx x hx' with e | ⟨g1, e1, e2⟩
    · exact .inl (h.xs x e j hj)
    · rw [e1] at hj; injection hj with hj; exact .inr ⟨by omega, hlt⟩
  · rcases hi with hi | hi
    · exact h.xy i hi hy
    · have := (h.yl i hy).2; omega
  · rcases hi with hi | hi
    · exact Nat.lt_of_lt_of_le (h.xl i hi) hz
    · exact hi.2
  · rcases e with e | e
    · exact (h.zm j hj).1 e
    · have := h.mlt.1 j hj; omega
  · rcases e with e | e
    · exact (h.zs x hx j hj).1 e
    · have := h.mlt.2 x hx j hj; omega
/-- A step of the document's oracle; v is what it gave. -/
theorem step2 {F : Nat → Prop} {vp' vr' v : Value} {vs' : List Value} {S' : OrcS} (h : Tri W N0 X Y p t bm A n c z vp vs S1 q u br A2 n2 c2 vp2 vr2 vs2 S2 vm made vsm) (hk : Keeps F W W') (hF : ∀ j, F j → Y j) (hr : Rfc W' q u br A2 n2 c2 vp' vr' vs' S')
    (hv : ∀ j, vp'.ownBlock = some j → vp2.ownBlock = some j ∨ W.heap.size ≤ j) (hv2 : ∀ j, vr'.ownBlock = some j → vr2.ownBlock = some j ∨ W.heap.size ≤ j) (hx : ∀ x ∈ vs', x ∈ vs2 ∨ ∀ j, x.ownBlock = some j → W.heap.size ≤ j) (hN : N0 ≤ W.heap.size)
    (hn : ∀ j, v.ownBlock = some j → W.heap.size ≤ j ∧ vp'.ownBlock ≠ some j ∧ vr'.ownBlock ≠ some j ∧ ∀ x ∈ vs', x.ownBlock ≠ some j) :
    Tri W' N0 X (fun i => Y i ∨ (W.heap.size ≤ i ∧ i < W'.heap.size ∧ v.ownBlock ≠ some i)) p t bm A n c z vp vs S1 q u br A2 n2 c2 vp' vr' vs' S' vm made vsm ∧ ∀ j, v.ownBlock = some j → ¬ X j ∧ ¬ (Y j ∨ (W.heap.size ≤ j ∧ j < W'.heap.size ∧ v.ownBlock ≠ some j)) := by
  have hz := hk.size
  have nx : ∀ j, X j → ¬ F j := fun j hj e => h.xy j hj (hF j e)
  refine ⟨⟨h.o.keeps3 hk (nx _ h.xp) (nx _ h.xt) (nx _ h.xb) (fun a ha => nx _ (h.xA a ha)) (fun j hj => nx j (h.xv j hj)) (fun x hx j hj => nx j (h.xs x hx j hj)), hr, h.m.keeps2 hk (fun j hj e => (h.zm j hj).2 (hF j e)) (fun x hx j hj e => (h.zs x hx j hj).2 (hF j e)), h.xp, h.xt, h.xb, h.xA, h.xv, h.xs, .inl h.yq, .inl h.yu, .inl h.yb, h.yA, fun j hj => ?_, fun j hj => ?_, fun x hx' j hj => ?_, fun i hi hy => ?_, fun i hi => Nat.lt_of_lt_of_le (h.xl i hi) hz, h.xn, fun i hi => ?_, fun j hj => ⟨(h.zm j hj).1, fun e => ?_⟩, fun x hx j hj => ⟨(h.zs x hx j hj).1, fun e => ?_⟩⟩, fun j hj => ⟨fun e => ?_, fun e => ?_⟩⟩
  · rcases hv j hj with e | e
    · exact .inl (h.yv j e)
    · exact .inr ⟨e, (hr.pl.lt j hj).2, fun e2 => (hn j e2).2.1 hj⟩
  · rcases hv2 j hj with e | e
    · exact .inl (h.yr j e)
    · exact .inr ⟨e, (hr.row.row.lt j hj).2, fun e2 => (hn j e2).2.2.1 hj⟩
  · rcases hx x hx' with e | e
    · exact .inl (h.ys x e j hj)
    · exact .inr ⟨e j hj, (hr.vlt x hx' j hj).2.1, fun e2 => (hn j e2).2.2.2 x hx' hj⟩
  · rcases hy with hy | hy
    · exact h.xy i hi hy
    · have := h.xl i hi; omega
  · rcases hi with hi | hi
    · exact ⟨(h.yl i hi).1, Nat.lt_of_lt_of_le (h.yl i hi).2 hz⟩
    · exact ⟨by omega, hi.2.1⟩
  · rcases e with e | e
    · exact (h.zm j hj).2 e
    · have := h.mlt.1 j hj; omega
  · rcases e with e | e
    · exact (h.zs x hx j hj).2 e
    · have := h.mlt.2 x hx j hj; omega
  · have := h.xl j e; have := (hn j hj).1; omega
  · rcases e with e | e
    · have := (h.yl j e).2; have := (hn j hj).1; omega
    · exact e.2.2 hj
/-- One more that was made. -/
theorem stepm {vm' : Value} {l : List UInt8} {x : Value} (h : Tri W N0 X Y p t bm A n c z vp vs S1 q u br A2 n2 c2 vp2 vr2 vs2 S2 vm made vsm) (hk : Keeps (fun k => vm.ownBlock = some k) W W') (hm : DO W' N0 vm' (made ++ [l]) (vsm ++ [x]))
    (hv : vm'.ownBlock = vm.ownBlock ∨ vm'.ownBlock = some W.heap.size) (hx : ∀ j, x.ownBlock = some j → ¬ X j ∧ ¬ Y j) :
    Tri W' N0 X Y p t bm A n c z vp vs S1 q u br A2 n2 c2 vp2 vr2 vs2 S2 vm' (made ++ [l]) (vsm ++ [x]) := by
  have hz := hk.size
  have nx : ∀ j, X j → ¬ (vm.ownBlock = some j) := fun j hj e => (h.zm j e).1 hj
  have ny : ∀ j, Y j → ¬ (vm.ownBlock = some j) := fun j hj e => (h.zm j e).2 hj
  refine ⟨h.o.keeps3 hk (nx _ h.xp) (nx _ h.xt) (nx _ h.xb) (fun a ha => nx _ (h.xA a ha)) (fun j hj => nx j (h.xv j hj)) (fun x hx j hj => nx j (h.xs x hx j hj)), h.r.keeps hk (ny _ h.yq) (ny _ h.yu) (ny _ h.yb) (fun hn a ha e => ?_) (fun j hj => ny j (h.yv j hj)) (fun j hj => ny j (h.yr j hj)) (fun x hx j hj => ny j (h.ys x hx j hj)), hm, h.xp, h.xt, h.xb, h.xA, h.xv, h.xs, h.yq, h.yu, h.yb, h.yA, h.yv, h.yr, h.ys, h.xy, fun i hi => Nat.lt_of_lt_of_le (h.xl i hi) hz, h.xn, fun i hi => ⟨(h.yl i hi).1, Nat.lt_of_lt_of_le (h.yl i hi).2 hz⟩, fun j hj => ?_, fun y hy j hj => ?_⟩
  · have := h.yA hn a ha; have := (h.m.row.lt _ e).1; omega
  · rcases hv with e | e
    · exact h.zm j (e ▸ hj)
    · rw [e] at hj; injection hj with hj
      exact ⟨fun e => by have := h.xl j e; omega, fun e => by have := (h.yl j e).2; omega⟩
  · rcases List.mem_append.1 hy with hy | hy
    · exact h.zs y hy j hj
    · simp at hy; subst hy; exact hx j hj
end Tri
/-- How far the states have grown. -/
theorem sealS_grow (S : OrcS) (g k : Int) (a : List UInt8) : (sealS S g k a).d ≤ S.d + S.L ∧ (sealS S g k a).ks.length ≤ S.ks.length + 1 ∧ (sealS S g k a).plain.length ≤ S.plain.length + a.length ∧ (sealS S g k a).L = S.L := by
  unfold sealS padS
  simp only
  split
  · exact ⟨Nat.le_add_right _ _, Nat.le_succ _, by simp, rfl⟩
  · exact ⟨Nat.le_refl _, by simp, by simp, rfl⟩
theorem padS_grow (S : OrcS) (k : Int × Int) : (padS S k).d ≤ S.d + S.L ∧ (padS S k).ks.length ≤ S.ks.length + 1 ∧ (padS S k).plain.length ≤ S.plain.length ∧ (padS S k).L = S.L := by
  unfold padS
  split
  · exact ⟨Nat.le_add_right _ _, Nat.le_succ _, Nat.le_refl _, rfl⟩
  · exact ⟨Nat.le_refl _, by simp, Nat.le_refl _, rfl⟩
end Go.Proofs.Ytniendffanemcaa
/- SealPlays: what the ways of a round leave. -/
namespace Go.Proofs.Ytniendffanemcaa
open Go.ChangeShapes Go.WideShapes Go.ChangeAt Go.RowKit
open Go.ChangeMaps (open_string shut_string)
set_option linter.unusedVariables false
set_option linter.unusedSimpArgs false
set_option maxRecDepth 100000

theorem sealE_len {S : OrcS} {g k : Int} {a : List UInt8} (hE : sealE S g k a = 0) : a.length = S.L := by
  unfold sealE at hE
  by_cases h0 : (amongB g && amongB k) = false ∨ g = 0
  · rw [if_pos h0] at hE; cases hE
  · rw [if_neg h0] at hE
    by_cases e : a.length = S.L
    · exact e
    · rw [if_pos e] at hE; cases hE
theorem rb_blk {w : World} {A : Option Addr} {n c : Nat} {l : List UInt8} (h : RB w A n c l) (hn : 0 < n) (a : Addr) (ha : A = some a) : a.block < w.heap.size := by
  obtain ⟨g', o', e, hcc⟩ := h.at_ hn
  rw [ha] at e
  injection e with e
  obtain ⟨y, hy⟩ : ∃ y, l[0]? = some y := ⟨_, List.getElem?_eq_getElem (by rw [h.len]; exact hn)⟩
  have := World.block_lt_of_cell? w _ (hcc 0 y hy)
  rw [e]
  exact this
/-- A state to which the pad of k adds P at most. -/
structure PadOk (P : OrcS) (k : Int × Int) (T : List UInt8) (S : OrcS) : Prop where
  of : padOf S k = T
  s : padS S k = P
  d : S.d ≤ 1000000000000
  ks : S.ks.length ≤ 1000
  fin : S.d = P.d → S = P
theorem padOk_self (S : OrcS) (k : Int × Int) (hk : S.ks.length = S.ps.length) (h1 : 1 ≤ S.L) (h2 : S.L ≤ 100) (hd : S.d ≤ 1000000) (hl : S.ks.length ≤ 900) : PadOk (padS S k) k (padOf S k) S ∧ PadOk (padS S k) k (padOf S k) (padS S k) := by
  cases hf : fndK k S.ks 0 with
  | some j =>
    have e : padS S k = S := by unfold padS; rw [hf]
    rw [e]
    have : PadOk S k (padOf S k) S := ⟨rfl, e, by omega, by omega, fun _ => rfl⟩
    exact ⟨this, this⟩
  | none =>
    have e : padS S k = { S with d := S.d + S.L, ks := S.ks ++ [k], ps := S.ps ++ [drawL S.tape S.d S.L] } := by unfold padS; rw [hf]
    have f : fndK k (S.ks ++ [k]) 0 = some S.ks.length := by have := fndK_app k S.ks 0 hf; simpa using this
    have o1 : padOf S k = drawL S.tape S.d S.L := by unfold padOf; rw [hf]
    have e2 : padS (padS S k) k = padS S k := by
      rw [e]
      show (match fndK k (S.ks ++ [k]) 0 with | some _ => _ | none => _) = _
      rw [f]
    have o2 : padOf (padS S k) k = padOf S k := by
      rw [e, o1]
      show (match fndK k (S.ks ++ [k]) 0 with | some j => ((S.ps ++ [drawL S.tape S.d S.L])[j]?).getD [] | none => _) = _
      rw [f, hk]
      simp
    refine ⟨⟨rfl, rfl, by omega, by omega, fun h => ?_⟩, ⟨o2, e2, ?_, ?_, fun _ => rfl⟩⟩
    · rw [e] at h
      simp only at h
      omega
    · rw [e]; simp only; omega
    · rw [e]; simp only [List.length_append, List.length_singleton]; omega
theorem padS_known (S : OrcS) (k : Int × Int) : (fndK k (padS S k).ks 0).isSome = true := by
  cases hf : fndK k S.ks 0 with
  | some j =>
    have e : padS S k = S := by unfold padS; rw [hf]
    rw [e, hf]; rfl
  | none =>
    have e : padS S k = { S with d := S.d + S.L, ks := S.ks ++ [k], ps := S.ps ++ [drawL S.tape S.d S.L] } := by unfold padS; rw [hf]
    rw [e]
    show (fndK k (S.ks ++ [k]) 0).isSome = true
    rw [fndK_app k S.ks 0 hf]; rfl
/-- What the document's Seal leaves. -/
def SealP (w1 w' : World) (q u br : Nat) (A : Option Addr) (n c : Nat) (vp vr : Value) (vs : List Value) (S' : OrcS) (T : List UInt8) (v vp' vr' : Value) (vs' : List Value) : Prop :=
  OB w' w1.heap.size v T ∧ Rfc w' q u br A n c vp' vr' vs' S' ∧ Keeps (fun j => j = q ∨ j = u ∨ j = br ∨ vp.ownBlock = some j ∨ vr.ownBlock = some j) w1 w' ∧ (∀ j, vp'.ownBlock = some j → vp.ownBlock = some j ∨ w1.heap.size ≤ j) ∧ (∀ j, vr'.ownBlock = some j → vr.ownBlock = some j ∨ w1.heap.size ≤ j) ∧ (∀ x ∈ vs', x ∈ vs ∨ ∀ j, x.ownBlock = some j → w1.heap.size ≤ j) ∧ (∀ j, v.ownBlock = some j → vp'.ownBlock ≠ some j ∧ vr'.ownBlock ≠ some j ∧ ∀ x ∈ vs', x.ownBlock ≠ some j)
theorem SealP.below {w1 w w' : World} {q u br : Nat} {A : Option Addr} {n c : Nat} {vp vr : Value} {vs : List Value} {S' : OrcS} {T : List UInt8} {v vp' vr' : Value} {vs' : List Value} (h : SealP w1 w q u br A n c vp vr vs S' T v vp' vr' vs') (hb : Below w.heap.size w w') : SealP w1 w' q u br A n c vp vr vs S' T v vp' vr' vs' :=
  ⟨OB.below h.1 hb, h.2.1.below hb, h.2.2.1.then_below hb, h.2.2.2.1, h.2.2.2.2.1, h.2.2.2.2.2.1, h.2.2.2.2.2.2⟩
def Free.FactR.sealT (W : World) (q u br : Nat) (A : Option Addr) (n c : Nat) (vp vr : Value) (vs : List Value) (S' : OrcS) (T : List UInt8) : Free.FactR (fun w w' => Below w.heap.size w w') :=
  { f := fun x w' => ∃ v vp' vr' vs' w1, x = .tuple #[v, .int .i64 0] ∧ Below W.heap.size W w1 ∧ SealP w1 w' q u br A n c vp vr vs S' T v vp' vr' vs', stab := fun _ _ _ ⟨v, vp', vr', vs', w1, e, h0, h1⟩ hb => ⟨v, vp', vr', vs', w1, e, h0, h1.below hb⟩ }
def Free.FactR.sealV (W : World) (q u br : Nat) (A : Option Addr) (n c : Nat) (vp vr : Value) (vs : List Value) (S' : OrcS) (T : List UInt8) : Free.FactR (fun w w' => Below w.heap.size w w') :=
  { f := fun v w' => ∃ vp' vr' vs' w1, Below W.heap.size W w1 ∧ SealP w1 w' q u br A n c vp vr vs S' T v vp' vr' vs', stab := fun _ _ _ ⟨vp', vr', vs', w1, h0, h1⟩ hb => ⟨vp', vr', vs', w1, h0, h1.below hb⟩ }
namespace Tri
variable {W W' : World} {N0 : Nat} {X Y : Nat → Prop} {p t bm : Nat} {A : Option Addr} {n c : Nat} {z : Int} {vp : Value} {vs : List Value} {S1 : OrcS} {q u br : Nat} {A2 : Option Addr} {n2 c2 : Nat} {vp2 vr2 : Value} {vs2 : List Value} {S2 : OrcS} {vm : Value} {made : List (List UInt8)} {vsm : List Value}
theorem seal2 {w1 : World} {S' : OrcS} {T : List UInt8} {v vp' vr' : Value} {vs' : List Value} (h : Tri W N0 X Y p t bm A n c z vp vs S1 q u br A2 n2 c2 vp2 vr2 vs2 S2 vm made vsm) (hb : Below W.heap.size W w1) (hN : N0 ≤ W.heap.size) (hp : SealP w1 W' q u br A2 n2 c2 vp2 vr2 vs2 S' T v vp' vr' vs') :
    Tri W' N0 X (fun i => Y i ∨ (w1.heap.size ≤ i ∧ i < W'.heap.size ∧ v.ownBlock ≠ some i)) p t bm A n c z vp vs S1 q u br A2 n2 c2 vp' vr' vs' S' vm made vsm ∧ (∀ j, v.ownBlock = some j → ¬ X j ∧ ¬ (Y j ∨ (w1.heap.size ≤ j ∧ j < W'.heap.size ∧ v.ownBlock ≠ some j))) ∧ Keeps Y W W' ∧ OB W' W.heap.size v T := by
  obtain ⟨h1, h2, h3, h4, h5, h6, h7⟩ := hp
  have hz := hb.size
  have hF : ∀ j, (j = q ∨ j = u ∨ j = br ∨ vp2.ownBlock = some j ∨ vr2.ownBlock = some j) → Y j := fun j e => by
    rcases e with e | e | e | e | e
    · exact e ▸ h.yq
    · exact e ▸ h.yu
    · exact e ▸ h.yb
    · exact h.yv j e
    · exact h.yr j e
  obtain ⟨r1, r2⟩ := (h.below hb).step2 (v := v) h3 hF h2 h4 h5 h6 (by omega) (fun j hj => ⟨(h1.lt j hj).1, (h7 j hj).1, (h7 j hj).2.1, (h7 j hj).2.2⟩)
  exact ⟨r1, r2, (Keeps.of_below hb).trans h3 (fun i hi => .inl (hF i hi)), h1.mono (fun j hj => by have := (h1.lt j hj).1; omega)⟩
theorem more {W3 W4 : World} {B : Nat} {T : List UInt8} {x vm' : Value} (h : Tri W N0 X Y p t bm A n c z vp vs S1 q u br A2 n2 c2 vp2 vr2 vs2 S2 vm made vsm) (hx : OB W B x T) (hB : N0 ≤ B) (hBm : ∀ j, vm.ownBlock = some j → j < B) (hxy : ∀ j, x.ownBlock = some j → ¬ X j ∧ ¬ Y j) (hb : Below W.heap.size W W3)
    (hs : SO W4 N0 vm' (vsm ++ [x])) (hk : Keeps (fun k => vm.ownBlock = some k) W3 W4) (hv : vm'.ownBlock = vm.ownBlock ∨ vm'.ownBlock = some W3.heap.size) : Tri W4 N0 X Y p t bm A n c z vp vs S1 q u br A2 n2 c2 vp2 vr2 vs2 S2 vm' (made ++ [T]) (vsm ++ [x]) :=
  (h.below hb).stepm hk ((h.below hb).m.snoc hs hk hv (OB.below (hx.mono (fun j hj => by have := (hx.lt j hj).1; omega)) hb) (fun g hg e => by have := (hx.lt g hg).1; have := hBm g e; omega)) hv hxy
end Tri
/-- Either oracle may have given its pad already. -/
def PadI (W : World) (N0 bo p t bm : Nat) (A : Option Addr) (n c : Nat) (z : Int) (vp : Value) (q u br : Nat) (A2 : Option Addr) (n2 c2 : Nat) (vp2 vm : Value) (made : List (List UInt8)) (vsm : List Value) (P : OrcS) (k : Int × Int) (T : List UInt8) (w' : World) : Prop :=
  ∃ S1 S2 X Y vs vr vs2, PadOk P k T S1 ∧ PadOk P k T S2 ∧ Tri w' N0 X Y p t bm A n c z vp vs S1 q u br A2 n2 c2 vp2 vr vs2 S2 vm made vsm ∧ Keeps (fun j => N0 ≤ j ∧ j ≠ bo) W w' ∧ ¬ X bo ∧ ¬ Y bo ∧ ((∀ j, vr.ownBlock = some j → j < W.heap.size) ∨ (fndK k S2.ks 0).isSome = true)
def PadR (N t u : Nat) (P : OrcS) (w w' : World) : Prop := Keeps (fun j => j < N) w w' ∧ (w.cell? ⟨t, 0, none⟩ = some (.int .i64 P.d) → w'.cell? ⟨t, 0, none⟩ = some (.int .i64 P.d)) ∧ (w.cell? ⟨u, 1, none⟩ = some (.int .i64 P.d) → w'.cell? ⟨u, 1, none⟩ = some (.int .i64 P.d))
theorem PadR.of_below {N t u : Nat} {P : OrcS} {w w' : World} (h : Below w.heap.size w w') : PadR N t u P w w' :=
  ⟨Keeps.of_below h, fun e => (h.cell (p := ⟨t, 0, none⟩) (World.block_lt_of_cell? w _ e)).trans e, fun e => (h.cell (p := ⟨u, 1, none⟩) (World.block_lt_of_cell? w _ e)).trans e⟩
def Free.FactR.pad1 (N t u : Nat) (P : OrcS) (T : List UInt8) : Free.FactR (PadR N t u P) :=
  { f := fun v w => OB w N v T ∧ w.cell? ⟨t, 0, none⟩ = some (.int .i64 P.d), stab := fun v w w' ⟨h1, h2⟩ hr => ⟨OB.kept h1 hr.1 (fun j hj e => by have := (h1.lt j hj).1; omega), hr.2.1 h2⟩ }
def Free.FactR.pad2 (N t u : Nat) (P : OrcS) (T : List UInt8) : Free.FactR (PadR N t u P) :=
  { f := fun v w => OB w N v T ∧ w.cell? ⟨u, 1, none⟩ = some (.int .i64 P.d), stab := fun v w w' ⟨h1, h2⟩ hr => ⟨OB.kept h1 hr.1 (fun j hj e => by have := (h1.lt j hj).1; omega), hr.2.2 h2⟩ }
section
variable {W w' w2 : World} {N0 bo p t bm : Nat} {A : Option Addr} {n c : Nat} {z : Int} {vp : Value} {q u br : Nat} {A2 : Option Addr} {n2 c2 : Nat} {vp2 vm : Value} {made : List (List UInt8)} {vsm : List Value} {P : OrcS} {k : Int × Int} {T : List UInt8}
theorem PadI.below (h : PadI W N0 bo p t bm A n c z vp q u br A2 n2 c2 vp2 vm made vsm P k T w') (hb : Below w'.heap.size w' w2) : PadI W N0 bo p t bm A n c z vp q u br A2 n2 c2 vp2 vm made vsm P k T w2 := by
  obtain ⟨S1, S2, X, Y, vs, vr, vs2, h1, h2, h3, h4, h5⟩ := h
  exact ⟨S1, S2, X, Y, vs, vr, vs2, h1, h2, h3.below hb, h4.then_below hb, h5⟩
theorem PadI.bel (h : PadI W N0 bo p t bm A n c z vp q u br A2 n2 c2 vp2 vm made vsm P k T w') : Keeps (fun j => N0 ≤ j ∧ j ≠ bo) W w' := by
  obtain ⟨S1, S2, X, Y, vs, vr, vs2, h1, h2, h3, h4, h5, h6⟩ := h
  exact h4
variable {S1 S2 : OrcS} {X Y : Nat → Prop} {vs vs2 : List Value} {vr : Value}
theorem PadI.one {vs' : List Value} (okP : PadOk P k T P) (ok1 : PadOk P k T S1) (ok2 : PadOk P k T S2) (h : Tri w' N0 X Y p t bm A n c z vp vs S1 q u br A2 n2 c2 vp2 vr vs2 S2 vm made vsm) (hK : Keeps (fun j => N0 ≤ j ∧ j ≠ bo) W w') (nx : ¬ X bo) (ny : ¬ Y bo) (hN : N0 ≤ W.heap.size) (hbo : bo < W.heap.size) (hvr : (∀ j, vr.ownBlock = some j → j < W.heap.size) ∨ (fndK k S2.ks 0).isSome = true) (htu : t < W.heap.size ∧ bm < W.heap.size)
    (hO : Orc w2 p t bm A n c z vp vs' (padS S1 k)) (hk : Keeps (fun j => j = t ∨ j = bm) w' w2) (hx : ∀ x ∈ vs', x ∈ vs ∨ ∃ g1, x.ownBlock = some g1 ∧ w'.heap.size ≤ g1) :
    PadI W N0 bo p t bm A n c z vp q u br A2 n2 c2 vp2 vm made vsm P k T w2 ∧ PadR W.heap.size t u P w' w2 ∧ w2.cell? ⟨t, 0, none⟩ = some (.int .i64 P.d) := by
  rw [ok1.s] at hO
  have hz := hK.size
  have o1 := h.o.o1
  have hxn := h.xn
  have hF : ∀ j, (j = t ∨ j = bm) → X j := fun j e => by
    rcases e with e | e
    · exact e ▸ h.xt
    · exact e ▸ h.xb
  have hF2 : ∀ j, (j = t ∨ j = bm) → N0 ≤ j := fun j e => by rcases e with e | e <;> omega
  have h' := h.step1 hk hF hF2 hO (fun j hj => .inl hj) hx (by omega)
  have ct := hO.tp.blk.cell 0 (v := .int .i64 P.d) rfl
  have hu : ¬ (u = t ∨ u = bm) := fun e => h.xy u (hF u e) h.yu
  refine ⟨⟨P, S2, _, _, _, _, _, okP, ok2, h', hK.trans hk (fun i hi => .inl ⟨hF2 i hi, fun e => nx (e ▸ hF i hi)⟩), fun e => ?_, ny, hvr⟩, ⟨hk.mono (fun j _ e => by rcases e with e | e <;> omega), fun _ => ct, fun e => ?_⟩, ct⟩
  · rcases e with e | e
    · exact nx e
    · omega
  · have hul := World.block_lt_of_cell? w' _ e
    simp only at hul
    have := hk.block u hul hu
    unfold World.cell? at e ⊢
    rw [show w2.heap[(⟨u, 1, none⟩ : Addr).block]? = w'.heap[u]? from this]
    exact e
theorem PadI.two {vr' : Value} {vs' : List Value} (okP : PadOk P k T P) (ok1 : PadOk P k T S1) (ok2 : PadOk P k T S2) (h : Tri w' N0 X Y p t bm A n c z vp vs S1 q u br A2 n2 c2 vp2 vr vs2 S2 vm made vsm) (hK : Keeps (fun j => N0 ≤ j ∧ j ≠ bo) W w') (nx : ¬ X bo) (ny : ¬ Y bo) (hN : N0 ≤ W.heap.size) (hbo : bo < W.heap.size)
    (hkP : (fndK k P.ks 0).isSome = true) (hvr : (∀ j, vr.ownBlock = some j → j < W.heap.size) ∨ (fndK k S2.ks 0).isSome = true) (hqu : q < W.heap.size ∧ u < W.heap.size ∧ br < W.heap.size)
    (hO : Rfc w2 q u br A2 n2 c2 vp2 vr' vs' (padS S2 k)) (hk : Keeps (fun j => j = q ∨ j = u ∨ j = br ∨ vr.ownBlock = some j) w' w2) (hv : ∀ j, vr'.ownBlock = some j → vr.ownBlock = some j ∨ w'.heap.size ≤ j) (hx : ∀ x ∈ vs', x ∈ vs2 ∨ ∀ j, x.ownBlock = some j → w'.heap.size ≤ j) (hbe : (fndK k S2.ks 0).isSome = true → Below w'.heap.size w' w2) :
    PadI W N0 bo p t bm A n c z vp q u br A2 n2 c2 vp2 vm made vsm P k T w2 ∧ PadR W.heap.size t u P w' w2 ∧ w2.cell? ⟨u, 1, none⟩ = some (.int .i64 P.d) := by
  rw [ok2.s] at hO
  have hz := hK.size
  have hF : ∀ j, (j = q ∨ j = u ∨ j = br ∨ vr.ownBlock = some j) → Y j := fun j e => by
    rcases e with e | e | e | e
    · exact e ▸ h.yq
    · exact e ▸ h.yu
    · exact e ▸ h.yb
    · exact h.yr j e
  obtain ⟨h', -⟩ := h.step2 (v := .slice none 0 0) hk hF hO (fun j hj => .inl hj) hv hx (by omega) (fun j hj => by simp [Value.ownBlock] at hj)
  have ct := hO.pb.cell 1 (v := .int .i64 P.d) rfl
  have hu : ¬ (t = q ∨ t = u ∨ t = br ∨ vr.ownBlock = some t) := fun e => h.xy t h.xt (hF t e)
  refine ⟨⟨S1, P, _, _, _, _, _, ok1, okP, h', hK.trans hk (fun i hi => .inl ⟨(h.yl i (hF i hi)).1, fun e => ny (e ▸ hF i hi)⟩), nx, fun e => ?_, .inr hkP⟩, ⟨?_, fun e => ?_, fun _ => ct⟩, ct⟩
  · rcases e with e | e
    · exact ny e
    · omega
  · rcases hvr with hvr | hvr
    · exact hk.mono (fun j _ e => by
        rcases e with e | e | e | e
        · omega
        · omega
        · omega
        · exact hvr j e)
    · exact Keeps.of_below (hbe hvr)
  · have hul := World.block_lt_of_cell? w' _ e
    simp only at hul
    have := hk.block t hul hu
    unfold World.cell? at e ⊢
    rw [show w2.heap[(⟨t, 0, none⟩ : Addr).block]? = w'.heap[t]? from this]
    exact e
theorem PadI.fin (h : PadI W N0 bo p t bm A n c z vp q u br A2 n2 c2 vp2 vm made vsm P k T w') (c1 : w'.cell? ⟨t, 0, none⟩ = some (.int .i64 P.d)) (c3 : w'.cell? ⟨u, 1, none⟩ = some (.int .i64 P.d)) :
    ∃ X Y vs vr vs2, Tri w' N0 X Y p t bm A n c z vp vs P q u br A2 n2 c2 vp2 vr vs2 P vm made vsm ∧ Keeps (fun j => N0 ≤ j ∧ j ≠ bo) W w' := by
  obtain ⟨S1, S2, X, Y, vs, vr, vs2, h1, h2, h3, h4, h5, h6⟩ := h
  have e1 := h3.o.tp.blk.cell 0 (v := .int .i64 S1.d) rfl
  have e2 := h3.r.pb.cell 1 (v := .int .i64 S2.d) rfl
  rw [c1] at e1
  rw [c3] at e2
  injection e1 with e1
  injection e2 with e2
  injection e1 with _ e1
  injection e2 with _ e2
  have r1 := h1.fin (by omega)
  have r2 := h2.fin (by omega)
  rw [r1, r2] at h3
  exact ⟨X, Y, vs, vr, vs2, h3, h4⟩
end
end Go.Proofs.Ytniendffanemcaa
