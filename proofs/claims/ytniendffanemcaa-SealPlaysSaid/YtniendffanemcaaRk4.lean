/- Merged: SmG. -/
import Derived.Test.YtniendffanemcaaRk3
import Derived.Deep.CutRange
/- SealPlays: the walk. -/
namespace Go.Proofs.Ytniendffanemcaa
open Go.ChangeShapes Go.WideShapes Go.ChangeAt Go.RowKit
open Go.ChangeMaps (open_string shut_string)
set_option linter.unusedVariables false
set_option linter.unusedSimpArgs false
set_option maxRecDepth 100000

set_option maxHeartbeats 32000000 in
theorem plays6 (A0 : Option Addr) (n0 c0 : Nat) (P : List UInt8) (L0 : Int) (A1 : Option Addr) (n1 c1 : Nat) (l : List OpS) (w : World) (h0 : RB w A0 n0 c0 P) (h1 : RS w A1 n1 c1 l) :
    Calls Try.prog 7 #[.slice A0 n0 c0, .int .i64 L0, .slice A1 n1 c1] w fun e w' => e = .returned (.bool true) ∧ Below w.heap.size w w' := by
  have hl1 := Lib.hid h1.len
  have hA0 : 0 < n0 → ∀ a, A0 = some a → a.block < w.heap.size := fun hn a ha => by
    obtain ⟨g', o', e, hcc⟩ := h0.at_ hn
    rw [ha] at e
    injection e with e
    obtain ⟨y, hy⟩ : ∃ y, P[0]? = some y := ⟨_, List.getElem?_eq_getElem (by rw [h0.len]; exact hn)⟩
    have := World.block_lt_of_cell? w _ (hcc 0 y hy)
    rw [e]
    exact this
  go_enter Try.func7, Try.ntmps7
  go_wp2_with fail
  refine (first6 _).mono ?_
  rintro e w2 ⟨rfl, bl⟩
  by_cases g1 : (2000 : Int) < (n0 : Int)
  · (go_wp2_with fail; refine (first6 _).mono ?_; rintro e w9 ⟨rfl, b9⟩; go_wp2; go_ret; exact ⟨rfl, Below.next bl b9 (Nat.le_refl _)⟩)
  by_cases g2 : 100 < L0
  · (go_wp2_with fail; refine (first6 _).mono ?_; rintro e w9 ⟨rfl, b9⟩; go_wp2; go_ret; exact ⟨rfl, Below.next bl b9 (Nat.le_refl _)⟩)
  go_wp2_with fail
  refine (few6_any A1 n1 c1 l w2 (h1.below bl)).mono ?_
  rintro e w3 ⟨⟨fb, rfl, hfew⟩, rfl⟩
  cases fb with
  | false => (go_wp2_with fail; refine (first6 _).mono ?_; rintro e w9 ⟨rfl, b9⟩; go_wp2; go_ret; exact ⟨rfl, Below.next bl b9 (Nat.le_refl _)⟩)
  | true =>
  obtain ⟨hf1, hf2⟩ := hfew rfl
  have hf2 := Lib.hid hf2
  have hnp : n1 ≤ 100 := by rw [← hl1.out]; exact hf1
  clear hfew hf1
  go_wp2_with fail
  refine (new_pads _ _ _ _ _ (h0.below bl) (by omega)).mono ?_
  rintro e w4 ⟨t, B, d, rfl, hT, hlt, hltb, e4⟩
  have z2 := bl.size
  replace bl := Below.next bl e4 (Nat.le_refl _)
  clear e4
  by_cases hL : L0 < 1
  · -- [A1
    go_wp2_with fail
    refine (orc_new_no _ t L0 (.inl hL)).mono ?_
    rintro e w5 ⟨rfl, b5⟩
    replace bl := Below.next bl b5 (Nat.le_refl _)
    go_wp2_with fail
    refine (rf_new_no _ _ L0 (.inl hL)).mono ?_
    rintro e w6 ⟨rfl, b6⟩
    have bl6 : Below w.heap.size w w6 := Below.next (bl.alloc bl.size _) b6 (Nat.le_refl _)
    go_wp2
    go_loopw [12] (fun i wr => i = .int .i64 0 ∧ w6 = wr) (fun _ _ => 0)
    case atStart => exact ⟨rfl, rfl⟩
    case round =>
    obtain ⟨rfl, rfl⟩ := hrel
    go_wp2_with fail
    refine (first6 _).mono ?_
    rintro e w9 ⟨rfl, b9⟩
    go_wp2
    go_ret
    exact ⟨rfl, Below.next bl6 b9 (Nat.le_refl _)⟩
    -- A1]
  obtain ⟨LL, rfl⟩ : ∃ LL : Nat, L0 = LL := ⟨L0.toNat, by omega⟩
  have hL1 : 1 ≤ LL := by omega
  have hL2 : LL ≤ 100 := by omega
  go_wp2_with fail
  refine (orc_new _ t 0 P B n0 d _ LL hT (by omega) (by omega) (by omega)).mono ?_
  rintro e w5 ⟨p, m, rfl, hO, hm, e5⟩
  have bl5 := Below.next bl e5 (Nat.le_refl _)
  have hqb := Blk.new w5 #[.slice A0 n0 c0, .int .i64 0] 62
  have e6 := (Below.refl w5.heap.size w5).alloc (Nat.le_refl _) (.cells #[.slice A0 n0 c0, .int .i64 0] 62)
  have bl6 := Below.next bl5 e6 (Nat.le_refl _)
  have hO6 := hO.below e6
  have hz5 := bl5.size
  have hRn := Lib.hid (rf_new _ w5.heap.size P A0 n0 c0 LL hqb (h0.below bl6) (fun hn a ha => by have := hA0 hn a ha; omega) (by omega) (by omega) (by omega))
  clear hT e5 hqb
  go_wp2_with fail
  refine hRn.out.mono ?_
  rintro e w7 ⟨q, br, rfl, hR7, hbr, e7⟩
  have bl7 := Below.next bl6 e7 (Nat.le_refl _)
  have hO7 := hO6.below e7
  have hz6 := e6.size
  rw [World.size_alloc] at hz6
  have ho1 := hO7.o1
  have ho2 := hO7.o2
  have hpl := hO.lt
  have hq1 := hR7.o1
  have hq2 := hR7.o2
  have hql := hR7.lt
  rw [World.size_alloc] at hbr
  have hBl := hO7.tp.lt
  have hTri : Tri w7 w.heap.size (fun i => i = p ∨ i = t ∨ i = m ∨ ∃ a, B = some a ∧ i = a.block) (fun i => i = q ∨ i = w5.heap.size ∨ i = br) p t m B n0 d n0 (.slice none 0 0) [] ⟨LL, 0, P, [], [], []⟩ q w5.heap.size br A0 n0 c0 (.slice none 0 0) (.slice none 0 0) [] ⟨LL, 0, P, [], [], []⟩ (.slice none 0 0) [] [] := by
    refine ⟨hO7, hR7, DO.nil _ _, .inl rfl, .inr (.inl rfl), .inr (.inr (.inl rfl)), fun a ha => .inr (.inr (.inr ⟨a, ha, rfl⟩)), (fun j hj => by simp [Value.ownBlock] at hj), (fun x hx => by cases hx), .inl rfl, .inr (.inl rfl), .inr (.inr rfl), hA0, (fun j hj => by simp [Value.ownBlock] at hj), (fun j hj => by simp [Value.ownBlock] at hj), (fun x hx => by cases hx), fun i hi hy => ?_, fun i hi => ?_, by omega, fun i hi => ?_, (fun j hj => by simp [Value.ownBlock] at hj), (fun x hx => by cases hx)⟩
    · have hx : i < w5.heap.size := by
        rcases hi with e | e | e | ⟨a, ha, e⟩
        · omega
        · omega
        · omega
        · have := hBl a ha; omega
      rcases hy with e | e | e <;> omega
    · rcases hi with e | e | e | ⟨a, ha, e⟩
      · omega
      · omega
      · omega
      · have := hBl a ha; omega
    · rcases hi with e | e | e <;> omega
  have hz7 := bl7.size
  generalize hX0 : (fun i => i = p ∨ i = t ∨ i = m ∨ ∃ a, B = some a ∧ i = a.block) = X0 at hTri
  generalize hY0 : (fun i => i = q ∨ i = w5.heap.size ∨ i = br) = Y0 at hTri
  clear hX0 hY0 hO7 hR7 hO6 hO hRn e6 e7 bl5 bl6 bl
  generalize w5.heap.size = u at *
  go_wp2
  go_loopw [11, 12] (fun vmv iv wr => ∃ (j : Nat) (S : OrcS) (X Y : Nat → Prop) (vp : Value) (vs : List Value) (vp2 vr2 : Value) (vs2 : List Value) (vm : Value) (made : List (List UInt8)) (vsm : List Value), j ≤ n1 ∧ iv = .int .i64 j ∧ vmv = vm ∧ Tri wr w.heap.size X Y p t m B n0 d n0 vp vs S q u br A0 n0 c0 vp2 vr2 vs2 S vm made vsm ∧ Below w.heap.size w wr ∧ S.L = LL ∧ S.d ≤ 100 * j ∧ S.ks.length ≤ j ∧ S.plain.length ≤ 100 * j ∧ made.length ≤ j ∧ (∀ y ∈ made, y.length ≤ 20200)) (fun _ iv _ => n1 - (intOf iv).toNat)
  case atStart => exact ⟨0, _, X0, Y0, _, _, _, _, _, _, _, _, by omega, rfl, rfl, hTri, bl7, rfl, Nat.le_refl _, Nat.le_refl _, Nat.le_refl _, Nat.le_refl _, fun y hy => by cases hy⟩
  case round =>
  obtain ⟨j, S, X, Y, vp, vs, vp2, vr2, vs2, vm, made, vsm, hj, rfl, rfl, hTr, hb, hSL, hSd, hSk, hSp, hml, hmy⟩ := hrel
  clear hTri bl7
  obtain ⟨W, rfl⟩ : ∃ W, W = wr := ⟨_, rfl⟩
  obtain ⟨Am, cm, hvm, hcm, -, hfm⟩ := hTr.m.row.form
  obtain ⟨nm, hnm⟩ : ∃ nm, vsm.length = nm := ⟨_, rfl⟩
  rw [hnm] at hvm hfm hcm
  subst hvm
  have hnm2 : nm ≤ 100 := by have := hTr.m.len; omega
  replace hnm := Lib.hid hnm
  by_cases gj : j < n1
  rotate_left
  · -- [A2
    go_wp2_with fail
    refine (first6 _).mono ?_
    rintro e w9 ⟨rfl, b9⟩
    go_wp2
    go_ret
    exact ⟨rfl, Below.next hb b9 (Nat.le_refl _)⟩
    -- A2]
  obtain ⟨x, hx⟩ : ∃ x, l[j]? = some x := ⟨_, List.getElem?_eq_getElem (by have := hl1.out; omega)⟩
  obtain ⟨g, o, rfl, hc⟩ := h1.at_ (by omega)
  obtain ⟨XB, xm, xc, hXB, d0, d1, d2, d3, d4⟩ := hc j x hx
  have hxb : x.b.length ≤ 20000 := Nat.le_trans (tot6_mem (List.mem_of_getElem? hx)) hf2.out
  rw [hXB.len] at hxb
  obtain ⟨kd, hkd⟩ : ∃ kd, x.kind = kd := ⟨_, rfl⟩
  obtain ⟨kk, hkk⟩ : ∃ kk, x.k = kk := ⟨_, rfl⟩
  obtain ⟨ng, hng⟩ : ∃ ng, x.g = ng := ⟨_, rfl⟩
  obtain ⟨nc, hnc⟩ : ∃ nc, x.c = nc := ⟨_, rfl⟩
  obtain ⟨xb, hxbb⟩ : ∃ xb, x.b = xb := ⟨_, rfl⟩
  rw [hkd] at d0
  rw [hkk] at d1
  rw [hng] at d2
  rw [hnc] at d3
  rw [hxbb] at hXB
  have hgw := World.block_lt_of_cell? w _ d0
  have k0 := (hb.cell (p := ⟨g, o + j * 5, none⟩) hgw).trans d0
  have k1 := (hb.cell (p := ⟨g, o + j * 5 + 1, none⟩) hgw).trans d1
  have k2 := (hb.cell (p := ⟨g, o + j * 5 + 2, none⟩) hgw).trans d2
  have k3 := (hb.cell (p := ⟨g, o + j * 5 + 3, none⟩) hgw).trans d3
  have k4 := (hb.cell (p := ⟨g, o + j * 5 + 4, none⟩) hgw).trans d4
  have hg := World.block_lt_of_cell? W _ k0
  clear hc hkd hkk hng hnc hxbb hx d0 d1 d2 d3 d4
  have hXl := Blk.new W #[.int .i64 kd, .int .i64 kk, .int .i64 ng, .int .i64 nc, .slice XB xm xc] 65
  have eW := (Below.refl W.heap.size W).alloc (Nat.le_refl _) (.cells #[.int .i64 kd, .int .i64 kk, .int .i64 ng, .int .i64 nc, .slice XB xm xc] 65)
  go_upto_region 15 with fail
  obtain ⟨W1, hW1⟩ : ∃ W', W.alloc (.cells #[.int .i64 kd, .int .i64 kk, .int .i64 ng, .int .i64 nc, .slice XB xm xc] 65) = W' := ⟨_, rfl⟩
  rw [hW1] at hXl eW ⊢
  clear hW1 k0 k1 k2 k3 k4 hg
  go_cut [82] from 67 to 240 (fun s82 wx => s82 = .int .i64 kd ∧ W1 = wx)
  case first =>
    have y0 := hXl.cell 0 (v := .int .i64 kd) rfl
    go_wp2
    go_meet
    exact ⟨rfl, rfl⟩
  case rest =>
  obtain ⟨rfl, rfl⟩ := hcut
  apply_assumption
  go_cut [11, 14, 15, 16, 17, 18, 19, 20, 21, 22, 23, 24, 25, 26] from 67 to 240 (fun vmv okv s15 s16 s17 s18 s19 s20 s21 s22 s23 s24 s25 s26 wx => ∃ (S : OrcS) (X Y : Nat → Prop) (vp : Value) (vs : List Value) (vp2 vr2 : Value) (vs2 : List Value) (made : List (List UInt8)) (vsm : List Value), okv = .bool true ∧ Tri wx w.heap.size X Y p t m B n0 d n0 vp vs S q u br A0 n0 c0 vp2 vr2 vs2 S vmv made vsm ∧ Blk wx W.heap.size #[.int .i64 kd, .int .i64 kk, .int .i64 ng, .int .i64 nc, .slice XB xm xc] 65 ∧ Below w.heap.size w wx ∧ S.L = LL ∧ S.d ≤ 100 * (j + 1) ∧ S.ks.length ≤ j + 1 ∧ S.plain.length ≤ 100 * (j + 1) ∧ made.length ≤ j + 1 ∧ (∀ y ∈ made, y.length ≤ 20200))
  case first =>
    have hTr1 := hTr.below eW
    have hb1 := Below.next hb eW (Nat.le_refl _)
    have hnX : ¬ X W.heap.size := fun e => by have := hTr.xl _ e; omega
    have hnY : ¬ Y W.heap.size := fun e => by have := (hTr.yl _ e).2; omega
    have hz1 := eW.size
    have hWl := hXl.lt
    have hXB1 := hXB.below hb1
    have hbw := hb1.size
    have y2 := hXl.cell 2 (v := .int .i64 ng) rfl
    have y3 := hXl.cell 3 (v := .int .i64 nc) rfl
    have y4 := hXl.cell 4 (v := .slice XB xm xc) rfl
    have hTrm := hTr.mlt.1
    clear hTr hb
    by_cases hk0 : kd = 0
    · subst hk0
      -- [K0
      have hxn := hTr1.xn
      obtain ⟨E, hE⟩ : ∃ E, sealE S ng nc xb = E := ⟨_, rfl⟩
      by_cases hE0 : E = 0
      · subst hE0
        -- [K0a
        as_aux_lemma =>
          have hlen := sealE_len hE
          rw [hXB1.len, hSL] at hlen
          have hXa := fun a1 (ha : XB = some a1) => rb_blk hXB (by omega) a1 ha
          have ho1 := hTr1.o.o1
          have ho2 := hTr1.o.o2
          have hvl := hTr1.o.pl.lt
          have hF : ∀ j, (j = p ∨ j = t ∨ j = m ∨ vp.ownBlock = some j) → X j ∧ w.heap.size ≤ j := fun j e => by
            rcases e with e | e | e | e
            · exact ⟨e ▸ hTr1.xp, by omega⟩
            · exact ⟨e ▸ hTr1.xt, by omega⟩
            · exact ⟨e ▸ hTr1.xb, by omega⟩
            · exact ⟨hTr1.xv j e, by have := hvl j e; omega⟩
          have HS := Lib.hid (orc_seal2 W1 p t m B n0 d n0 vp vs S ng nc XB xm xc xb hTr1.o hXB1 hE (by omega) (by omega) (fun a1 ha e => by have := hXa a1 ha; have := (hF _ e).2; omega))
          have hgr := sealS_grow S ng nc xb
          have hTl : (nonceB ng nc ++ xor2 xb (padOf S (ng, nc))).length = 12 + LL := by rw [List.length_append, nonceB_length, xor2_len, hXB.len, hlen]
          have HR := Lib.hid (fun w h hx hna => rf_seal w q u br A0 n0 c0 vp2 vr2 vs2 S ng nc XB xm xc xb h hx hE (by omega) (by omega) (by omega) hna)
          obtain ⟨T, hT⟩ : ∃ T, nonceB ng nc ++ xor2 xb (padOf S (ng, nc)) = T := ⟨_, rfl⟩
          obtain ⟨S9, hS9⟩ : ∃ S9, sealS S ng nc xb = S9 := ⟨_, rfl⟩
          rw [hT] at HS HR hTl
          rw [hS9] at HS HR hgr
          rw [hXB.len, hSL] at hgr
          clear hT hS9 hE
          replace hlen := Lib.hid hlen
          replace hgr := Lib.hid hgr
          replace hF := Lib.hid hF
          replace hXa := Lib.hid hXa
          replace hvl := Lib.hid hvl
          obtain ⟨nT, hnT⟩ : ∃ nT, 12 + LL = nT := ⟨_, rfl⟩
          rw [hnT] at hTl
          have hnT2 : nT ≤ 200 := by omega
          replace hnT := Lib.hid hnT
          go_wp2_with fail
          refine HS.out.mono ?_
          rintro e W2 ⟨v1, vp1, vs1, rfl, hv1, hO2, hk2, hvp2, hvs2⟩
          obtain ⟨A8, c8, rfl, hr8⟩ := OB.sl hv1 nT hTl
          have hTr2 := hTr1.step1 hk2 (fun j e => (hF.out j e).1) (fun j e => (hF.out j e).2) hO2 hvp2 hvs2 (by omega)
          have hXl2 := hXl.keeps hk2 (fun e => hnX (hF.out _ e).1)
          have hb2 := hb1.keeps hk2 (fun j hj e => by have := (hF.out j e).2; omega) (by omega)
          have hz2 := hk2.size
          have hnX2 : ¬ (X W.heap.size ∨ (W1.heap.size ≤ W.heap.size ∧ W.heap.size < W2.heap.size)) := fun e => e.elim hnX (fun e => by omega)
          have hWl2 := hXl2.lt
          have x2 := hXl2.cell 2 (v := .int .i64 ng) rfl
          have x3 := hXl2.cell 3 (v := .int .i64 nc) rfl
          have x4 := hXl2.cell 4 (v := .slice XB xm xc) rfl
          have hXB2 := hXB.below hb2
          have hyl2 := hTr2.yl
          have hyl1 := hTr1.yl
          have hml1 := hTr1.mlt.1
          have hnM : (Value.slice Am nm cm).ownBlock ≠ some W.heap.size := fun e => by have := hTrm _ e; omega
          have hyq := hTr2.yq
          have hyu := hTr2.yu
          have hyb2 := hTr2.yb
          have hyv := hTr2.yv
          have hyr := hTr2.yr
          have HR2 := Lib.hid (fun w h hx => HR.out w h hx (fun _ a1 ha e => by
            have := hXa.out a1 ha
            rcases e with e | e | e | e | e
            · have := hyl2 q hyq; omega
            · have := hyl2 u hyu; omega
            · have := hyl2 br hyb2; omega
            · have := hyl2 _ (hyv _ e); omega
            · have := hyl2 _ (hyr _ e); omega))
          generalize (fun i => X i ∨ (W1.heap.size ≤ i ∧ i < W2.heap.size)) = X2 at hTr2
          replace hyl2 := Lib.hid hyl2
          replace hyl1 := Lib.hid hyl1
          replace hml1 := Lib.hid hml1
          clear HS HR hTr1 hXl hb1 hO2 hk2 hvp2 hvs2 hF hvl hyv hyr
          have hR : ∀ {w w' : World}, Below w.heap.size w w' → Below w.heap.size w w' := fun h => h
          go_wp2_with fail
          have hvo := Free.val
          refine Free.wp_factsR (R := (fun w w' => Below w.heap.size w w')) (ss := [6]) (pures := [0, 1, 2, 3, 4, 5, 9, 11]) (M := [0, 0, 2, 6, 0, 16, 63, 127, 255, 255, 511, 2047]) (D := [[], [], [(1, 96)], [(2, 97)], [], [(4, 99)], [(0, 95), (3, 98), (5, 100)], [(6, 101)], [(7, 94)], [(7, 94)], [(8, 102)], [(9, 103)]]) (outs := [10, 11]) (soles := [6]) (E := [(0, 95, false), (1, 96, false), (2, 97, false), (3, 98, false), (4, 99, false), (5, 100, false), (6, 101, false), (7, 94, false), (8, 102, false), (9, 103, false), (10, 17, true), (11, 18, true)]) (N := 242) (S := (fun (d : Nat) w' => d = 0 → Below W2.heap.size W2 w')) [Free.FactR.is ?_, Free.FactR.is ?_, Free.FactR.is ?_, Free.FactR.is ?_, Free.FactR.is ?_, Free.FactR.is ?_, Free.FactR.sealT W2 q u br A0 n0 c0 vp2 vr2 vs2 S9 T, Free.FactR.sealT W2 q u br A0 n0 c0 vp2 vr2 vs2 S9 T, Free.FactR.sealV W2 q u br A0 n0 c0 vp2 vr2 vs2 S9 T, Free.FactR.is (.int .i64 0), Free.FactR.sealV W2 q u br A0 n0 c0 vp2 vr2 vs2 S9 T, Free.FactR.is (.int .i64 0)] (by kernel_rfl) (by kernel_rfl) (by kernel_rfl) rfl rfl (by decide) (fun _ => (Below.refl _ _).drew) ?_ ?_
          rotate_left 6
          refine Free.cons ?_ ?_
          · intro st hag; (obtain rfl : st = 0 := Nat.le_antisymm hag.2 hag.1); intro w' hS; intro K hK; first | (refine Free.run_yes (by rfl) ?_; go_simp; refine Free.oR hK (hR (Below.refl _ _)) hS ?_; exact rfl) | (refine Free.run_no (by rfl) (Free.oR hK (hR (Below.refl _ _)) hS ?_); exact rfl)
          refine Free.cons ?_ ?_
          · intro st hag; (obtain rfl : st = 0 := Nat.le_antisymm hag.2 hag.1); intro w' hS; intro K hK; first | (refine Free.run_yes (by rfl) ?_; go_simp; refine Free.oR hK (hR (Below.refl _ _)) hS ?_; exact rfl) | (refine Free.run_no (by rfl) (Free.oR hK (hR (Below.refl _ _)) hS ?_); exact rfl)
          refine Free.cons ?_ ?_
          · intro st hag; (obtain rfl : st = 0 := Nat.le_antisymm hag.2 hag.1); intro w' hS; (rintro _ rfl); intro K hK; refine Free.run_yes (by rfl) ?_; (have ka2 := ((hS rfl).cell (p := ⟨W.heap.size, 2, none⟩) hWl2).trans x2; have ka3 := ((hS rfl).cell (p := ⟨W.heap.size, 3, none⟩) hWl2).trans x3; go_simp; refine Free.oR hK (hR (Below.refl _ _)) hS ?_; exact rfl)
          refine Free.cons ?_ ?_
          · intro st hag; (obtain rfl : st = 0 := Nat.le_antisymm hag.2 hag.1); intro w' hS; (rintro _ rfl); intro K hK; refine Free.run_yes (by rfl) ?_; (go_simp; refine (plain6 ng nc w').mono ?_; rintro e w2 ⟨rfl, hb⟩; refine hK.out _ _ ?_ (fun _ => Below.next (hS rfl) hb (Nat.le_refl _)) (.inr (hR hb)); exact rfl)
          refine Free.cons ?_ ?_
          · intro st hag; (obtain rfl : st = 0 := Nat.le_antisymm hag.2 hag.1); intro w' hS; intro K hK; first | (refine Free.run_yes (by rfl) ?_; go_simp; refine Free.oR hK (hR (Below.refl _ _)) hS ?_; exact rfl) | (refine Free.run_no (by rfl) (Free.oR hK (hR (Below.refl _ _)) hS ?_); exact rfl)
          refine Free.cons ?_ ?_
          · intro st hag; (obtain rfl : st = 0 := Nat.le_antisymm hag.2 hag.1); intro w' hS; (rintro _ rfl); intro K hK; refine Free.run_yes (by rfl) ?_; (have ka4 := ((hS rfl).cell (p := ⟨W.heap.size, 4, none⟩) hWl2).trans x4; go_simp; refine Free.oR hK (hR (Below.refl _ _)) hS ?_; exact rfl)
          refine Free.cons ?_ ?_
          · intro st hag; (obtain rfl : st = 0 := Nat.le_antisymm hag.2 hag.1); intro w' hS; (rintro _ rfl); (rintro _ rfl); (rintro _ rfl); intro K hK; refine Free.run_yes (by rfl) ?_; (go_simp; refine (HR2.out w' (hTr2.r.below (hS rfl)) (hXB2.below (hS rfl))).mono ?_; rintro e w6 ⟨v, vp', vr', vs', rfl, hP⟩; refine hK.out _ _ ⟨v, vp', vr', vs', w', rfl, hS rfl, hP⟩ (fun e => by cases e) (.inl rfl))
          refine Free.cons ?_ ?_
          · intro st hag; (obtain rfl : st = 1 := Nat.le_antisymm hag.2 hag.1); intro w' hS; (intro v6 h6); intro K hK; refine Free.run_yes (by rfl) ?_; (obtain ⟨v, vp', vr', vs', w1, rfl, hpp⟩ := h6; go_simp; refine Free.oR hK (hR (Below.refl _ _)) hS ?_; exact ⟨v, vp', vr', vs', w1, rfl, hpp⟩)
          refine Free.cons ?_ ?_
          · intro st hag; (obtain rfl : st = 1 := Nat.le_antisymm hag.2 hag.1); intro w' hS; (intro v7 h7); intro K hK; refine Free.run_yes (by rfl) ?_; (obtain ⟨v, vp', vr', vs', w1, rfl, hpp⟩ := h7; go_simp; refine Free.oR hK (hR (Below.refl _ _)) hS ?_; exact ⟨vp', vr', vs', w1, hpp⟩)
          refine Free.cons ?_ ?_
          · intro st hag; (obtain rfl : st = 1 := Nat.le_antisymm hag.2 hag.1); intro w' hS; (intro v7 h7); intro K hK; refine Free.run_yes (by rfl) ?_; (obtain ⟨v, vp', vr', vs', w1, rfl, hpp⟩ := h7; go_simp; refine Free.oR hK (hR (Below.refl _ _)) hS ?_; exact rfl)
          refine Free.cons ?_ ?_
          · intro st hag; (obtain rfl : st = 1 := Nat.le_antisymm hag.2 hag.1); intro w' hS; (intro v8 h8); intro K hK; refine Free.run_yes (by rfl) ?_; (go_simp; refine Free.oR hK (hR (Below.refl _ _)) hS ?_; exact h8)
          refine Free.cons ?_ ?_
          · intro st hag; (obtain rfl : st = 1 := Nat.le_antisymm hag.2 hag.1); intro w' hS; (rintro _ rfl); intro K hK; first | (refine Free.run_yes (by rfl) ?_; go_simp; refine Free.oR hK (hR (Below.refl _ _)) hS ?_; exact rfl) | (refine Free.run_no (by rfl) (Free.oR hK (hR (Below.refl _ _)) hS ?_); exact rfl)
          exact Free.nil
          clear hvo
          intro w' hS; intro v0; intro v1; intro v2; intro v3; intro v4; intro v5; intro v6; intro v7; intro v8; intro v9; intro v10 h10; (rintro _ rfl); (try simp only [Act.put, List.setIfInBounds_toArray, List.set_cons_zero, List.set_cons_succ]); refine Free.toldE_nil ?_
          obtain ⟨vpn, vrn, vsn, w1, hbw1, hpp⟩ := h10
          obtain ⟨hTr3, hxy3, hk3, hov⟩ := hTr2.seal2 hbw1 (by have := hb2.size; omega) hpp
          obtain ⟨W3, rfl⟩ : ∃ W, W = w' := ⟨_, rfl⟩
          obtain ⟨A9, c9, rfl, hr9⟩ := OB.sl hov nT hTl
          have hXl3 := hXl2.keeps hk3 hnY
          have hb3 := hb2.keeps hk3 (fun j hj e => by have := (hyl2.out j e).1; omega) (by have := hb2.size; omega)
          have hr83 := OB.reads (OB.kept hv1 hk3 (fun j hj e => by have := (hyl1.out j e).2; have := (hv1.lt j hj).1; omega))
          have HB := Lib.hid (ref_Bytes A8 A9 nT c8 nT c9 T T W3 hr83 hr9)
          rw [beq_self_eq_true] at HB
          obtain ⟨Y3, hY3⟩ : ∃ Y3, (fun i => Y i ∨ (w1.heap.size ≤ i ∧ i < W3.heap.size ∧ (Value.slice A9 nT c9).ownBlock ≠ some i)) = Y3 := ⟨_, rfl⟩
          have hxy4 : ∀ j, (Value.slice A9 nT c9).ownBlock = some j → ¬ X2 j ∧ ¬ Y3 j := by rw [← hY3]; exact hxy3
          rw [hY3] at hTr3
          clear hxy3 hY3
          have hz3 := hk3.size
          have hzb := hb2.size
          clear hTr2 hXl2 hb2 hk3 hpp hbw1 hS HR2 hXB2 hr83 hr8 hr9 hv1 hyl2 hyl1 hnX2
          go_wp2_with fail
          refine HB.out.mono ?_
          rintro e wz ⟨rfl, rfl⟩
          go_wp2_with (refine wpList_apps rfl (.tmp 114) (.tmp 116) rfl w.heap.size _ (.slice A9 nT c9) vsm W3.heap.size rfl rfl ?_ ?_ rfl ?_ ?_ ?_)
          case refine_1 => exact (hTr3.m.below ((Below.refl W3.heap.size W3).alloc (Nat.le_refl _) _)).row
          case refine_2 => exact (Blk.new W3 #[.slice A9 nT c9] 22).cell 0 rfl
          case refine_3 => rw [hnm.out]; omega
          case refine_4 => rw [World.size_alloc]; omega
          intro vm' W6 hso hks hvm'
          have b3 := (Below.refl W3.heap.size W3).alloc (Nat.le_refl _) (.cells #[.slice A9 nT c9] 22)
          have hTr6 := hTr3.more hov (by omega) (fun j hj => by have := hml1.out j hj; omega) hxy4 b3 hso hks (by rw [World.size_alloc]; exact hvm')
          have hb6 := (Below.next hb3 b3 (Nat.le_refl _)).keeps hks (fun i hi e => by have := (hTr3.m.row.lt i e).1; omega) (Nat.le_refl _)
          have hXl6 := (hXl3.below b3 hXl3.lt).keeps hks (fun e => hnM e)
          clear hTr3 hXl3 hb3 hso hks HB
          go_wp2
          go_meet
          exact ⟨S9, X2, Y3, _, vs1, _, _, vsn, made ++ [T], vsm ++ [_], rfl, hTr6, hXl6, hb6, by have := hgr.out; omega, by have := hgr.out; omega, by have := hgr.out; omega, by have := hgr.out; have := hlen.out; omega, by rw [List.length_append]; simp only [List.length_singleton]; omega, fun y hy => by
            rcases List.mem_append.1 hy with hy | hy
            · exact hmy y hy
            · simp only [List.mem_singleton] at hy; rw [hy, hTl]; omega⟩
        -- K0a]
      -- [K0b
      as_aux_lemma =>
        have hE0b : (E == 0) = false := by rw [beq_eq_false_iff_ne]; exact hE0
        have HR := Lib.hid (fun w h hx => rf_seal_no w q u br A0 n0 c0 vp2 vr2 vs2 S ng nc XB xm xc xb h hx E hE hE0)
        have HS := Lib.hid (orc_seal_no W1 p t m B n0 d n0 vp vs S ng nc XB xm xc xb hTr1.o hXB1 E hE hE0)
        clear hE hE0
        go_wp2_with fail
        refine HS.out.mono ?_
        rintro e w8 ⟨rfl, b8⟩
        have hTr8 := hTr1.below b8
        have hXl8 := hXl.below b8 hWl
        have hb8 := Below.next hb1 b8 (Nat.le_refl _)
        have hWl8 := hXl8.lt
        have x2 := hXl8.cell 2 (v := .int .i64 ng) rfl
        have x3 := hXl8.cell 3 (v := .int .i64 nc) rfl
        have x4 := hXl8.cell 4 (v := .slice XB xm xc) rfl
        have hXB8 := hXB1.below b8
        have hr8 := hTr8.r
        have keep : ∀ {w' w'' : World}, Below w8.heap.size w8 w' → Below w'.heap.size w' w'' → Below w8.heap.size w8 w'' := fun h hb => h.next hb (Nat.le_refl _)
        clear HS hTr1 hXl hb1 y2 y3 y4
        go_wp2_with fail
        have hvo := Free.val
        refine Free.wp_facts (M := [0, 0, 2, 6, 0, 16, 63, 127, 255, 255, 511, 2047]) (D := [[], [], [(1, 96)], [(2, 97)], [], [(4, 99)], [(0, 95), (3, 98), (5, 100)], [(6, 101)], [(7, 94)], [(7, 94)], [(8, 102)], [(9, 103)]]) (outs := [10, 11]) (soles := []) (E := [(0, 95, false), (1, 96, false), (2, 97, false), (3, 98, false), (4, 99, false), (5, 100, false), (6, 101, false), (7, 94, false), (8, 102, false), (9, 103, false), (10, 17, true), (11, 18, true)]) (N := 242) (S := (fun w' => Below w8.heap.size w8 w')) [Free.Fact.is ?_, Free.Fact.is ?_, Free.Fact.is ?_, Free.Fact.is ?_, Free.Fact.is ?_, Free.Fact.is ?_, Free.Fact.is ?_, Free.Fact.is ?_, Free.Fact.is ?_, Free.Fact.is ?_, Free.Fact.is ?_, Free.Fact.is ?_] (by kernel_rfl) (by kernel_rfl) rfl ((Below.refl _ _).drew) ?_ ?_
        rotate_left 12
        refine Free.cons ?_ ?_
        · intro w' hS; intro K hK; have ka2 := (hS.cell (p := ⟨W.heap.size, 2, none⟩) hWl8).trans x2; have ka3 := (hS.cell (p := ⟨W.heap.size, 3, none⟩) hWl8).trans x3; have ka4 := (hS.cell (p := ⟨W.heap.size, 4, none⟩) hWl8).trans x4; first | (refine Free.run_yes (by rfl) ?_; go_simp; refine Free.o hK hS ?_; exact rfl) | (refine Free.run_no (by rfl) (Free.o hK hS ?_); exact rfl)
        refine Free.cons ?_ ?_
        · intro w' hS; intro K hK; have ka2 := (hS.cell (p := ⟨W.heap.size, 2, none⟩) hWl8).trans x2; have ka3 := (hS.cell (p := ⟨W.heap.size, 3, none⟩) hWl8).trans x3; have ka4 := (hS.cell (p := ⟨W.heap.size, 4, none⟩) hWl8).trans x4; first | (refine Free.run_yes (by rfl) ?_; go_simp; refine Free.o hK hS ?_; exact rfl) | (refine Free.run_no (by rfl) (Free.o hK hS ?_); exact rfl)
        refine Free.cons ?_ ?_
        · intro w' hS; (rintro _ rfl); intro K hK; have ka2 := (hS.cell (p := ⟨W.heap.size, 2, none⟩) hWl8).trans x2; have ka3 := (hS.cell (p := ⟨W.heap.size, 3, none⟩) hWl8).trans x3; have ka4 := (hS.cell (p := ⟨W.heap.size, 4, none⟩) hWl8).trans x4; first | (refine Free.run_yes (by rfl) ?_; go_simp; refine Free.o hK hS ?_; exact rfl) | (refine Free.run_no (by rfl) (Free.o hK hS ?_); exact rfl)
        refine Free.cons ?_ ?_
        · intro w' hS; (rintro _ rfl); intro K hK; have ka2 := (hS.cell (p := ⟨W.heap.size, 2, none⟩) hWl8).trans x2; have ka3 := (hS.cell (p := ⟨W.heap.size, 3, none⟩) hWl8).trans x3; have ka4 := (hS.cell (p := ⟨W.heap.size, 4, none⟩) hWl8).trans x4; refine Free.run_yes (by rfl) ?_; (go_simp; refine (plain6 ng nc w').mono ?_; rintro e w2 ⟨rfl, hb⟩; go_simp; refine Free.c hK (keep hS hb) hb ?_; exact rfl)
        refine Free.cons ?_ ?_
        · intro w' hS; intro K hK; have ka2 := (hS.cell (p := ⟨W.heap.size, 2, none⟩) hWl8).trans x2; have ka3 := (hS.cell (p := ⟨W.heap.size, 3, none⟩) hWl8).trans x3; have ka4 := (hS.cell (p := ⟨W.heap.size, 4, none⟩) hWl8).trans x4; first | (refine Free.run_yes (by rfl) ?_; go_simp; refine Free.o hK hS ?_; exact rfl) | (refine Free.run_no (by rfl) (Free.o hK hS ?_); exact rfl)
        refine Free.cons ?_ ?_
        · intro w' hS; (rintro _ rfl); intro K hK; have ka2 := (hS.cell (p := ⟨W.heap.size, 2, none⟩) hWl8).trans x2; have ka3 := (hS.cell (p := ⟨W.heap.size, 3, none⟩) hWl8).trans x3; have ka4 := (hS.cell (p := ⟨W.heap.size, 4, none⟩) hWl8).trans x4; first | (refine Free.run_yes (by rfl) ?_; go_simp; refine Free.o hK hS ?_; exact rfl) | (refine Free.run_no (by rfl) (Free.o hK hS ?_); exact rfl)
        refine Free.cons ?_ ?_
        · intro w' hS; (rintro _ rfl); (rintro _ rfl); (rintro _ rfl); intro K hK; have ka2 := (hS.cell (p := ⟨W.heap.size, 2, none⟩) hWl8).trans x2; have ka3 := (hS.cell (p := ⟨W.heap.size, 3, none⟩) hWl8).trans x3; have ka4 := (hS.cell (p := ⟨W.heap.size, 4, none⟩) hWl8).trans x4; refine Free.run_yes (by rfl) ?_; (go_simp; refine (HR.out w' (hr8.below hS) (hXB8.below hS)).mono ?_; rintro e w2 ⟨rfl, hb⟩; go_simp; refine Free.c hK (keep hS hb) hb ?_; exact rfl)
        refine Free.cons ?_ ?_
        · intro w' hS; (rintro _ rfl); intro K hK; have ka2 := (hS.cell (p := ⟨W.heap.size, 2, none⟩) hWl8).trans x2; have ka3 := (hS.cell (p := ⟨W.heap.size, 3, none⟩) hWl8).trans x3; have ka4 := (hS.cell (p := ⟨W.heap.size, 4, none⟩) hWl8).trans x4; first | (refine Free.run_yes (by rfl) ?_; go_simp; refine Free.o hK hS ?_; exact rfl) | (refine Free.run_no (by rfl) (Free.o hK hS ?_); exact rfl)
        refine Free.cons ?_ ?_
        · intro w' hS; (rintro _ rfl); intro K hK; have ka2 := (hS.cell (p := ⟨W.heap.size, 2, none⟩) hWl8).trans x2; have ka3 := (hS.cell (p := ⟨W.heap.size, 3, none⟩) hWl8).trans x3; have ka4 := (hS.cell (p := ⟨W.heap.size, 4, none⟩) hWl8).trans x4; first | (refine Free.run_yes (by rfl) ?_; go_simp; refine Free.o hK hS ?_; exact rfl) | (refine Free.run_no (by rfl) (Free.o hK hS ?_); exact rfl)
        refine Free.cons ?_ ?_
        · intro w' hS; (rintro _ rfl); intro K hK; have ka2 := (hS.cell (p := ⟨W.heap.size, 2, none⟩) hWl8).trans x2; have ka3 := (hS.cell (p := ⟨W.heap.size, 3, none⟩) hWl8).trans x3; have ka4 := (hS.cell (p := ⟨W.heap.size, 4, none⟩) hWl8).trans x4; first | (refine Free.run_yes (by rfl) ?_; go_simp; refine Free.o hK hS ?_; exact rfl) | (refine Free.run_no (by rfl) (Free.o hK hS ?_); exact rfl)
        refine Free.cons ?_ ?_
        · intro w' hS; (rintro _ rfl); intro K hK; have ka2 := (hS.cell (p := ⟨W.heap.size, 2, none⟩) hWl8).trans x2; have ka3 := (hS.cell (p := ⟨W.heap.size, 3, none⟩) hWl8).trans x3; have ka4 := (hS.cell (p := ⟨W.heap.size, 4, none⟩) hWl8).trans x4; first | (refine Free.run_yes (by rfl) ?_; go_simp; refine Free.o hK hS ?_; exact rfl) | (refine Free.run_no (by rfl) (Free.o hK hS ?_); exact rfl)
        refine Free.cons ?_ ?_
        · intro w' hS; (rintro _ rfl); intro K hK; have ka2 := (hS.cell (p := ⟨W.heap.size, 2, none⟩) hWl8).trans x2; have ka3 := (hS.cell (p := ⟨W.heap.size, 3, none⟩) hWl8).trans x3; have ka4 := (hS.cell (p := ⟨W.heap.size, 4, none⟩) hWl8).trans x4; first | (refine Free.run_yes (by rfl) ?_; go_simp; refine Free.o hK hS ?_; exact rfl) | (refine Free.run_no (by rfl) (Free.o hK hS ?_); exact rfl)
        exact Free.nil
        clear hvo
        intro w' hS; intro v0; intro v1; intro v2; intro v3; intro v4; intro v5; intro v6; intro v7; intro v8; intro v9; (rintro _ rfl); (rintro _ rfl); (try simp only [Act.put, List.setIfInBounds_toArray, List.set_cons_zero, List.set_cons_succ]); refine Free.toldE_nil ?_
        obtain ⟨w9, rfl⟩ : ∃ W, W = w' := ⟨_, rfl⟩
        have HB := Lib.hid (ref_Bytes none none 0 0 0 0 [] [] w9 (RB.none_ w9) (RB.none_ w9))
        rw [beq_self_eq_true] at HB
        have hTr9 := hTr8.below hS
        have hXl9 := hXl8.below hS hXl8.lt
        have hb9 := Below.next hb8 hS (Nat.le_refl _)
        clear hr8 hTr8 hXl8 hb8
        go_wp2_with fail
        refine HB.out.mono ?_
        rintro e wz ⟨rfl, rfl⟩
        go_wp2
        go_meet
        exact ⟨S, X, Y, _, vs, _, _, vs2, made, vsm, rfl, hTr9, hXl9, hb9, hSL, by omega, by omega, by omega, by omega, hmy⟩
      -- K0b]
      -- K0]
    have hk0b : (kd == 0) = false := by rw [beq_eq_false_iff_ne]; exact hk0
    by_cases hk1 : kd = 1
    · subst hk1
      -- [K1
      as_aux_lemma =>
        have HO := Lib.hid (orc_open W1 p t m B n0 d n0 vp vs S XB xm xc xb hTr1.o hXB1 (by omega) (by omega))
        have HR := Lib.hid (fun w h hx => rf_open w q u br A0 n0 c0 vp2 vr2 vs2 S XB xm xc xb h hx (by omega) (by omega) (by omega))
        generalize openE S xb = E at HO HR
        generalize openT S xb = T at HO HR
        go_wp2_with fail
        refine HO.out.mono ?_
        rintro e w8 ⟨A8, n8, c8, rfl, hr8, b8⟩
        have hTr8 := hTr1.below b8
        have hXl8 := hXl.below b8 hWl
        have x4 := hXl8.cell 4 (v := .slice XB xm xc) rfl
        have hb8 := Below.next hb1 b8 (Nat.le_refl _)
        have HR8 := Lib.hid (HR.out w8 hTr8.r (hXB1.below b8))
        clear HR HO hTr1 hXl hb1
        go_wp2_with fail
        refine HR8.out.mono ?_
        rintro e w9 ⟨A9, n9, c9, rfl, hr9, b9⟩
        have HB := Lib.hid (ref_Bytes _ _ _ _ _ _ _ _ w9 (hr8.below b9) hr9)
        rw [beq_self_eq_true] at HB
        have hTr9 := hTr8.below b9
        have hXl9 := hXl8.below b9 hXl8.lt
        have hb9 := Below.next hb8 b9 (Nat.le_refl _)
        clear HR8 hTr8 hXl8 hb8 hr8 hr9
        go_wp2_with fail
        refine HB.out.mono ?_
        rintro e wz ⟨rfl, rfl⟩
        go_wp2
        go_meet
        exact ⟨S, X, Y, _, vs, _, _, vs2, made, vsm, rfl, hTr9, hXl9, hb9, hSL, by omega, by omega, by omega, by omega, hmy⟩
      -- K1]
    have hk1b : (kd == 1) = false := by rw [beq_eq_false_iff_ne]; exact hk1
    by_cases hk2 : kd = 2
    · subst hk2
      -- [K2
      as_aux_lemma =>
        have hxn := hTr1.xn
        have htu : t < W1.heap.size ∧ m < W1.heap.size := ⟨hTr1.xl t hTr1.xt, hTr1.xl m hTr1.xb⟩
        have hqu : q < W1.heap.size ∧ u < W1.heap.size ∧ br < W1.heap.size := ⟨(hTr1.yl q hTr1.yq).2, (hTr1.yl u hTr1.yu).2, (hTr1.yl br hTr1.yb).2⟩
        obtain ⟨ok1, okP⟩ := padOk_self S (ng, nc) hTr1.o.kl hTr1.o.l1 (by rw [hSL]; omega) (by omega) (by omega)
        have hkP := padS_known S (ng, nc)
        have hgr := padS_grow S (ng, nc)
        rw [hSL] at hgr
        have hTl : (padOf S (ng, nc)).length = LL := (rf_padl hTr1.r (ng, nc)).trans hSL
        obtain ⟨T, hT⟩ : ∃ T, padOf S (ng, nc) = T := ⟨_, rfl⟩
        obtain ⟨P9, hP9⟩ : ∃ P9, padS S (ng, nc) = P9 := ⟨_, rfl⟩
        rw [hT] at ok1 okP hTl
        rw [hP9] at ok1 okP hkP hgr
        clear hT hP9
        have hI0 : PadI W1 w.heap.size W.heap.size p t m B n0 d n0 vp q u br A0 n0 c0 vp2 (.slice Am nm cm) made vsm P9 (ng, nc) T W1 := ⟨S, S, X, Y, vs, vr2, vs2, ok1, ok1, hTr1, Keeps.refl _ _, hnX, hnY, .inl (fun j hj => (hTr1.yl j (hTr1.yr j hj)).2)⟩
        have hI1 := hI0.below (Below.refl W1.heap.size W1).drew
        have hR : ∀ {w w' : World}, Below w.heap.size w w' → PadR W1.heap.size t u P9 w w' := fun h => PadR.of_below h
        have hTl := Lib.hid hTl
        replace hkP := Lib.hid hkP
        replace hgr := Lib.hid hgr
        clear hI0 ok1 hTr1 y2 y3 y4
        go_wp2_with fail
        have hvo := Free.val
        refine Free.wp_factsR (R := (PadR W1.heap.size t u P9)) (ss := []) (pures := [0, 1, 2, 4, 5, 6, 7, 9, 10]) (M := [0, 0, 2, 7, 0, 0, 32, 111, 255, 511, 1023]) (D := [[], [], [(1, 145)], [(0, 144), (2, 146)], [], [], [(5, 149)], [(6, 150)], [(4, 148), (7, 151)], [(3, 147), (8, 152)], [(9, 153)]]) (outs := [3, 8, 10]) (soles := []) (E := [(0, 144, false), (1, 145, false), (2, 146, false), (3, 147, true), (4, 148, false), (5, 149, false), (6, 150, false), (7, 151, false), (8, 152, true), (9, 153, false), (10, 14, true)]) (N := 242) (S := (fun (_ : Nat) w' => PadI W1 w.heap.size W.heap.size p t m B n0 d n0 vp q u br A0 n0 c0 vp2 (.slice Am nm cm) made vsm P9 (ng, nc) T w')) [Free.FactR.is ?_, Free.FactR.is ?_, Free.FactR.is ?_, Free.FactR.pad1 W1.heap.size t u P9 T, Free.FactR.is ?_, Free.FactR.is ?_, Free.FactR.is ?_, Free.FactR.is ?_, Free.FactR.pad2 W1.heap.size t u P9 T, Free.FactR.is ?_, Free.FactR.is ?_] (by kernel_rfl) (by kernel_rfl) (by kernel_rfl) rfl rfl (by decide) (hI1) ?_ ?_
        rotate_left 9
        refine Free.cons ?_ ?_
        · intro st hag; (obtain rfl : st = 0 := Nat.le_antisymm hag.2 hag.1); intro w' hS; intro K hK; first | (refine Free.run_yes (by rfl) ?_; go_simp; refine Free.oR hK (hR (Below.refl _ _)) hS ?_; exact rfl) | (refine Free.run_no (by rfl) (Free.oR hK (hR (Below.refl _ _)) hS ?_); exact rfl)
        refine Free.cons ?_ ?_
        · intro st hag; (obtain rfl : st = 0 := Nat.le_antisymm hag.2 hag.1); intro w' hS; intro K hK; first | (refine Free.run_yes (by rfl) ?_; go_simp; refine Free.oR hK (hR (Below.refl _ _)) hS ?_; exact rfl) | (refine Free.run_no (by rfl) (Free.oR hK (hR (Below.refl _ _)) hS ?_); exact rfl)
        refine Free.cons ?_ ?_
        · intro st hag; (obtain rfl : st = 0 := Nat.le_antisymm hag.2 hag.1); intro w' hS; (rintro _ rfl); intro K hK; refine Free.run_yes (by rfl) ?_; (have hx9 := hXl.keeps hS.bel (fun e => e.2 rfl); have ka2 := hx9.cell 2 (v := .int .i64 ng) rfl; have ka3 := hx9.cell 3 (v := .int .i64 nc) rfl; go_simp; refine Free.oR hK (hR (Below.refl _ _)) hS ?_; exact rfl)
        refine Free.cons ?_ ?_
        · intro st hag; (obtain rfl : st = 0 := Nat.le_antisymm hag.2 hag.1); intro w' hS; (rintro _ rfl); (rintro _ rfl); intro K hK; refine Free.run_yes (by rfl) ?_; (obtain ⟨S1, S2, X', Y', vs', vr', vs2', k1, k2, h3, h4, h5, h6, h7⟩ := hS; go_simp; refine (orc_pad w' p t m B n0 d n0 vp vs' S1 ng nc h3.o k1.d).mono ?_; rintro e w6 ⟨v, vs6, rfl, ho, hO, hk, hx, -⟩; obtain ⟨r1, r2, r3⟩ := PadI.one okP k1 k2 h3 h4 h5 h6 hbw hWl h7 htu hO hk hx; rw [k1.of] at ho; refine hK.out _ _ ⟨ho.mono (fun j hj => Nat.le_trans h4.size (ho.lt j hj).1), r3⟩ r1 (.inr r2))
        refine Free.cons ?_ ?_
        · intro st hag; (obtain rfl : st = 0 := Nat.le_antisymm hag.2 hag.1); intro w' hS; intro K hK; first | (refine Free.run_yes (by rfl) ?_; go_simp; refine Free.oR hK (hR (Below.refl _ _)) hS ?_; exact rfl) | (refine Free.run_no (by rfl) (Free.oR hK (hR (Below.refl _ _)) hS ?_); exact rfl)
        refine Free.cons ?_ ?_
        · intro st hag; (obtain rfl : st = 0 := Nat.le_antisymm hag.2 hag.1); intro w' hS; intro K hK; first | (refine Free.run_yes (by rfl) ?_; go_simp; refine Free.oR hK (hR (Below.refl _ _)) hS ?_; exact rfl) | (refine Free.run_no (by rfl) (Free.oR hK (hR (Below.refl _ _)) hS ?_); exact rfl)
        refine Free.cons ?_ ?_
        · intro st hag; (obtain rfl : st = 0 := Nat.le_antisymm hag.2 hag.1); intro w' hS; (rintro _ rfl); intro K hK; refine Free.run_yes (by rfl) ?_; (have hx9 := hXl.keeps hS.bel (fun e => e.2 rfl); have ka2 := hx9.cell 2 (v := .int .i64 ng) rfl; have ka3 := hx9.cell 3 (v := .int .i64 nc) rfl; go_simp; refine Free.oR hK (hR (Below.refl _ _)) hS ?_; exact rfl)
        refine Free.cons ?_ ?_
        · intro st hag; (obtain rfl : st = 0 := Nat.le_antisymm hag.2 hag.1); intro w' hS; (rintro _ rfl); intro K hK; refine Free.run_yes (by rfl) ?_; (go_simp; refine (plain6 ng nc w').mono ?_; rintro e w2 ⟨rfl, hb⟩; refine hK.out _ _ ?_ (hS.below hb) (.inr (hR hb)); exact rfl)
        refine Free.cons ?_ ?_
        · intro st hag; (obtain rfl : st = 0 := Nat.le_antisymm hag.2 hag.1); intro w' hS; (rintro _ rfl); (rintro _ rfl); intro K hK; refine Free.run_yes (by rfl) ?_; (obtain ⟨S1, S2, X', Y', vs', vr', vs2', k1, k2, h3, h4, h5, h6, h7⟩ := hS; go_simp; refine (rf_pad w' q u br A0 n0 c0 vp2 vr' vs2' S2 ng nc h3.r k2.d k2.ks).mono ?_; rintro e w6 ⟨v, vr6, vs6, rfl, ho, hO, hk, hv, hx, hbe⟩; obtain ⟨r1, r2, r3⟩ := PadI.two okP k1 k2 h3 h4 h5 h6 hbw hWl hkP.out h7 hqu hO hk hv hx hbe; rw [k2.of] at ho; refine hK.out _ _ ⟨ho.mono (fun j hj => Nat.le_trans h4.size (ho.lt j hj).1), r3⟩ r1 (.inr r2))
        refine Free.cons ?_ ?_
        · intro st hag; (obtain rfl : st = 0 := Nat.le_antisymm hag.2 hag.1); intro w' hS; (intro v3 h3); (intro v8 h8); intro K hK; refine Free.run_yes (by rfl) ?_; (obtain ⟨A8, c8, rfl, hr8⟩ := OB.sl h3.1 LL hTl.out; obtain ⟨A9, c9, rfl, hr9⟩ := OB.sl h8.1 LL hTl.out; go_simp; refine (ref_Bytes _ _ _ _ _ _ _ _ _ hr8 hr9).mono ?_; rintro e w2 ⟨rfl, rfl⟩; rw [beq_self_eq_true]; refine hK.out _ _ ?_ hS (.inr (hR (Below.refl _ _))); exact rfl)
        refine Free.cons ?_ ?_
        · intro st hag; (obtain rfl : st = 0 := Nat.le_antisymm hag.2 hag.1); intro w' hS; (rintro _ rfl); intro K hK; first | (refine Free.run_yes (by rfl) ?_; go_simp; refine Free.oR hK (hR (Below.refl _ _)) hS ?_; exact rfl) | (refine Free.run_no (by rfl) (Free.oR hK (hR (Below.refl _ _)) hS ?_); exact rfl)
        exact Free.nil
        clear hvo
        intro w' hS; intro v0; intro v1; intro v2; intro v3 h3; intro v4; intro v5; intro v6; intro v7; intro v8 h8; intro v9; (rintro _ rfl); (try simp only [Act.put, List.setIfInBounds_toArray, List.set_cons_zero, List.set_cons_succ]); refine Free.toldE_nil ?_
        obtain ⟨X', Y', vs', vr', vs2', hTr3, hK3⟩ := hS.fin h3.2 h8.2
        have hg9 := hgr.out
        have hXl3 := hXl.keeps hK3 (fun e => e.2 rfl)
        have hb3 := hb1.keeps hK3 (fun j hj e => by have := e.1; omega) (Nat.le_refl _)
        clear hS hXl hb1 hK3
        go_wp2
        go_meet
        exact ⟨P9, X', Y', _, vs', _, _, vs2', made, vsm, rfl, hTr3, hXl3, hb3, by omega, by omega, by omega, by omega, by omega, hmy⟩
      -- K2]
    have hk2b : (kd == 2) = false := by rw [beq_eq_false_iff_ne]; exact hk2
    by_cases hk3 : kd = 3
    · subst hk3
      -- [K3
      as_aux_lemma =>
        by_cases hkb : 0 ≤ kk ∧ kk < (nm : Int)
        rotate_left
        · have y1 := hXl.cell 1 (v := .int .i64 kk) rfl
          by_cases hka : 0 ≤ kk
          · have hkc : ¬ kk < (nm : Int) := fun e => hkb ⟨hka, e⟩
            clear hkb
            go_wp2
            go_meet
            exact ⟨S, X, Y, _, vs, _, _, vs2, made, vsm, rfl, hTr1, hXl, hb1, hSL, by omega, by omega, by omega, by omega, hmy⟩
          · clear hkb
            go_wp2
            go_meet
            exact ⟨S, X, Y, _, vs, _, _, vs2, made, vsm, rfl, hTr1, hXl, hb1, hSL, by omega, by omega, by omega, by omega, hmy⟩
        obtain ⟨kn, rfl⟩ : ∃ kn : Nat, kk = kn := ⟨kk.toNat, by omega⟩
        have hkn : kn < nm := by omega
        clear hkb
        obtain ⟨gm, rfl, -, hfc⟩ := hfm (by omega)
        obtain ⟨xv, hxv⟩ : ∃ xv, vsm[kn]? = some xv := ⟨_, List.getElem?_eq_getElem (by have := hnm.out; omega)⟩
        obtain ⟨yl, hyl⟩ : ∃ yl, made[kn]? = some yl := ⟨_, List.getElem?_eq_getElem (by have := hnm.out; have := hTr1.m.len; omega)⟩
        have hyb := hmy yl (List.mem_of_getElem? hyl)
        obtain ⟨ny, hny⟩ : ∃ ny, yl.length = ny := ⟨_, rfl⟩
        have hyo := (hTr1.m.each kn xv yl hxv hyl).1
        obtain ⟨Ay, cy, rfl, hry⟩ := OB.sl hyo ny hny
        have hcm1 := hfc kn _ hxv
        have hgm := World.block_lt_of_cell? W _ hcm1
        have k6 := (eW.cell (p := ⟨gm, kn, none⟩) hgm).trans hcm1
        have hgm1 := World.block_lt_of_cell? W1 _ k6
        have y1 := hXl.cell 1 (v := .int .i64 kn) rfl
        rw [hny] at hyb
        replace hny := Lib.hid hny
        replace hxv := Lib.hid hxv
        replace hyl := Lib.hid hyl
        have HO := Lib.hid (orc_open W1 p t m B n0 d n0 vp vs S Ay ny cy yl hTr1.o hry (by omega) (by omega))
        have HR := Lib.hid (fun w h hx => rf_open w q u br A0 n0 c0 vp2 vr2 vs2 S Ay ny cy yl h hx (by omega) (by omega) (by omega))
        generalize openE S yl = E at HO HR
        generalize openT S yl = T at HO HR
        clear hfm hfc hcm1 hgm eW hyo
        go_wp2_with fail
        refine HO.out.mono ?_
        rintro e w8 ⟨A8, n8, c8, rfl, hr8, b8⟩
        have hTr8 := hTr1.below b8
        have hXl8 := hXl.below b8 hWl
        have x1 := hXl8.cell 1 (v := .int .i64 kn) rfl
        have k7 := (b8.cell (p := ⟨gm, kn, none⟩) hgm1).trans k6
        have hgm2 := World.block_lt_of_cell? w8 _ k7
        have hb8 := Below.next hb1 b8 (Nat.le_refl _)
        have HR8 := Lib.hid (HR.out w8 hTr8.r (hry.below b8))
        clear HR HO hTr1 hXl hb1 k6
        go_wp2_with fail
        refine HR8.out.mono ?_
        rintro e w9 ⟨A9, n9, c9, rfl, hr9, b9⟩
        have HB := Lib.hid (ref_Bytes _ _ _ _ _ _ _ _ w9 (hr8.below b9) hr9)
        rw [beq_self_eq_true] at HB
        have hTr9 := hTr8.below b9
        have hXl9 := hXl8.below b9 hXl8.lt
        have hb9 := Below.next hb8 b9 (Nat.le_refl _)
        clear HR8 hTr8 hXl8 hb8 hr8 hr9
        go_wp2_with fail
        refine HB.out.mono ?_
        rintro e wz ⟨rfl, rfl⟩
        go_wp2
        go_meet
        exact ⟨S, X, Y, _, vs, _, _, vs2, made, vsm, rfl, hTr9, hXl9, hb9, hSL, by omega, by omega, by omega, by omega, hmy⟩
      -- K3]
    have hk3b : (kd == 3) = false := by rw [beq_eq_false_iff_ne]; exact hk3
    -- [K4
    go_wp2
    go_meet
    exact ⟨S, X, Y, vp, vs, vp2, vr2, vs2, made, vsm, rfl, hTr1, hXl, hb1, hSL, by omega, by omega, by omega, by omega, hmy⟩
    -- K4]
  case rest =>
    -- [RR
    as_aux_lemma =>
      obtain ⟨S', X', Y', vp', vs', vp2', vr2', vs2', made', vsm', rfl, hTr', hXl', hb', hSL', hSd', hSk', hSp', hml', hmy'⟩ := hcut
      have hO' := hTr'.o
      have hR' := hTr'.r
      have hWl' := hXl'.lt
      have hOl := hO'.lt
      have hRl := hR'.lt
      have htl := hO'.tp.blk.lt
      have hul := hR'.pb.lt
      have y2 := hXl'.cell 2 (v := .int .i64 ng) rfl
      have y3 := hXl'.cell 3 (v := .int .i64 nc) rfl
      obtain ⟨kb, hkb⟩ : ∃ b, (fndK (ng, nc) S'.ks 0).isSome = b := ⟨_, rfl⟩
      have HK1 := Lib.hid (fun w h => orc_known w p t m B n0 d n0 vp' vs' S' ng nc kb h hkb)
      have HK2 := Lib.hid (fun w h => rf_known w q u br A0 n0 c0 vp2' vr2' vs2' S' ng nc kb h hkb)
      have HL := Lib.hid (fun w h => orc_length w p t m B n0 d n0 vp' vs' S' h)
      obtain ⟨np, hnp2⟩ : ∃ np, S'.plain.length = np := ⟨_, rfl⟩
      have hnpb : np ≤ 1000000 := by omega
      obtain ⟨Ap, cp, rfl, hrp⟩ := OB.sl hO'.pl np hnp2
      obtain ⟨Aq, cq, rfl, hrq⟩ := OB.sl hR'.pl np hnp2
      have HPl := Lib.hid (fun w h => orc_plain w p t m B n0 d n0 Ap np cp vs' S' h hnpb)
      have HD := Lib.hid (fun w (h : Orc w p t m B n0 d n0 (.slice Ap np cp) vs' S') => reel_drawn w t S'.d S'.tape B n0 d n0 h.tp)
      have z0 := hO'.blk.cell 0 (v := .pointer (some ⟨t, 0, none⟩)) rfl
      have z1 := hR'.blk.cell 0 (v := .pointer (some ⟨u, 0, none⟩)) rfl
      have z2' := hR'.pb.cell 1 (v := .int .i64 S'.d) rfl
      have z4 := hR'.blk.cell 4 (v := .slice Aq np cq) rfl
      rw [hSL'] at HL
      replace HL := Lib.hid HL.out
      replace hnp2 := Lib.hid hnp2
      generalize S'.d = dd at z2' HD
      clear hkb
      obtain ⟨W5, rfl⟩ : ∃ W, W = wc := ⟨_, rfl⟩
      have keep : ∀ {w' w'' : World}, Below W5.heap.size W5 w' → Below w'.heap.size w' w'' → Below W5.heap.size W5 w'' := fun h hb => h.next hb (Nat.le_refl _)
      go_wp2_with fail
      have hvo := Free.val
      refine Free.wp_facts (M := [0, 1, 3, 7, 7, 23, 63, 7, 7, 263, 895, 2047, 4095, 8191, 16383, 32767, 65535, 131071, 262143, 524287, 1048575, 2097151, 32767, 4227071, 12615679, 29392895, 62947327, 130056191, 264273919, 536870911, 1073741823, 2147483647, 4294967295, 8589934591, 4294967295, 34359738367, 68719476735, 137438953471, 274877906943, 549755813887, 274877906943, 1374389534719, 3573412790271, 7971459301375, 17592186044415, 35184372088831, 70368744177663]) (D := [[], [(0, 194)], [(1, 195)], [(2, 196)], [(2, 196)], [(4, 198), (2, 196)], [(3, 197), (5, 199), (2, 196)], [(2, 196)], [(2, 196)], [(8, 202), (2, 196)], [(9, 203), (2, 196)], [(7, 201), (10, 204), (2, 196)], [(6, 200), (11, 205), (2, 196)], [(2, 196), (12, 206)], [(13, 207)], [(14, 208)], [(15, 209), (14, 208)], [(16, 210), (14, 208)], [(17, 211), (14, 208)], [(18, 212), (14, 208)], [(19, 213), (14, 208)], [(20, 214), (14, 208)], [(14, 208)], [(22, 216), (14, 208)], [(23, 217), (14, 208)], [(24, 218), (14, 208)], [(25, 219), (14, 208)], [(26, 220), (14, 208)], [(27, 221), (14, 208)], [(21, 215), (28, 222), (14, 208)], [(14, 208), (29, 223)], [(30, 224)], [(31, 225)], [(32, 226), (31, 225)], [(31, 225)], [(33, 227), (34, 228), (31, 225)], [(31, 225), (35, 229)], [(36, 230)], [(37, 231)], [(38, 232), (37, 231)], [(37, 231)], [(40, 234), (37, 231)], [(41, 235), (37, 231)], [(42, 236), (37, 231)], [(39, 233), (43, 237), (37, 231)], [(44, 238), (37, 231)], [(37, 231), (45, 239)]]) (outs := [46]) (soles := []) (E := [(0, 194, false), (1, 195, false), (2, 196, false), (3, 197, false), (4, 198, false), (5, 199, false), (6, 200, false), (7, 201, false), (8, 202, false), (9, 203, false), (10, 204, false), (11, 205, false), (12, 206, false), (13, 207, false), (14, 208, false), (15, 209, false), (16, 210, false), (17, 211, false), (18, 212, false), (19, 213, false), (20, 214, false), (21, 215, false), (22, 216, false), (23, 217, false), (24, 218, false), (25, 219, false), (26, 220, false), (27, 221, false), (28, 222, false), (29, 223, false), (30, 224, false), (31, 225, false), (32, 226, false), (33, 227, false), (34, 228, false), (35, 229, false), (36, 230, false), (37, 231, false), (38, 232, false), (39, 233, false), (40, 234, false), (41, 235, false), (42, 236, false), (43, 237, false), (44, 238, false), (45, 239, false), (46, 240, true)]) (N := 242) (S := (fun w' => Below W5.heap.size W5 w')) [Free.Fact.is ?_, Free.Fact.is ?_, Free.Fact.is ?_, Free.Fact.is ?_, Free.Fact.is ?_, Free.Fact.is ?_, Free.Fact.is ?_, Free.Fact.is ?_, Free.Fact.is ?_, Free.Fact.is ?_, Free.Fact.is ?_, Free.Fact.is ?_, Free.Fact.is ?_, Free.Fact.is ?_, Free.Fact.is ?_, Free.Fact.is ?_, Free.Fact.is ?_, Free.Fact.is ?_, Free.Fact.is ?_, Free.Fact.is ?_, Free.Fact.is ?_, Free.Fact.is ?_, Free.Fact.is ?_, Free.Fact.is ?_, Free.Fact.is ?_, Free.Fact.is ?_, Free.Fact.is ?_, Free.Fact.is ?_, Free.Fact.is ?_, Free.Fact.is ?_, Free.Fact.is ?_, Free.Fact.is ?_, Free.Fact.is ?_, Free.Fact.is ?_, Free.Fact.is ?_, Free.Fact.is ?_, Free.Fact.is ?_, Free.Fact.is ?_, Free.Fact.is ?_, Free.Fact.sl np S'.plain, Free.Fact.is ?_, Free.Fact.is ?_, Free.Fact.is ?_, Free.Fact.is ?_, Free.Fact.is ?_, Free.Fact.is ?_, Free.Fact.is ?_] (by kernel_rfl) (by kernel_rfl) rfl ((Below.refl _ _).drew) ?_ ?_
      rotate_left 46
      refine Free.cons ?_ ?_
      · intro w' hS; intro K hK; (try simp only [Act.put, List.setIfInBounds_toArray, List.set_cons_zero, List.set_cons_succ]); have ka2 := (hS.cell (p := ⟨W.heap.size, 2, none⟩) hWl').trans y2; have ka3 := (hS.cell (p := ⟨W.heap.size, 3, none⟩) hWl').trans y3; have kz0 := (hS.cell (p := ⟨p, 0, none⟩) hOl).trans z0; have kz1 := (hS.cell (p := ⟨q, 0, none⟩) hRl).trans z1; have kz2 := (hS.cell (p := ⟨u, 1, none⟩) hul).trans z2'; have kz4 := (hS.cell (p := ⟨q, 4, none⟩) hRl).trans z4; first | (refine Free.run_yes (by rfl) ?_; go_simp; refine Free.o hK hS ?_; exact rfl) | (refine Free.run_no (by rfl) (Free.o hK hS ?_); exact rfl)
      refine Free.cons ?_ ?_
      · intro w' hS; (rintro _ rfl); intro K hK; (try simp only [Act.put, List.setIfInBounds_toArray, List.set_cons_zero, List.set_cons_succ]); have ka2 := (hS.cell (p := ⟨W.heap.size, 2, none⟩) hWl').trans y2; have ka3 := (hS.cell (p := ⟨W.heap.size, 3, none⟩) hWl').trans y3; have kz0 := (hS.cell (p := ⟨p, 0, none⟩) hOl).trans z0; have kz1 := (hS.cell (p := ⟨q, 0, none⟩) hRl).trans z1; have kz2 := (hS.cell (p := ⟨u, 1, none⟩) hul).trans z2'; have kz4 := (hS.cell (p := ⟨q, 4, none⟩) hRl).trans z4; first | (refine Free.run_yes (by rfl) ?_; go_simp; refine Free.o hK hS ?_; exact rfl) | (refine Free.run_no (by rfl) (Free.o hK hS ?_); exact rfl)
      refine Free.cons ?_ ?_
      · intro w' hS; (rintro _ rfl); intro K hK; (try simp only [Act.put, List.setIfInBounds_toArray, List.set_cons_zero, List.set_cons_succ]); have ka2 := (hS.cell (p := ⟨W.heap.size, 2, none⟩) hWl').trans y2; have ka3 := (hS.cell (p := ⟨W.heap.size, 3, none⟩) hWl').trans y3; have kz0 := (hS.cell (p := ⟨p, 0, none⟩) hOl).trans z0; have kz1 := (hS.cell (p := ⟨q, 0, none⟩) hRl).trans z1; have kz2 := (hS.cell (p := ⟨u, 1, none⟩) hul).trans z2'; have kz4 := (hS.cell (p := ⟨q, 4, none⟩) hRl).trans z4; first | (refine Free.run_yes (by rfl) ?_; go_simp; refine Free.o hK hS ?_; exact rfl) | (refine Free.run_no (by rfl) (Free.o hK hS ?_); exact rfl)
      refine Free.cons ?_ ?_
      · intro w' hS; (rintro _ rfl); intro K hK; (try simp only [Act.put, List.setIfInBounds_toArray, List.set_cons_zero, List.set_cons_succ]); have ka2 := (hS.cell (p := ⟨W.heap.size, 2, none⟩) hWl').trans y2; have ka3 := (hS.cell (p := ⟨W.heap.size, 3, none⟩) hWl').trans y3; have kz0 := (hS.cell (p := ⟨p, 0, none⟩) hOl).trans z0; have kz1 := (hS.cell (p := ⟨q, 0, none⟩) hRl).trans z1; have kz2 := (hS.cell (p := ⟨u, 1, none⟩) hul).trans z2'; have kz4 := (hS.cell (p := ⟨q, 4, none⟩) hRl).trans z4; first | (refine Free.run_yes (by rfl) ?_; go_simp; refine Free.o hK hS ?_; exact rfl) | (refine Free.run_no (by rfl) (Free.o hK hS ?_); exact rfl)
      refine Free.cons ?_ ?_
      · intro w' hS; (rintro _ rfl); intro K hK; (try simp only [Act.put, List.setIfInBounds_toArray, List.set_cons_zero, List.set_cons_succ]); have ka2 := (hS.cell (p := ⟨W.heap.size, 2, none⟩) hWl').trans y2; have ka3 := (hS.cell (p := ⟨W.heap.size, 3, none⟩) hWl').trans y3; have kz0 := (hS.cell (p := ⟨p, 0, none⟩) hOl).trans z0; have kz1 := (hS.cell (p := ⟨q, 0, none⟩) hRl).trans z1; have kz2 := (hS.cell (p := ⟨u, 1, none⟩) hul).trans z2'; have kz4 := (hS.cell (p := ⟨q, 4, none⟩) hRl).trans z4; first | (refine Free.run_yes (by rfl) ?_; go_simp; refine Free.o hK hS ?_; exact rfl) | (refine Free.run_no (by rfl) (Free.o hK hS ?_); exact rfl)
      refine Free.cons ?_ ?_
      · intro w' hS; (rintro _ rfl); (rintro _ rfl); intro K hK; (try simp only [Act.put, List.setIfInBounds_toArray, List.set_cons_zero, List.set_cons_succ]); have ka2 := (hS.cell (p := ⟨W.heap.size, 2, none⟩) hWl').trans y2; have ka3 := (hS.cell (p := ⟨W.heap.size, 3, none⟩) hWl').trans y3; have kz0 := (hS.cell (p := ⟨p, 0, none⟩) hOl).trans z0; have kz1 := (hS.cell (p := ⟨q, 0, none⟩) hRl).trans z1; have kz2 := (hS.cell (p := ⟨u, 1, none⟩) hul).trans z2'; have kz4 := (hS.cell (p := ⟨q, 4, none⟩) hRl).trans z4; first | (refine Free.run_yes (by rfl) ?_; go_simp; refine Free.o hK hS ?_; exact rfl) | (refine Free.run_no (by rfl) (Free.o hK hS ?_); exact rfl)
      refine Free.cons ?_ ?_
      · intro w' hS; (rintro _ rfl); (rintro _ rfl); (rintro _ rfl); intro K hK; (try simp only [Act.put, List.setIfInBounds_toArray, List.set_cons_zero, List.set_cons_succ]); have ka2 := (hS.cell (p := ⟨W.heap.size, 2, none⟩) hWl').trans y2; have ka3 := (hS.cell (p := ⟨W.heap.size, 3, none⟩) hWl').trans y3; have kz0 := (hS.cell (p := ⟨p, 0, none⟩) hOl).trans z0; have kz1 := (hS.cell (p := ⟨q, 0, none⟩) hRl).trans z1; have kz2 := (hS.cell (p := ⟨u, 1, none⟩) hul).trans z2'; have kz4 := (hS.cell (p := ⟨q, 4, none⟩) hRl).trans z4; refine Free.run_yes (by rfl) ?_; (go_simp; refine (HK1.out w' (hO'.below hS)).mono ?_; rintro e w2 ⟨rfl, hb⟩; go_simp; refine Free.c hK (keep hS hb) hb ?_; exact rfl)
      refine Free.cons ?_ ?_
      · intro w' hS; (rintro _ rfl); intro K hK; (try simp only [Act.put, List.setIfInBounds_toArray, List.set_cons_zero, List.set_cons_succ]); have ka2 := (hS.cell (p := ⟨W.heap.size, 2, none⟩) hWl').trans y2; have ka3 := (hS.cell (p := ⟨W.heap.size, 3, none⟩) hWl').trans y3; have kz0 := (hS.cell (p := ⟨p, 0, none⟩) hOl).trans z0; have kz1 := (hS.cell (p := ⟨q, 0, none⟩) hRl).trans z1; have kz2 := (hS.cell (p := ⟨u, 1, none⟩) hul).trans z2'; have kz4 := (hS.cell (p := ⟨q, 4, none⟩) hRl).trans z4; first | (refine Free.run_yes (by rfl) ?_; go_simp; refine Free.o hK hS ?_; exact rfl) | (refine Free.run_no (by rfl) (Free.o hK hS ?_); exact rfl)
      refine Free.cons ?_ ?_
      · intro w' hS; (rintro _ rfl); intro K hK; (try simp only [Act.put, List.setIfInBounds_toArray, List.set_cons_zero, List.set_cons_succ]); have ka2 := (hS.cell (p := ⟨W.heap.size, 2, none⟩) hWl').trans y2; have ka3 := (hS.cell (p := ⟨W.heap.size, 3, none⟩) hWl').trans y3; have kz0 := (hS.cell (p := ⟨p, 0, none⟩) hOl).trans z0; have kz1 := (hS.cell (p := ⟨q, 0, none⟩) hRl).trans z1; have kz2 := (hS.cell (p := ⟨u, 1, none⟩) hul).trans z2'; have kz4 := (hS.cell (p := ⟨q, 4, none⟩) hRl).trans z4; first | (refine Free.run_yes (by rfl) ?_; go_simp; refine Free.o hK hS ?_; exact rfl) | (refine Free.run_no (by rfl) (Free.o hK hS ?_); exact rfl)
      refine Free.cons ?_ ?_
      · intro w' hS; (rintro _ rfl); (rintro _ rfl); intro K hK; (try simp only [Act.put, List.setIfInBounds_toArray, List.set_cons_zero, List.set_cons_succ]); have ka2 := (hS.cell (p := ⟨W.heap.size, 2, none⟩) hWl').trans y2; have ka3 := (hS.cell (p := ⟨W.heap.size, 3, none⟩) hWl').trans y3; have kz0 := (hS.cell (p := ⟨p, 0, none⟩) hOl).trans z0; have kz1 := (hS.cell (p := ⟨q, 0, none⟩) hRl).trans z1; have kz2 := (hS.cell (p := ⟨u, 1, none⟩) hul).trans z2'; have kz4 := (hS.cell (p := ⟨q, 4, none⟩) hRl).trans z4; first | (refine Free.run_yes (by rfl) ?_; go_simp; refine Free.o hK hS ?_; exact rfl) | (refine Free.run_no (by rfl) (Free.o hK hS ?_); exact rfl)
      refine Free.cons ?_ ?_
      · intro w' hS; (rintro _ rfl); (rintro _ rfl); intro K hK; (try simp only [Act.put, List.setIfInBounds_toArray, List.set_cons_zero, List.set_cons_succ]); have ka2 := (hS.cell (p := ⟨W.heap.size, 2, none⟩) hWl').trans y2; have ka3 := (hS.cell (p := ⟨W.heap.size, 3, none⟩) hWl').trans y3; have kz0 := (hS.cell (p := ⟨p, 0, none⟩) hOl).trans z0; have kz1 := (hS.cell (p := ⟨q, 0, none⟩) hRl).trans z1; have kz2 := (hS.cell (p := ⟨u, 1, none⟩) hul).trans z2'; have kz4 := (hS.cell (p := ⟨q, 4, none⟩) hRl).trans z4; refine Free.run_yes (by rfl) ?_; (go_simp; refine (plain6 ng nc w').mono ?_; rintro e w2 ⟨rfl, hb⟩; go_simp; refine Free.c hK (keep hS hb) hb ?_; exact rfl)
      refine Free.cons ?_ ?_
      · intro w' hS; (rintro _ rfl); (rintro _ rfl); (rintro _ rfl); intro K hK; (try simp only [Act.put, List.setIfInBounds_toArray, List.set_cons_zero, List.set_cons_succ]); have ka2 := (hS.cell (p := ⟨W.heap.size, 2, none⟩) hWl').trans y2; have ka3 := (hS.cell (p := ⟨W.heap.size, 3, none⟩) hWl').trans y3; have kz0 := (hS.cell (p := ⟨p, 0, none⟩) hOl).trans z0; have kz1 := (hS.cell (p := ⟨q, 0, none⟩) hRl).trans z1; have kz2 := (hS.cell (p := ⟨u, 1, none⟩) hul).trans z2'; have kz4 := (hS.cell (p := ⟨q, 4, none⟩) hRl).trans z4; refine Free.run_yes (by rfl) ?_; (go_simp; refine (HK2.out w' (hR'.below hS)).mono ?_; rintro e w2 ⟨rfl, hb⟩; go_simp; refine Free.c hK (keep hS hb) hb ?_; exact rfl)
      refine Free.cons ?_ ?_
      · intro w' hS; (rintro _ rfl); (rintro _ rfl); (rintro _ rfl); intro K hK; (try simp only [Act.put, List.setIfInBounds_toArray, List.set_cons_zero, List.set_cons_succ]); have ka2 := (hS.cell (p := ⟨W.heap.size, 2, none⟩) hWl').trans y2; have ka3 := (hS.cell (p := ⟨W.heap.size, 3, none⟩) hWl').trans y3; have kz0 := (hS.cell (p := ⟨p, 0, none⟩) hOl).trans z0; have kz1 := (hS.cell (p := ⟨q, 0, none⟩) hRl).trans z1; have kz2 := (hS.cell (p := ⟨u, 1, none⟩) hul).trans z2'; have kz4 := (hS.cell (p := ⟨q, 4, none⟩) hRl).trans z4; first | (refine Free.run_yes (by rfl) ?_; go_simp; refine Free.o hK hS ?_; exact rfl) | (refine Free.run_no (by rfl) (Free.o hK hS ?_); exact rfl)
      refine Free.cons ?_ ?_
      · intro w' hS; (rintro _ rfl); (rintro _ rfl); intro K hK; (try simp only [Act.put, List.setIfInBounds_toArray, List.set_cons_zero, List.set_cons_succ]); have ka2 := (hS.cell (p := ⟨W.heap.size, 2, none⟩) hWl').trans y2; have ka3 := (hS.cell (p := ⟨W.heap.size, 3, none⟩) hWl').trans y3; have kz0 := (hS.cell (p := ⟨p, 0, none⟩) hOl).trans z0; have kz1 := (hS.cell (p := ⟨q, 0, none⟩) hRl).trans z1; have kz2 := (hS.cell (p := ⟨u, 1, none⟩) hul).trans z2'; have kz4 := (hS.cell (p := ⟨q, 4, none⟩) hRl).trans z4; first | (refine Free.run_yes (by rfl) ?_; go_simp; refine Free.o hK hS ?_; exact rfl) | (refine Free.run_no (by rfl) (Free.o hK hS ?_); exact rfl)
      refine Free.cons ?_ ?_
      · intro w' hS; (rintro _ rfl); intro K hK; (try simp only [Act.put, List.setIfInBounds_toArray, List.set_cons_zero, List.set_cons_succ]); have ka2 := (hS.cell (p := ⟨W.heap.size, 2, none⟩) hWl').trans y2; have ka3 := (hS.cell (p := ⟨W.heap.size, 3, none⟩) hWl').trans y3; have kz0 := (hS.cell (p := ⟨p, 0, none⟩) hOl).trans z0; have kz1 := (hS.cell (p := ⟨q, 0, none⟩) hRl).trans z1; have kz2 := (hS.cell (p := ⟨u, 1, none⟩) hul).trans z2'; have kz4 := (hS.cell (p := ⟨q, 4, none⟩) hRl).trans z4; first | (refine Free.run_yes (by rfl) ?_; go_simp; refine Free.o hK hS ?_; exact rfl) | (refine Free.run_no (by rfl) (Free.o hK hS ?_); exact rfl)
      refine Free.cons ?_ ?_
      · intro w' hS; (rintro _ rfl); intro K hK; (try simp only [Act.put, List.setIfInBounds_toArray, List.set_cons_zero, List.set_cons_succ]); have ka2 := (hS.cell (p := ⟨W.heap.size, 2, none⟩) hWl').trans y2; have ka3 := (hS.cell (p := ⟨W.heap.size, 3, none⟩) hWl').trans y3; have kz0 := (hS.cell (p := ⟨p, 0, none⟩) hOl).trans z0; have kz1 := (hS.cell (p := ⟨q, 0, none⟩) hRl).trans z1; have kz2 := (hS.cell (p := ⟨u, 1, none⟩) hul).trans z2'; have kz4 := (hS.cell (p := ⟨q, 4, none⟩) hRl).trans z4; first | (refine Free.run_yes (by rfl) ?_; go_simp; refine Free.o hK hS ?_; exact rfl) | (refine Free.run_no (by rfl) (Free.o hK hS ?_); exact rfl)
      refine Free.cons ?_ ?_
      · intro w' hS; (rintro _ rfl); (rintro _ rfl); intro K hK; (try simp only [Act.put, List.setIfInBounds_toArray, List.set_cons_zero, List.set_cons_succ]); have ka2 := (hS.cell (p := ⟨W.heap.size, 2, none⟩) hWl').trans y2; have ka3 := (hS.cell (p := ⟨W.heap.size, 3, none⟩) hWl').trans y3; have kz0 := (hS.cell (p := ⟨p, 0, none⟩) hOl).trans z0; have kz1 := (hS.cell (p := ⟨q, 0, none⟩) hRl).trans z1; have kz2 := (hS.cell (p := ⟨u, 1, none⟩) hul).trans z2'; have kz4 := (hS.cell (p := ⟨q, 4, none⟩) hRl).trans z4; first | (refine Free.run_yes (by rfl) ?_; go_simp; refine Free.o hK hS ?_; exact rfl) | (refine Free.run_no (by rfl) (Free.o hK hS ?_); exact rfl)
      refine Free.cons ?_ ?_
      · intro w' hS; (rintro _ rfl); (rintro _ rfl); intro K hK; (try simp only [Act.put, List.setIfInBounds_toArray, List.set_cons_zero, List.set_cons_succ]); have ka2 := (hS.cell (p := ⟨W.heap.size, 2, none⟩) hWl').trans y2; have ka3 := (hS.cell (p := ⟨W.heap.size, 3, none⟩) hWl').trans y3; have kz0 := (hS.cell (p := ⟨p, 0, none⟩) hOl).trans z0; have kz1 := (hS.cell (p := ⟨q, 0, none⟩) hRl).trans z1; have kz2 := (hS.cell (p := ⟨u, 1, none⟩) hul).trans z2'; have kz4 := (hS.cell (p := ⟨q, 4, none⟩) hRl).trans z4; first | (refine Free.run_yes (by rfl) ?_; go_simp; refine Free.o hK hS ?_; exact rfl) | (refine Free.run_no (by rfl) (Free.o hK hS ?_); exact rfl)
      refine Free.cons ?_ ?_
      · intro w' hS; (rintro _ rfl); (rintro _ rfl); intro K hK; (try simp only [Act.put, List.setIfInBounds_toArray, List.set_cons_zero, List.set_cons_succ]); have ka2 := (hS.cell (p := ⟨W.heap.size, 2, none⟩) hWl').trans y2; have ka3 := (hS.cell (p := ⟨W.heap.size, 3, none⟩) hWl').trans y3; have kz0 := (hS.cell (p := ⟨p, 0, none⟩) hOl).trans z0; have kz1 := (hS.cell (p := ⟨q, 0, none⟩) hRl).trans z1; have kz2 := (hS.cell (p := ⟨u, 1, none⟩) hul).trans z2'; have kz4 := (hS.cell (p := ⟨q, 4, none⟩) hRl).trans z4; first | (refine Free.run_yes (by rfl) ?_; go_simp; refine Free.o hK hS ?_; exact rfl) | (refine Free.run_no (by rfl) (Free.o hK hS ?_); exact rfl)
      refine Free.cons ?_ ?_
      · intro w' hS; (rintro _ rfl); (rintro _ rfl); intro K hK; (try simp only [Act.put, List.setIfInBounds_toArray, List.set_cons_zero, List.set_cons_succ]); have ka2 := (hS.cell (p := ⟨W.heap.size, 2, none⟩) hWl').trans y2; have ka3 := (hS.cell (p := ⟨W.heap.size, 3, none⟩) hWl').trans y3; have kz0 := (hS.cell (p := ⟨p, 0, none⟩) hOl).trans z0; have kz1 := (hS.cell (p := ⟨q, 0, none⟩) hRl).trans z1; have kz2 := (hS.cell (p := ⟨u, 1, none⟩) hul).trans z2'; have kz4 := (hS.cell (p := ⟨q, 4, none⟩) hRl).trans z4; first | (refine Free.run_yes (by rfl) ?_; go_simp; refine Free.o hK hS ?_; exact rfl) | (refine Free.run_no (by rfl) (Free.o hK hS ?_); exact rfl)
      refine Free.cons ?_ ?_
      · intro w' hS; (rintro _ rfl); (rintro _ rfl); intro K hK; (try simp only [Act.put, List.setIfInBounds_toArray, List.set_cons_zero, List.set_cons_succ]); have ka2 := (hS.cell (p := ⟨W.heap.size, 2, none⟩) hWl').trans y2; have ka3 := (hS.cell (p := ⟨W.heap.size, 3, none⟩) hWl').trans y3; have kz0 := (hS.cell (p := ⟨p, 0, none⟩) hOl).trans z0; have kz1 := (hS.cell (p := ⟨q, 0, none⟩) hRl).trans z1; have kz2 := (hS.cell (p := ⟨u, 1, none⟩) hul).trans z2'; have kz4 := (hS.cell (p := ⟨q, 4, none⟩) hRl).trans z4; first | (refine Free.run_yes (by rfl) ?_; go_simp; refine Free.o hK hS ?_; exact rfl) | (refine Free.run_no (by rfl) (Free.o hK hS ?_); exact rfl)
      refine Free.cons ?_ ?_
      · intro w' hS; (rintro _ rfl); (rintro _ rfl); intro K hK; (try simp only [Act.put, List.setIfInBounds_toArray, List.set_cons_zero, List.set_cons_succ]); have ka2 := (hS.cell (p := ⟨W.heap.size, 2, none⟩) hWl').trans y2; have ka3 := (hS.cell (p := ⟨W.heap.size, 3, none⟩) hWl').trans y3; have kz0 := (hS.cell (p := ⟨p, 0, none⟩) hOl).trans z0; have kz1 := (hS.cell (p := ⟨q, 0, none⟩) hRl).trans z1; have kz2 := (hS.cell (p := ⟨u, 1, none⟩) hul).trans z2'; have kz4 := (hS.cell (p := ⟨q, 4, none⟩) hRl).trans z4; refine Free.run_yes (by rfl) ?_; (go_simp; refine (HD.out w' (hO'.below hS)).mono ?_; rintro e w2 ⟨rfl, rfl⟩; (try simp only [Free.valOf, Act.put, List.setIfInBounds_toArray, List.set_cons_zero, List.set_cons_succ, Array.getD_eq_getD_getElem?, List.getElem?_toArray, List.getElem?_cons_succ, List.getElem?_cons_zero, Option.getD_some]); refine hK.out _ _ ?_ hS (.inr (Below.refl _ _)); exact rfl)
      refine Free.cons ?_ ?_
      · intro w' hS; (rintro _ rfl); intro K hK; (try simp only [Act.put, List.setIfInBounds_toArray, List.set_cons_zero, List.set_cons_succ]); have ka2 := (hS.cell (p := ⟨W.heap.size, 2, none⟩) hWl').trans y2; have ka3 := (hS.cell (p := ⟨W.heap.size, 3, none⟩) hWl').trans y3; have kz0 := (hS.cell (p := ⟨p, 0, none⟩) hOl).trans z0; have kz1 := (hS.cell (p := ⟨q, 0, none⟩) hRl).trans z1; have kz2 := (hS.cell (p := ⟨u, 1, none⟩) hul).trans z2'; have kz4 := (hS.cell (p := ⟨q, 4, none⟩) hRl).trans z4; first | (refine Free.run_yes (by rfl) ?_; go_simp; refine Free.o hK hS ?_; exact rfl) | (refine Free.run_no (by rfl) (Free.o hK hS ?_); exact rfl)
      refine Free.cons ?_ ?_
      · intro w' hS; (rintro _ rfl); (rintro _ rfl); intro K hK; (try simp only [Act.put, List.setIfInBounds_toArray, List.set_cons_zero, List.set_cons_succ]); have ka2 := (hS.cell (p := ⟨W.heap.size, 2, none⟩) hWl').trans y2; have ka3 := (hS.cell (p := ⟨W.heap.size, 3, none⟩) hWl').trans y3; have kz0 := (hS.cell (p := ⟨p, 0, none⟩) hOl).trans z0; have kz1 := (hS.cell (p := ⟨q, 0, none⟩) hRl).trans z1; have kz2 := (hS.cell (p := ⟨u, 1, none⟩) hul).trans z2'; have kz4 := (hS.cell (p := ⟨q, 4, none⟩) hRl).trans z4; first | (refine Free.run_yes (by rfl) ?_; go_simp; refine Free.o hK hS ?_; exact rfl) | (refine Free.run_no (by rfl) (Free.o hK hS ?_); exact rfl)
      refine Free.cons ?_ ?_
      · intro w' hS; (rintro _ rfl); (rintro _ rfl); intro K hK; (try simp only [Act.put, List.setIfInBounds_toArray, List.set_cons_zero, List.set_cons_succ]); have ka2 := (hS.cell (p := ⟨W.heap.size, 2, none⟩) hWl').trans y2; have ka3 := (hS.cell (p := ⟨W.heap.size, 3, none⟩) hWl').trans y3; have kz0 := (hS.cell (p := ⟨p, 0, none⟩) hOl).trans z0; have kz1 := (hS.cell (p := ⟨q, 0, none⟩) hRl).trans z1; have kz2 := (hS.cell (p := ⟨u, 1, none⟩) hul).trans z2'; have kz4 := (hS.cell (p := ⟨q, 4, none⟩) hRl).trans z4; first | (refine Free.run_yes (by rfl) ?_; go_simp; refine Free.o hK hS ?_; exact rfl) | (refine Free.run_no (by rfl) (Free.o hK hS ?_); exact rfl)
      refine Free.cons ?_ ?_
      · intro w' hS; (rintro _ rfl); (rintro _ rfl); intro K hK; (try simp only [Act.put, List.setIfInBounds_toArray, List.set_cons_zero, List.set_cons_succ]); have ka2 := (hS.cell (p := ⟨W.heap.size, 2, none⟩) hWl').trans y2; have ka3 := (hS.cell (p := ⟨W.heap.size, 3, none⟩) hWl').trans y3; have kz0 := (hS.cell (p := ⟨p, 0, none⟩) hOl).trans z0; have kz1 := (hS.cell (p := ⟨q, 0, none⟩) hRl).trans z1; have kz2 := (hS.cell (p := ⟨u, 1, none⟩) hul).trans z2'; have kz4 := (hS.cell (p := ⟨q, 4, none⟩) hRl).trans z4; first | (refine Free.run_yes (by rfl) ?_; go_simp; refine Free.o hK hS ?_; exact rfl) | (refine Free.run_no (by rfl) (Free.o hK hS ?_); exact rfl)
      refine Free.cons ?_ ?_
      · intro w' hS; (rintro _ rfl); (rintro _ rfl); intro K hK; (try simp only [Act.put, List.setIfInBounds_toArray, List.set_cons_zero, List.set_cons_succ]); have ka2 := (hS.cell (p := ⟨W.heap.size, 2, none⟩) hWl').trans y2; have ka3 := (hS.cell (p := ⟨W.heap.size, 3, none⟩) hWl').trans y3; have kz0 := (hS.cell (p := ⟨p, 0, none⟩) hOl).trans z0; have kz1 := (hS.cell (p := ⟨q, 0, none⟩) hRl).trans z1; have kz2 := (hS.cell (p := ⟨u, 1, none⟩) hul).trans z2'; have kz4 := (hS.cell (p := ⟨q, 4, none⟩) hRl).trans z4; first | (refine Free.run_yes (by rfl) ?_; go_simp; refine Free.o hK hS ?_; exact rfl) | (refine Free.run_no (by rfl) (Free.o hK hS ?_); exact rfl)
      refine Free.cons ?_ ?_
      · intro w' hS; (rintro _ rfl); (rintro _ rfl); intro K hK; (try simp only [Act.put, List.setIfInBounds_toArray, List.set_cons_zero, List.set_cons_succ]); have ka2 := (hS.cell (p := ⟨W.heap.size, 2, none⟩) hWl').trans y2; have ka3 := (hS.cell (p := ⟨W.heap.size, 3, none⟩) hWl').trans y3; have kz0 := (hS.cell (p := ⟨p, 0, none⟩) hOl).trans z0; have kz1 := (hS.cell (p := ⟨q, 0, none⟩) hRl).trans z1; have kz2 := (hS.cell (p := ⟨u, 1, none⟩) hul).trans z2'; have kz4 := (hS.cell (p := ⟨q, 4, none⟩) hRl).trans z4; first | (refine Free.run_yes (by rfl) ?_; go_simp; refine Free.o hK hS ?_; exact rfl) | (refine Free.run_no (by rfl) (Free.o hK hS ?_); exact rfl)
      refine Free.cons ?_ ?_
      · intro w' hS; (rintro _ rfl); (rintro _ rfl); intro K hK; (try simp only [Act.put, List.setIfInBounds_toArray, List.set_cons_zero, List.set_cons_succ]); have ka2 := (hS.cell (p := ⟨W.heap.size, 2, none⟩) hWl').trans y2; have ka3 := (hS.cell (p := ⟨W.heap.size, 3, none⟩) hWl').trans y3; have kz0 := (hS.cell (p := ⟨p, 0, none⟩) hOl).trans z0; have kz1 := (hS.cell (p := ⟨q, 0, none⟩) hRl).trans z1; have kz2 := (hS.cell (p := ⟨u, 1, none⟩) hul).trans z2'; have kz4 := (hS.cell (p := ⟨q, 4, none⟩) hRl).trans z4; first | (refine Free.run_yes (by rfl) ?_; go_simp; refine Free.o hK hS ?_; exact rfl) | (refine Free.run_no (by rfl) (Free.o hK hS ?_); exact rfl)
      refine Free.cons ?_ ?_
      · intro w' hS; (rintro _ rfl); (rintro _ rfl); (rintro _ rfl); intro K hK; (try simp only [Act.put, List.setIfInBounds_toArray, List.set_cons_zero, List.set_cons_succ]); have ka2 := (hS.cell (p := ⟨W.heap.size, 2, none⟩) hWl').trans y2; have ka3 := (hS.cell (p := ⟨W.heap.size, 3, none⟩) hWl').trans y3; have kz0 := (hS.cell (p := ⟨p, 0, none⟩) hOl).trans z0; have kz1 := (hS.cell (p := ⟨q, 0, none⟩) hRl).trans z1; have kz2 := (hS.cell (p := ⟨u, 1, none⟩) hul).trans z2'; have kz4 := (hS.cell (p := ⟨q, 4, none⟩) hRl).trans z4; first | (refine Free.run_yes (by rfl) ?_; go_simp; refine Free.o hK hS ?_; exact rfl) | (refine Free.run_no (by rfl) (Free.o hK hS ?_); exact rfl)
      refine Free.cons ?_ ?_
      · intro w' hS; (rintro _ rfl); (rintro _ rfl); intro K hK; (try simp only [Act.put, List.setIfInBounds_toArray, List.set_cons_zero, List.set_cons_succ]); have ka2 := (hS.cell (p := ⟨W.heap.size, 2, none⟩) hWl').trans y2; have ka3 := (hS.cell (p := ⟨W.heap.size, 3, none⟩) hWl').trans y3; have kz0 := (hS.cell (p := ⟨p, 0, none⟩) hOl).trans z0; have kz1 := (hS.cell (p := ⟨q, 0, none⟩) hRl).trans z1; have kz2 := (hS.cell (p := ⟨u, 1, none⟩) hul).trans z2'; have kz4 := (hS.cell (p := ⟨q, 4, none⟩) hRl).trans z4; first | (refine Free.run_yes (by rfl) ?_; go_simp; refine Free.o hK hS ?_; exact rfl) | (refine Free.run_no (by rfl) (Free.o hK hS ?_); exact rfl)
      refine Free.cons ?_ ?_
      · intro w' hS; (rintro _ rfl); intro K hK; (try simp only [Act.put, List.setIfInBounds_toArray, List.set_cons_zero, List.set_cons_succ]); have ka2 := (hS.cell (p := ⟨W.heap.size, 2, none⟩) hWl').trans y2; have ka3 := (hS.cell (p := ⟨W.heap.size, 3, none⟩) hWl').trans y3; have kz0 := (hS.cell (p := ⟨p, 0, none⟩) hOl).trans z0; have kz1 := (hS.cell (p := ⟨q, 0, none⟩) hRl).trans z1; have kz2 := (hS.cell (p := ⟨u, 1, none⟩) hul).trans z2'; have kz4 := (hS.cell (p := ⟨q, 4, none⟩) hRl).trans z4; first | (refine Free.run_yes (by rfl) ?_; go_simp; refine Free.o hK hS ?_; exact rfl) | (refine Free.run_no (by rfl) (Free.o hK hS ?_); exact rfl)
      refine Free.cons ?_ ?_
      · intro w' hS; (rintro _ rfl); intro K hK; (try simp only [Act.put, List.setIfInBounds_toArray, List.set_cons_zero, List.set_cons_succ]); have ka2 := (hS.cell (p := ⟨W.heap.size, 2, none⟩) hWl').trans y2; have ka3 := (hS.cell (p := ⟨W.heap.size, 3, none⟩) hWl').trans y3; have kz0 := (hS.cell (p := ⟨p, 0, none⟩) hOl).trans z0; have kz1 := (hS.cell (p := ⟨q, 0, none⟩) hRl).trans z1; have kz2 := (hS.cell (p := ⟨u, 1, none⟩) hul).trans z2'; have kz4 := (hS.cell (p := ⟨q, 4, none⟩) hRl).trans z4; first | (refine Free.run_yes (by rfl) ?_; go_simp; refine Free.o hK hS ?_; exact rfl) | (refine Free.run_no (by rfl) (Free.o hK hS ?_); exact rfl)
      refine Free.cons ?_ ?_
      · intro w' hS; (rintro _ rfl); (rintro _ rfl); intro K hK; (try simp only [Act.put, List.setIfInBounds_toArray, List.set_cons_zero, List.set_cons_succ]); have ka2 := (hS.cell (p := ⟨W.heap.size, 2, none⟩) hWl').trans y2; have ka3 := (hS.cell (p := ⟨W.heap.size, 3, none⟩) hWl').trans y3; have kz0 := (hS.cell (p := ⟨p, 0, none⟩) hOl).trans z0; have kz1 := (hS.cell (p := ⟨q, 0, none⟩) hRl).trans z1; have kz2 := (hS.cell (p := ⟨u, 1, none⟩) hul).trans z2'; have kz4 := (hS.cell (p := ⟨q, 4, none⟩) hRl).trans z4; refine Free.run_yes (by rfl) ?_; (go_simp; refine (HL.out w' (hO'.below hS)).mono ?_; rintro e w2 ⟨rfl, rfl⟩; (try simp only [Free.valOf, Act.put, List.setIfInBounds_toArray, List.set_cons_zero, List.set_cons_succ, Array.getD_eq_getD_getElem?, List.getElem?_toArray, List.getElem?_cons_succ, List.getElem?_cons_zero, Option.getD_some]); refine hK.out _ _ ?_ hS (.inr (Below.refl _ _)); exact rfl)
      refine Free.cons ?_ ?_
      · intro w' hS; (rintro _ rfl); intro K hK; (try simp only [Act.put, List.setIfInBounds_toArray, List.set_cons_zero, List.set_cons_succ]); have ka2 := (hS.cell (p := ⟨W.heap.size, 2, none⟩) hWl').trans y2; have ka3 := (hS.cell (p := ⟨W.heap.size, 3, none⟩) hWl').trans y3; have kz0 := (hS.cell (p := ⟨p, 0, none⟩) hOl).trans z0; have kz1 := (hS.cell (p := ⟨q, 0, none⟩) hRl).trans z1; have kz2 := (hS.cell (p := ⟨u, 1, none⟩) hul).trans z2'; have kz4 := (hS.cell (p := ⟨q, 4, none⟩) hRl).trans z4; first | (refine Free.run_yes (by rfl) ?_; go_simp; refine Free.o hK hS ?_; exact rfl) | (refine Free.run_no (by rfl) (Free.o hK hS ?_); exact rfl)
      refine Free.cons ?_ ?_
      · intro w' hS; (rintro _ rfl); (rintro _ rfl); (rintro _ rfl); intro K hK; (try simp only [Act.put, List.setIfInBounds_toArray, List.set_cons_zero, List.set_cons_succ]); have ka2 := (hS.cell (p := ⟨W.heap.size, 2, none⟩) hWl').trans y2; have ka3 := (hS.cell (p := ⟨W.heap.size, 3, none⟩) hWl').trans y3; have kz0 := (hS.cell (p := ⟨p, 0, none⟩) hOl).trans z0; have kz1 := (hS.cell (p := ⟨q, 0, none⟩) hRl).trans z1; have kz2 := (hS.cell (p := ⟨u, 1, none⟩) hul).trans z2'; have kz4 := (hS.cell (p := ⟨q, 4, none⟩) hRl).trans z4; first | (refine Free.run_yes (by rfl) ?_; go_simp; refine Free.o hK hS ?_; exact rfl) | (refine Free.run_no (by rfl) (Free.o hK hS ?_); exact rfl)
      refine Free.cons ?_ ?_
      · intro w' hS; (rintro _ rfl); (rintro _ rfl); intro K hK; (try simp only [Act.put, List.setIfInBounds_toArray, List.set_cons_zero, List.set_cons_succ]); have ka2 := (hS.cell (p := ⟨W.heap.size, 2, none⟩) hWl').trans y2; have ka3 := (hS.cell (p := ⟨W.heap.size, 3, none⟩) hWl').trans y3; have kz0 := (hS.cell (p := ⟨p, 0, none⟩) hOl).trans z0; have kz1 := (hS.cell (p := ⟨q, 0, none⟩) hRl).trans z1; have kz2 := (hS.cell (p := ⟨u, 1, none⟩) hul).trans z2'; have kz4 := (hS.cell (p := ⟨q, 4, none⟩) hRl).trans z4; first | (refine Free.run_yes (by rfl) ?_; go_simp; refine Free.o hK hS ?_; exact rfl) | (refine Free.run_no (by rfl) (Free.o hK hS ?_); exact rfl)
      refine Free.cons ?_ ?_
      · intro w' hS; (rintro _ rfl); intro K hK; (try simp only [Act.put, List.setIfInBounds_toArray, List.set_cons_zero, List.set_cons_succ]); have ka2 := (hS.cell (p := ⟨W.heap.size, 2, none⟩) hWl').trans y2; have ka3 := (hS.cell (p := ⟨W.heap.size, 3, none⟩) hWl').trans y3; have kz0 := (hS.cell (p := ⟨p, 0, none⟩) hOl).trans z0; have kz1 := (hS.cell (p := ⟨q, 0, none⟩) hRl).trans z1; have kz2 := (hS.cell (p := ⟨u, 1, none⟩) hul).trans z2'; have kz4 := (hS.cell (p := ⟨q, 4, none⟩) hRl).trans z4; first | (refine Free.run_yes (by rfl) ?_; go_simp; refine Free.o hK hS ?_; exact rfl) | (refine Free.run_no (by rfl) (Free.o hK hS ?_); exact rfl)
      refine Free.cons ?_ ?_
      · intro w' hS; (rintro _ rfl); intro K hK; (try simp only [Act.put, List.setIfInBounds_toArray, List.set_cons_zero, List.set_cons_succ]); have ka2 := (hS.cell (p := ⟨W.heap.size, 2, none⟩) hWl').trans y2; have ka3 := (hS.cell (p := ⟨W.heap.size, 3, none⟩) hWl').trans y3; have kz0 := (hS.cell (p := ⟨p, 0, none⟩) hOl).trans z0; have kz1 := (hS.cell (p := ⟨q, 0, none⟩) hRl).trans z1; have kz2 := (hS.cell (p := ⟨u, 1, none⟩) hul).trans z2'; have kz4 := (hS.cell (p := ⟨q, 4, none⟩) hRl).trans z4; first | (refine Free.run_yes (by rfl) ?_; go_simp; refine Free.o hK hS ?_; exact rfl) | (refine Free.run_no (by rfl) (Free.o hK hS ?_); exact rfl)
      refine Free.cons ?_ ?_
      · intro w' hS; (rintro _ rfl); (rintro _ rfl); intro K hK; (try simp only [Act.put, List.setIfInBounds_toArray, List.set_cons_zero, List.set_cons_succ]); have ka2 := (hS.cell (p := ⟨W.heap.size, 2, none⟩) hWl').trans y2; have ka3 := (hS.cell (p := ⟨W.heap.size, 3, none⟩) hWl').trans y3; have kz0 := (hS.cell (p := ⟨p, 0, none⟩) hOl).trans z0; have kz1 := (hS.cell (p := ⟨q, 0, none⟩) hRl).trans z1; have kz2 := (hS.cell (p := ⟨u, 1, none⟩) hul).trans z2'; have kz4 := (hS.cell (p := ⟨q, 4, none⟩) hRl).trans z4; refine Free.run_yes (by rfl) ?_; (go_simp; refine (HPl.out w' (hO'.below hS)).mono ?_; rintro e w2 ⟨v, rfl, ho, hb⟩; (try simp only [Free.valOf, Act.put, List.setIfInBounds_toArray, List.set_cons_zero, List.set_cons_succ, Array.getD_eq_getD_getElem?, List.getElem?_toArray, List.getElem?_cons_succ, List.getElem?_cons_zero, Option.getD_some]); refine hK.out _ _ (OB.sl ho np hnp2.out) (keep hS hb) (.inr hb))
      refine Free.cons ?_ ?_
      · intro w' hS; (rintro _ rfl); intro K hK; (try simp only [Act.put, List.setIfInBounds_toArray, List.set_cons_zero, List.set_cons_succ]); have ka2 := (hS.cell (p := ⟨W.heap.size, 2, none⟩) hWl').trans y2; have ka3 := (hS.cell (p := ⟨W.heap.size, 3, none⟩) hWl').trans y3; have kz0 := (hS.cell (p := ⟨p, 0, none⟩) hOl).trans z0; have kz1 := (hS.cell (p := ⟨q, 0, none⟩) hRl).trans z1; have kz2 := (hS.cell (p := ⟨u, 1, none⟩) hul).trans z2'; have kz4 := (hS.cell (p := ⟨q, 4, none⟩) hRl).trans z4; first | (refine Free.run_yes (by rfl) ?_; go_simp; refine Free.o hK hS ?_; exact rfl) | (refine Free.run_no (by rfl) (Free.o hK hS ?_); exact rfl)
      refine Free.cons ?_ ?_
      · intro w' hS; (rintro _ rfl); (rintro _ rfl); intro K hK; (try simp only [Act.put, List.setIfInBounds_toArray, List.set_cons_zero, List.set_cons_succ]); have ka2 := (hS.cell (p := ⟨W.heap.size, 2, none⟩) hWl').trans y2; have ka3 := (hS.cell (p := ⟨W.heap.size, 3, none⟩) hWl').trans y3; have kz0 := (hS.cell (p := ⟨p, 0, none⟩) hOl).trans z0; have kz1 := (hS.cell (p := ⟨q, 0, none⟩) hRl).trans z1; have kz2 := (hS.cell (p := ⟨u, 1, none⟩) hul).trans z2'; have kz4 := (hS.cell (p := ⟨q, 4, none⟩) hRl).trans z4; first | (refine Free.run_yes (by rfl) ?_; go_simp; refine Free.o hK hS ?_; exact rfl) | (refine Free.run_no (by rfl) (Free.o hK hS ?_); exact rfl)
      refine Free.cons ?_ ?_
      · intro w' hS; (rintro _ rfl); (rintro _ rfl); intro K hK; (try simp only [Act.put, List.setIfInBounds_toArray, List.set_cons_zero, List.set_cons_succ]); have ka2 := (hS.cell (p := ⟨W.heap.size, 2, none⟩) hWl').trans y2; have ka3 := (hS.cell (p := ⟨W.heap.size, 3, none⟩) hWl').trans y3; have kz0 := (hS.cell (p := ⟨p, 0, none⟩) hOl).trans z0; have kz1 := (hS.cell (p := ⟨q, 0, none⟩) hRl).trans z1; have kz2 := (hS.cell (p := ⟨u, 1, none⟩) hul).trans z2'; have kz4 := (hS.cell (p := ⟨q, 4, none⟩) hRl).trans z4; first | (refine Free.run_yes (by rfl) ?_; go_simp; refine Free.o hK hS ?_; exact rfl) | (refine Free.run_no (by rfl) (Free.o hK hS ?_); exact rfl)
      refine Free.cons ?_ ?_
      · intro w' hS; (rintro _ rfl); (rintro _ rfl); intro K hK; (try simp only [Act.put, List.setIfInBounds_toArray, List.set_cons_zero, List.set_cons_succ]); have ka2 := (hS.cell (p := ⟨W.heap.size, 2, none⟩) hWl').trans y2; have ka3 := (hS.cell (p := ⟨W.heap.size, 3, none⟩) hWl').trans y3; have kz0 := (hS.cell (p := ⟨p, 0, none⟩) hOl).trans z0; have kz1 := (hS.cell (p := ⟨q, 0, none⟩) hRl).trans z1; have kz2 := (hS.cell (p := ⟨u, 1, none⟩) hul).trans z2'; have kz4 := (hS.cell (p := ⟨q, 4, none⟩) hRl).trans z4; first | (refine Free.run_yes (by rfl) ?_; go_simp; refine Free.o hK hS ?_; exact rfl) | (refine Free.run_no (by rfl) (Free.o hK hS ?_); exact rfl)
      refine Free.cons ?_ ?_
      · intro w' hS; (intro v39 h39); (rintro _ rfl); (rintro _ rfl); intro K hK; (try simp only [Act.put, List.setIfInBounds_toArray, List.set_cons_zero, List.set_cons_succ]); have ka2 := (hS.cell (p := ⟨W.heap.size, 2, none⟩) hWl').trans y2; have ka3 := (hS.cell (p := ⟨W.heap.size, 3, none⟩) hWl').trans y3; have kz0 := (hS.cell (p := ⟨p, 0, none⟩) hOl).trans z0; have kz1 := (hS.cell (p := ⟨q, 0, none⟩) hRl).trans z1; have kz2 := (hS.cell (p := ⟨u, 1, none⟩) hul).trans z2'; have kz4 := (hS.cell (p := ⟨q, 4, none⟩) hRl).trans z4; refine Free.run_yes (by rfl) ?_; (obtain ⟨A9, c9, rfl, hr9⟩ := h39; go_simp; refine (ref_Bytes _ _ _ _ _ _ _ _ _ hr9 (hrq.below hS)).mono ?_; rintro e w2 ⟨rfl, rfl⟩; rw [beq_self_eq_true]; (try simp only [Free.valOf, Act.put, List.setIfInBounds_toArray, List.set_cons_zero, List.set_cons_succ, Array.getD_eq_getD_getElem?, List.getElem?_toArray, List.getElem?_cons_succ, List.getElem?_cons_zero, Option.getD_some]); refine hK.out _ _ ?_ hS (.inr (Below.refl _ _)); exact rfl)
      refine Free.cons ?_ ?_
      · intro w' hS; (rintro _ rfl); (rintro _ rfl); intro K hK; (try simp only [Act.put, List.setIfInBounds_toArray, List.set_cons_zero, List.set_cons_succ]); have ka2 := (hS.cell (p := ⟨W.heap.size, 2, none⟩) hWl').trans y2; have ka3 := (hS.cell (p := ⟨W.heap.size, 3, none⟩) hWl').trans y3; have kz0 := (hS.cell (p := ⟨p, 0, none⟩) hOl).trans z0; have kz1 := (hS.cell (p := ⟨q, 0, none⟩) hRl).trans z1; have kz2 := (hS.cell (p := ⟨u, 1, none⟩) hul).trans z2'; have kz4 := (hS.cell (p := ⟨q, 4, none⟩) hRl).trans z4; first | (refine Free.run_yes (by rfl) ?_; go_simp; refine Free.o hK hS ?_; exact rfl) | (refine Free.run_no (by rfl) (Free.o hK hS ?_); exact rfl)
      refine Free.cons ?_ ?_
      · intro w' hS; (rintro _ rfl); (rintro _ rfl); intro K hK; (try simp only [Act.put, List.setIfInBounds_toArray, List.set_cons_zero, List.set_cons_succ]); have ka2 := (hS.cell (p := ⟨W.heap.size, 2, none⟩) hWl').trans y2; have ka3 := (hS.cell (p := ⟨W.heap.size, 3, none⟩) hWl').trans y3; have kz0 := (hS.cell (p := ⟨p, 0, none⟩) hOl).trans z0; have kz1 := (hS.cell (p := ⟨q, 0, none⟩) hRl).trans z1; have kz2 := (hS.cell (p := ⟨u, 1, none⟩) hul).trans z2'; have kz4 := (hS.cell (p := ⟨q, 4, none⟩) hRl).trans z4; first | (refine Free.run_yes (by rfl) ?_; go_simp; refine Free.o hK hS ?_; exact rfl) | (refine Free.run_no (by rfl) (Free.o hK hS ?_); exact rfl)
      exact Free.nil
      clear hvo
      intro w' hS; intro v0; intro v1; intro v2; intro v3; intro v4; intro v5; intro v6; intro v7; intro v8; intro v9; intro v10; intro v11; intro v12; intro v13; intro v14; intro v15; intro v16; intro v17; intro v18; intro v19; intro v20; intro v21; intro v22; intro v23; intro v24; intro v25; intro v26; intro v27; intro v28; intro v29; intro v30; intro v31; intro v32; intro v33; intro v34; intro v35; intro v36; intro v37; intro v38; intro v39; intro v40; intro v41; intro v42; intro v43; intro v44; intro v45; (rintro _ rfl); (try simp only [Act.put, List.setIfInBounds_toArray, List.set_cons_zero, List.set_cons_succ]); refine Free.toldE_nil ?_
      go_wp2
      go_roundw
      case rel => exact ⟨j + 1, S', X', Y', _, vs', _, _, vs2', _, made', vsm', by omega, by go_num, rfl, hTr'.below hS, Below.next hb' hS (Nat.le_refl _), hSL', hSd', hSk', hSp', hml', hmy'⟩
      case measure => simp [intOf]; omega
    -- RR]
end Go.Proofs.Ytniendffanemcaa
