/- The document's DecodeRow. -/
import Derived.Test.YtfldmejjepakeaaRwE
import Derived.Test.YtfldmejjepakeaaCut
namespace Go.Proofs.Ytfldmejjepakeaa
open Go.ChangeShapes Go.WideShapes Go.ChangeAt Go.RowKit
open Go.ChangeMaps (open_string shut_string)
set_option linter.unusedVariables false
set_option linter.unusedSimpArgs false
set_option maxRecDepth 100000
open Go.Deep

set_option maxHeartbeats 8000000 in
theorem ref_decR (A : Option Addr) (n c : Nat) (b : List UInt8) (w : World) (h : RB w A n c b) (hn : n ≤ 100000) :
    Calls Try.prog 15 #[.slice A n c] w fun e w' => ∃ A' n' c', e = .returned (.tuple #[.agg #[.int .i64 (decR b).1.t, .slice A' n' c'], .int .i64 (decR b).2]) ∧ RV w' A' n' c' (decR b).1.V ∧ Below w.heap.size w w' := by
  have hbn := h.len
  have hnc := h.cap
  have hX0 := Blk.new w #[.int .i64 0, .slice none 0 0] 26
  have bl0 : Below w.heap.size w (w.alloc (.cells #[.int .i64 0, .slice none 0 0] 26)) := (by repeat (first | exact Below.refl _ _ | assumption | apply below_drewN' | apply Below.drew | refine Below.alloc ?_ (by first | omega | (simp; done) | (simp; omega)) _ | refine Below.setCell ?_ (by first | omega | (simp; done) | (simp; omega)) _))
  by_cases h37 : n = 37
  rotate_left
  · have hd := Lib.hid (decR_short (b := b) (by omega))
    have hne : ((n : Int) != 37) = true := by rw [bne_iff_ne]; omega
    go_enter Try.func15, Try.ntmps15
    go_wp2
    refine bodyPost_ret (v := .tuple #[.agg #[.int .i64 0, .slice none 0 0], .int .i64 2]) (by simp [results, Try.results15, go_sem]) rfl ?_
    rw [hd.out]
    exact ⟨none, 0, 0, rfl, RV.none_ _, (by repeat (first | exact Below.refl _ _ | assumption | apply below_drewN' | apply Below.drew | refine Below.alloc ?_ (by first | omega | (simp; done) | (simp; omega)) _ | refine Below.setCell ?_ (by first | omega | (simp; done) | (simp; omega)) _))⟩
  subst h37
  obtain ⟨x, hx⟩ : ∃ x, b[0]? = some x := ⟨_, List.getElem?_eq_getElem (by omega)⟩
  obtain ⟨g, o, rfl, hc⟩ := h.at_ (by omega)
  have hcx : w.cell? ⟨g, o, none⟩ = some (.int .u8 x.toNat) := hc 0 x hx
  have hgw := World.block_lt_of_cell? w _ hcx
  have hxl := UInt8.toNat_lt x
  have hwx : IntKind.i64.wrap (x.toNat : Int) = (x.toNat : Int) := IntWalk.i64_in _ (by omega)
  obtain ⟨t, ht⟩ : ∃ t, t = (x.toNat : Int) - 1 := ⟨_, rfl⟩
  have hwt : IntKind.i64.wrap ((x.toNat : Int) - 1) = t := by rw [ht]; exact IntWalk.i64_in _ (by omega)
  have hP := Lib.hid (show ∀ V, prsV 4 (b.drop 1) = V → rowP b = ⟨t, V⟩ from fun V hV => by unfold rowP; rw [hV, ht, List.getD_eq_getElem?_getD, hx]; rfl)
  have hcH := Lib.hid hc
  replace ht := Lib.hid ht
  clear hc hx hxl
  have hY0 := Blk.new2 w (.cells #[.int .i64 0, .slice none 0 0] 26) #[.int .i64 t, .slice none 0 0] 26
  go_enter Try.func15, Try.ntmps15
  go_wp2
  go_loopw [5] (fun i wr => ∃ (k : Nat) (v : Value) (V : List ValR), k ≤ 4 ∧ i = .int .i64 k ∧ Blk wr w.heap.size #[.int .i64 0, .slice none 0 0] 26 ∧ Blk wr (w.heap.size + 1) #[.int .i64 t, v] 26 ∧ VO wr (w.heap.size + 2) v V ∧ Hid (V.length = k) ∧ Hid (V ++ prsV (4 - k) (b.drop (1 + 9 * k)) = prsV 4 (b.drop 1)) ∧ Below w.heap.size w wr) (fun i _ => 4 - (intOf i).toNat)
  case atStart => exact ⟨0, _, [], by omega, rfl, hX0.alloc _, hY0, VO.nil _ _, Lib.hid rfl, Lib.hid rfl, (by repeat (first | exact Below.refl _ _ | assumption | apply below_drewN' | apply Below.drew | refine Below.alloc ?_ (by first | omega | (simp; done) | (simp; omega)) _ | refine Below.setCell ?_ (by first | omega | (simp; done) | (simp; omega)) _))⟩
  case round =>
    clear bl0 hX0 hY0
    obtain ⟨k, v, V, hk, rfl, hX, hY, hO, hVl, hps, bl⟩ := hrel
    obtain ⟨A', c', rfl, hRV⟩ := hO.rv k hVl.out
    have y0 := hY.cell 0 (v := .int .i64 t) rfl
    have y1 := hY.cell 1 (v := .slice A' k c') rfl
    have hsz := hY.lt
    obtain ⟨m, hm⟩ : ∃ m, 9 * k = m := ⟨_, rfl⟩
    obtain ⟨a, ha⟩ : ∃ a, 1 + m = a := ⟨_, rfl⟩
    obtain ⟨z, hz⟩ : ∃ z, a + 9 = z := ⟨_, rfl⟩
    have hq0 : 9 * (k : Int) = (m : Int) := by omega
    have hq1 : 1 + (m : Int) = (a : Int) := by omega
    have hq2 : 10 + (m : Int) = (z : Int) := by omega
    have hw0 : IntKind.i64.wrap (9 * (k : Int)) = (m : Int) := by rw [hq0]; exact IntWalk.i64_in _ (by omega)
    have hw1 : IntKind.i64.wrap (1 + (m : Int)) = (a : Int) := by rw [hq1]; exact IntWalk.i64_in _ (by omega)
    have hw2 : IntKind.i64.wrap (10 + (m : Int)) = (z : Int) := by rw [hq2]; exact IntWalk.i64_in _ (by omega)
    have hw3 : IntKind.i64.wrap (m : Int) = (m : Int) := IntWalk.i64_in _ (by omega)
    have hw4 : IntKind.i64.wrap (a : Int) = (a : Int) := IntWalk.i64_in _ (by omega)
    have hw5 : IntKind.i64.wrap (z : Int) = (z : Int) := IntWalk.i64_in _ (by omega)
    rw [hm, ha] at hps
    by_cases hk4 : k < 4
    · have haz : a < 37 := by omega
      obtain ⟨y, hy⟩ : ∃ y, b[a]? = some y := ⟨_, List.getElem?_eq_getElem (by omega)⟩
      have hcy : wr.cell? ⟨g, o + a, none⟩ = some (.int .u8 y.toNat) := (bl.cell (p := ⟨g, o + a, none⟩) hgw).trans (hcH.out a y hy)
      have hyH := Lib.hid hy
      have hdr : (b.drop a).take 9 = (b.take z).drop a := by rw [List.drop_take, show z - a = 9 by omega]
      obtain ⟨d, hdd⟩ : ∃ d, (b.drop a).take 9 = d := ⟨_, rfl⟩
      by_cases hy0 : y = 0
      · have hy1 : ¬ (0 < (y.toNat : Int)) := by rw [hy0]; decide
        have hVe : Hid (prsV 4 (b.drop 1) = V) := Lib.hid (by rw [← hps.out, prsV_none, List.append_nil]; rw [hdd]; refine dkV_zero d ?_; rw [← hdd, List.getD_eq_getElem?_getD, List.getElem?_take, if_pos (by omega), List.getElem?_drop, Nat.add_zero, hy, hy0]; rfl)
        replace hdd := Lib.hid hdd
        replace hm := Lib.hid hm
        replace ha := Lib.hid ha
        replace hz := Lib.hid hz
        clear hdr hy hy0
        have hPe := Lib.hid (hP.out V hVe.out)
        have HE := Lib.hid (fun w (h : RV w A' k c' V) => ref_encodeR t A' k c' V w h)
        obtain ⟨E, hE⟩ : ∃ E, rowE ⟨t, V⟩ = E := ⟨_, rfl⟩
        obtain ⟨T, hT⟩ : ∃ T, rowT ⟨t, V⟩ = T := ⟨_, rfl⟩
        obtain ⟨tl, htl⟩ : ∃ tl, T.length = tl := ⟨_, rfl⟩
        obtain ⟨q, hq⟩ : ∃ q, (T == b) = q := ⟨_, rfl⟩
        have hres := Lib.hid (show E = 0 → q = true → decR b = (⟨t, V⟩, 0) from fun h0 h1 => by
          have hb : rowB ⟨t, V⟩ = b := by
            rw [← hq, ← hT] at h1
            unfold rowT at h1
            rw [if_pos (hE.trans h0)] at h1
            simpa using h1
          have := decR_yes (b := b) hbn (by rw [hPe.out, hE, h0]) (by rw [hPe.out]; exact hb)
          rw [this, hPe.out])
        have hres2 := Lib.hid (show ¬ (E = 0 ∧ q = true) → decR b = (⟨0, []⟩, 2) from fun hh => decR_no fun h3 => hh (by
          rw [hPe.out] at h3
          refine ⟨hE.symm.trans h3.2.1, ?_⟩
          rw [← hq, ← hT]
          unfold rowT
          rw [if_pos h3.2.1, h3.2.2]
          simp))
        rw [hE, hT] at HE
        replace htl := Lib.hid htl
        replace hq := Lib.hid hq
        clear hE hT hps hPe hVe
        go_wp2_with fail
        refine (HE.out _ hRV).mono ?_
        rintro e w5 ⟨v5, rfl, hv5, e5⟩
        obtain ⟨A5, c5, rfl, hR5⟩ := hv5.sl tl htl.out
        replace bl := Below.next bl e5 (Nat.le_refl _)
        replace hX := hX.below e5 hX.lt
        replace hY := hY.below e5 hY.lt
        replace hO := hO.below e5
        have hlt0 := hX.lt
        have hlt1 := hY.lt
        have xf0 := hX.fz 0
        have xf1 := hX.fz 1
        have x0 := hX.cell 0 (v := .int .i64 0) rfl
        have x1 := hX.cell 1 (v := .slice none 0 0) rfl
        have z0 := hY.cell 0 (v := .int .i64 t) rfl
        have z1 := hY.cell 1 (v := .slice A' k c') rfl
        clear y0 y1 hRV hsz
        by_cases e0 : E = 0
        rotate_left
        · have f0 : (E != 0) = true := by rw [bne_iff_ne]; exact e0
          have hd := Lib.hid (hres2.out (fun hh => e0 hh.1))
          go_wp2
          have hF := ((hX.set 0 (.int .i64 0)).set 1 (.slice none 0 0))
          have bF : Below w.heap.size w ((w5.setCell ⟨w.heap.size, 0, none⟩ (.int .i64 0)).setCell ⟨w.heap.size, 1, none⟩ (.slice none 0 0)) := (bl.setCell (p := ⟨w.heap.size, 0, none⟩) (Nat.le_refl _) _).setCell (p := ⟨w.heap.size, 1, none⟩) (Nat.le_refl _) _
          generalize (w5.setCell ⟨w.heap.size, 0, none⟩ (.int .i64 0)).setCell ⟨w.heap.size, 1, none⟩ (.slice none 0 0) = WF at *
          have f0 := hF.cell 0 (v := .int .i64 0) rfl
          have f1 := hF.cell 1 (v := .slice none 0 0) rfl
          refine bodyPost_ret (v := .tuple #[.agg #[.int .i64 0, .slice none 0 0], .int .i64 2]) (by simp [results, Try.results15, go_sem, f0, f1]) rfl ?_
          rw [hd.out]
          exact ⟨none, 0, 0, rfl, RV.none_ _, bF⟩
        subst e0
        have HB := Lib.hid (fun w (h : RB w A5 tl c5 T) (h' : RB w (some ⟨g, o, none⟩) 37 c b) => ref_Bytes A5 (some ⟨g, o, none⟩) tl c5 37 c T b w h h')
        rw [hq.out] at HB
        go_wp2_with fail
        refine (HB.out _ hR5 (h.below bl)).mono ?_
        rintro e w6 ⟨rfl, rfl⟩
        cases q with
        | true =>
          have hd := Lib.hid (hres.out (by first | exact rfl | trivial) (by first | exact rfl | trivial))
          go_wp2
          have hF := ((hX.set 0 (.int .i64 t)).set 1 (.slice A' k c'))
          have bF : Below w.heap.size w ((w5.setCell ⟨w.heap.size, 0, none⟩ (.int .i64 t)).setCell ⟨w.heap.size, 1, none⟩ (.slice A' k c')) := (bl.setCell (p := ⟨w.heap.size, 0, none⟩) (Nat.le_refl _) _).setCell (p := ⟨w.heap.size, 1, none⟩) (Nat.le_refl _) _
          have hO6 : VO ((w5.setCell ⟨w.heap.size, 0, none⟩ (.int .i64 t)).setCell ⟨w.heap.size, 1, none⟩ (.slice A' k c')) (w.heap.size + 2) (.slice A' k c') V := (hO.set (p := ⟨w.heap.size, 0, none⟩) (fun j hj e => by have := (hO.lt j hj).1; simp at e; omega) _).set (p := ⟨w.heap.size, 1, none⟩) (fun j hj e => by have := (hO.lt j hj).1; simp at e; omega) _
          generalize (w5.setCell ⟨w.heap.size, 0, none⟩ (.int .i64 t)).setCell ⟨w.heap.size, 1, none⟩ (.slice A' k c') = WF at *
          have f0 := hF.cell 0 (v := .int .i64 t) rfl
          have f1 := hF.cell 1 (v := .slice A' k c') rfl
          refine bodyPost_ret (v := .tuple #[.agg #[.int .i64 t, .slice A' k c'], .int .i64 0]) (by simp [results, Try.results15, go_sem, f0, f1]) rfl ?_
          rw [hd.out]
          obtain ⟨A9, c9, e9, hR9⟩ := hO6.rv k hVl.out
          injection e9 with e1 _ e3
          subst e1 e3
          exact ⟨A', k, c', rfl, hR9, bF⟩
        | false =>
          have hd := Lib.hid (hres2.out (fun hh => by cases hh.2))
          go_wp2
          have hF := ((hX.set 0 (.int .i64 0)).set 1 (.slice none 0 0))
          have bF : Below w.heap.size w ((w5.setCell ⟨w.heap.size, 0, none⟩ (.int .i64 0)).setCell ⟨w.heap.size, 1, none⟩ (.slice none 0 0)) := (bl.setCell (p := ⟨w.heap.size, 0, none⟩) (Nat.le_refl _) _).setCell (p := ⟨w.heap.size, 1, none⟩) (Nat.le_refl _) _
          generalize (w5.setCell ⟨w.heap.size, 0, none⟩ (.int .i64 0)).setCell ⟨w.heap.size, 1, none⟩ (.slice none 0 0) = WF at *
          have f0 := hF.cell 0 (v := .int .i64 0) rfl
          have f1 := hF.cell 1 (v := .slice none 0 0) rfl
          refine bodyPost_ret (v := .tuple #[.agg #[.int .i64 0, .slice none 0 0], .int .i64 2]) (by simp [results, Try.results15, go_sem, f0, f1]) rfl ?_
          rw [hd.out]
          exact ⟨none, 0, 0, rfl, RV.none_ _, bF⟩
      have hy1 : 0 < (y.toNat : Int) := by
        rcases Nat.eq_zero_or_pos y.toNat with e | e
        · exact absurd (UInt8.toNat_inj.1 (by rw [e]; rfl)) hy0
        · omega
      have hcut := (h.below bl).cut a z (by omega) (by omega)
      rw [← hdr, hdd, show z - a = 9 by omega] at hcut
      have hsl := fun w => run_cut (some ⟨g, o, none⟩) 37 c a z (a : Int) (z : Int) rfl rfl w (by omega) (by omega)
      rw [show z - a = 9 by omega] at hsl
      generalize (if c = a then (some ⟨g, o, none⟩ : Option Addr) else (some (⟨g, o, none⟩ : Addr)).map (·.add a)) = A4 at *
      generalize c - a = c4 at *
      have HD := Lib.hid (fun w (h : RB w A4 9 c4 d) => rdec_any A4 9 c4 d w h (by omega))
      have hyn := Lib.hid hy0
      replace hdd := Lib.hid hdd
      replace hm := Lib.hid hm
      replace ha := Lib.hid ha
      replace hz := Lib.hid hz
      clear hdr hy hy0 hRV
      go_wp2_with fail
      refine (HD.out _ hcut).mono ?_
      rintro e w4 ⟨rfl, b4⟩
      replace bl := Below.next bl b4 (Nat.le_refl _)
      replace hX := hX.below b4 hX.lt
      replace hY := hY.below b4 hY.lt
      replace hO := hO.below b4
      have hsz4 := hY.lt
      have z0 := hY.cell 0 (v := .int .i64 t) rfl
      have z1 := hY.cell 1 (v := .slice A' k c') rfl
      have hlt0 := hX.lt
      have xf0 := hX.fz 0
      have xf1 := hX.fz 1
      have x0 := hX.cell 0 (v := .int .i64 0) rfl
      have x1 := hX.cell 1 (v := .slice none 0 0) rfl
      clear y0 y1 hcy hcut hsl
      rcases dkV_cases d with ⟨hv, hq⟩ | ⟨p, hv, hq⟩
      · have hd : Hid (decR b = (⟨0, []⟩, 2)) := Lib.hid (decR_piece (k := k) (V := V) (y := y) hk4 (by rw [← hps.out, show 4 - k = (4 - k) by rfl, prsV_none (by rw [hdd.out]; exact hv), List.append_nil]) hVl.out (by rw [show 1 + 9 * k = a by have := hm.out; have := ha.out; omega]; exact hyH.out) hyn.out)
        rw [show dkL d = .returned (.tuple #[.agg #[.int .i64 0, .int .i64 0, .string (str [])], .int .i64 2]) from hq]
        clear hv hq
        go_wp2
        have hF0 := ((hX.set 0 (.int .i64 0)).set 1 (.slice none 0 0))
        have bF0 : Below w.heap.size w ((w4.setCell ⟨w.heap.size, 0, none⟩ (.int .i64 0)).setCell ⟨w.heap.size, 1, none⟩ (.slice none 0 0)) := (bl.setCell (p := ⟨w.heap.size, 0, none⟩) (Nat.le_refl _) _).setCell (p := ⟨w.heap.size, 1, none⟩) (Nat.le_refl _) _
        have hF := hF0.alloc (.cells #[.int .i64 0, .int .i64 0, .string (str [])] 51)
        have bF := bF0.alloc bF0.size (.cells #[.int .i64 0, .int .i64 0, .string (str [])] 51)
        generalize ((w4.setCell ⟨w.heap.size, 0, none⟩ (.int .i64 0)).setCell ⟨w.heap.size, 1, none⟩ (.slice none 0 0)).alloc (.cells #[.int .i64 0, .int .i64 0, .string (str [])] 51) = WF at *
        have f0 := hF.cell 0 (v := .int .i64 0) rfl
        have f1 := hF.cell 1 (v := .slice none 0 0) rfl
        refine bodyPost_ret (v := .tuple #[.agg #[.int .i64 0, .slice none 0 0], .int .i64 2]) (by simp [results, Try.results15, go_sem, f0, f1]) rfl ?_
        rw [hd.out]
        exact ⟨none, 0, 0, rfl, RV.none_ _, bF⟩
      · rw [show dkL d = .returned (.tuple #[.agg #[.int .i64 p.k, .int .i64 p.n, .string (str p.s)], .int .i64 0]) from hq]
        have hnx : Hid ((V ++ [p]) ++ prsV (4 - (k + 1)) (b.drop (1 + 9 * (k + 1))) = prsV 4 (b.drop 1)) := Lib.hid (by
          rw [← hps.out, show 4 - k = (4 - (k + 1)) + 1 by omega, prsV_some (v := p) (by rw [hdd.out]; exact hv), List.drop_drop, List.append_assoc, show a + 9 = 1 + 9 * (k + 1) by have := hm.out; have := ha.out; omega]
          rfl)
        clear hv hq
        go_wp2_with (refine wpList_appv rfl (.tmp 49) (.tmp 51) rfl (w.heap.size + 2) (.slice A' k c') V [p] (w4.heap.size + 1) 0 1 1 rfl rfl ((hO.alloc _).alloc _) (RV.one (v := p) (Blk.new2 _ _ _ _)) (by have := hVl.out; omega) (by simp; omega) ?_; intro v6 w6 ho6 hk6; obtain ⟨A6, c6, rfl, hR6⟩ := ho6.rv (k + 1) (by rw [List.length_append, hVl.out]; rfl); have hrl := Lib.hid (fun (j : Nat) e => (hO.lt j e).1); have hY6 := ((hY.alloc _).alloc _).keeps hk6 (fun e => by have := hrl.out _ e; omega); have hX6 := ((hX.alloc _).alloc _).keeps hk6 (fun e => by have := hrl.out _ e; omega); have bl6 : Below w.heap.size w w6 := (Below.keeps ((bl.alloc bl.size _).alloc (by simp; have := bl.size; omega) _) hk6 (fun i hi e => by have := hrl.out _ e; omega) (Nat.le_refl _)); have q1 := hY6.cell 1 (v := .slice A' k c') rfl; have qf := hY6.fz 1; have ql := hY6.lt; clear hR6)
        go_roundw
        case rel =>
          exact ⟨k + 1, _, V ++ [p], by omega, by go_num, hX6.other (p := ⟨w.heap.size + 1, 1, none⟩) (by simp) _, hY6.set 1 _, ho6.set (p := ⟨w.heap.size + 1, 1, none⟩) (fun j hj e => by have := (ho6.lt j hj).1; simp at e; omega) _, Lib.hid (by rw [List.length_append, hVl.out]; rfl), hnx, bl6.setCell (p := ⟨w.heap.size + 1, 1, none⟩) (Nat.le_succ _) _⟩
        case measure => simp [intOf]; omega
    · have hVe : Hid (prsV 4 (b.drop 1) = V) := Lib.hid (by rw [← hps.out, show 4 - k = 0 by omega]; exact List.append_nil V)
      have hPe := Lib.hid (hP.out V hVe.out)
      have HE := Lib.hid (fun w (h : RV w A' k c' V) => ref_encodeR t A' k c' V w h)
      obtain ⟨E, hE⟩ : ∃ E, rowE ⟨t, V⟩ = E := ⟨_, rfl⟩
      obtain ⟨T, hT⟩ : ∃ T, rowT ⟨t, V⟩ = T := ⟨_, rfl⟩
      obtain ⟨tl, htl⟩ : ∃ tl, T.length = tl := ⟨_, rfl⟩
      obtain ⟨q, hq⟩ : ∃ q, (T == b) = q := ⟨_, rfl⟩
      have hres := Lib.hid (show E = 0 → q = true → decR b = (⟨t, V⟩, 0) from fun h0 h1 => by
        have hb : rowB ⟨t, V⟩ = b := by
          rw [← hq, ← hT] at h1
          unfold rowT at h1
          rw [if_pos (hE.trans h0)] at h1
          simpa using h1
        have := decR_yes (b := b) hbn (by rw [hPe.out, hE, h0]) (by rw [hPe.out]; exact hb)
        rw [this, hPe.out])
      have hres2 := Lib.hid (show ¬ (E = 0 ∧ q = true) → decR b = (⟨0, []⟩, 2) from fun hh => decR_no fun h3 => hh (by
        rw [hPe.out] at h3
        refine ⟨hE.symm.trans h3.2.1, ?_⟩
        rw [← hq, ← hT]
        unfold rowT
        rw [if_pos h3.2.1, h3.2.2]
        simp))
      rw [hE, hT] at HE
      replace htl := Lib.hid htl
      replace hq := Lib.hid hq
      clear hE hT hps hPe hVe
      go_wp2_with fail
      refine (HE.out _ hRV).mono ?_
      rintro e w5 ⟨v5, rfl, hv5, e5⟩
      obtain ⟨A5, c5, rfl, hR5⟩ := hv5.sl tl htl.out
      replace bl := Below.next bl e5 (Nat.le_refl _)
      replace hX := hX.below e5 hX.lt
      replace hY := hY.below e5 hY.lt
      replace hO := hO.below e5
      have hlt0 := hX.lt
      have hlt1 := hY.lt
      have xf0 := hX.fz 0
      have xf1 := hX.fz 1
      have x0 := hX.cell 0 (v := .int .i64 0) rfl
      have x1 := hX.cell 1 (v := .slice none 0 0) rfl
      have z0 := hY.cell 0 (v := .int .i64 t) rfl
      have z1 := hY.cell 1 (v := .slice A' k c') rfl
      clear y0 y1 hRV hsz
      by_cases e0 : E = 0
      rotate_left
      · have f0 : (E != 0) = true := by rw [bne_iff_ne]; exact e0
        have hd := Lib.hid (hres2.out (fun hh => e0 hh.1))
        go_wp2
        have hF := ((hX.set 0 (.int .i64 0)).set 1 (.slice none 0 0))
        have bF : Below w.heap.size w ((w5.setCell ⟨w.heap.size, 0, none⟩ (.int .i64 0)).setCell ⟨w.heap.size, 1, none⟩ (.slice none 0 0)) := (bl.setCell (p := ⟨w.heap.size, 0, none⟩) (Nat.le_refl _) _).setCell (p := ⟨w.heap.size, 1, none⟩) (Nat.le_refl _) _
        generalize (w5.setCell ⟨w.heap.size, 0, none⟩ (.int .i64 0)).setCell ⟨w.heap.size, 1, none⟩ (.slice none 0 0) = WF at *
        have f0 := hF.cell 0 (v := .int .i64 0) rfl
        have f1 := hF.cell 1 (v := .slice none 0 0) rfl
        refine bodyPost_ret (v := .tuple #[.agg #[.int .i64 0, .slice none 0 0], .int .i64 2]) (by simp [results, Try.results15, go_sem, f0, f1]) rfl ?_
        rw [hd.out]
        exact ⟨none, 0, 0, rfl, RV.none_ _, bF⟩
      subst e0
      have HB := Lib.hid (fun w (h : RB w A5 tl c5 T) (h' : RB w (some ⟨g, o, none⟩) 37 c b) => ref_Bytes A5 (some ⟨g, o, none⟩) tl c5 37 c T b w h h')
      rw [hq.out] at HB
      go_wp2_with fail
      refine (HB.out _ hR5 (h.below bl)).mono ?_
      rintro e w6 ⟨rfl, rfl⟩
      cases q with
      | true =>
        have hd := Lib.hid (hres.out (by first | exact rfl | trivial) (by first | exact rfl | trivial))
        go_wp2
        have hF := ((hX.set 0 (.int .i64 t)).set 1 (.slice A' k c'))
        have bF : Below w.heap.size w ((w5.setCell ⟨w.heap.size, 0, none⟩ (.int .i64 t)).setCell ⟨w.heap.size, 1, none⟩ (.slice A' k c')) := (bl.setCell (p := ⟨w.heap.size, 0, none⟩) (Nat.le_refl _) _).setCell (p := ⟨w.heap.size, 1, none⟩) (Nat.le_refl _) _
        have hO6 : VO ((w5.setCell ⟨w.heap.size, 0, none⟩ (.int .i64 t)).setCell ⟨w.heap.size, 1, none⟩ (.slice A' k c')) (w.heap.size + 2) (.slice A' k c') V := (hO.set (p := ⟨w.heap.size, 0, none⟩) (fun j hj e => by have := (hO.lt j hj).1; simp at e; omega) _).set (p := ⟨w.heap.size, 1, none⟩) (fun j hj e => by have := (hO.lt j hj).1; simp at e; omega) _
        generalize (w5.setCell ⟨w.heap.size, 0, none⟩ (.int .i64 t)).setCell ⟨w.heap.size, 1, none⟩ (.slice A' k c') = WF at *
        have f0 := hF.cell 0 (v := .int .i64 t) rfl
        have f1 := hF.cell 1 (v := .slice A' k c') rfl
        refine bodyPost_ret (v := .tuple #[.agg #[.int .i64 t, .slice A' k c'], .int .i64 0]) (by simp [results, Try.results15, go_sem, f0, f1]) rfl ?_
        rw [hd.out]
        obtain ⟨A9, c9, e9, hR9⟩ := hO6.rv k hVl.out
        injection e9 with e1 _ e3
        subst e1 e3
        exact ⟨A', k, c', rfl, hR9, bF⟩
      | false =>
        have hd := Lib.hid (hres2.out (fun hh => by cases hh.2))
        go_wp2
        have hF := ((hX.set 0 (.int .i64 0)).set 1 (.slice none 0 0))
        have bF : Below w.heap.size w ((w5.setCell ⟨w.heap.size, 0, none⟩ (.int .i64 0)).setCell ⟨w.heap.size, 1, none⟩ (.slice none 0 0)) := (bl.setCell (p := ⟨w.heap.size, 0, none⟩) (Nat.le_refl _) _).setCell (p := ⟨w.heap.size, 1, none⟩) (Nat.le_refl _) _
        generalize (w5.setCell ⟨w.heap.size, 0, none⟩ (.int .i64 0)).setCell ⟨w.heap.size, 1, none⟩ (.slice none 0 0) = WF at *
        have f0 := hF.cell 0 (v := .int .i64 0) rfl
        have f1 := hF.cell 1 (v := .slice none 0 0) rfl
        refine bodyPost_ret (v := .tuple #[.agg #[.int .i64 0, .slice none 0 0], .int .i64 2]) (by simp [results, Try.results15, go_sem, f0, f1]) rfl ?_
        rw [hd.out]
        exact ⟨none, 0, 0, rfl, RV.none_ _, bF⟩
end Go.Proofs.Ytfldmejjepakeaa
