/- Merged: S4U. -/
import Derived.Test.YtniendffanemcaaDoorRk1
/- SlabBack: the walk. -/
namespace Go.Proofs.YtniendffanemcaaDoor
open Go.ChangeShapes Go.WideShapes Go.ChangeAt Go.RowKit
open Go.ChangeMaps (open_string shut_string)
set_option linter.unusedVariables false
set_option linter.unusedSimpArgs false
set_option maxRecDepth 100000

set_option maxHeartbeats 16000000 in
theorem back4 (AP : Option Addr) (np cp : Nat) (L : List PartR) (more : Int) (w : World) (hp : RP w AP np cp L) (hI : ∀ x ∈ L, P64 x.wd ∧ P64 x.n) :
    Calls Tryd.prog 7 #[.slice AP np cp, .int .i64 more] w fun e w' => e = .returned (.bool true) ∧ Below w.heap.size w w' := by
  have hpl := Lib.hid hp.len
  go_enter Tryd.func7, Tryd.ntmps7
  go_wp2_with fail
  refine (first4 _).mono ?_
  rintro e w2 ⟨rfl, bl⟩
  go_wp2_with fail
  have HF := few4_any AP np cp L w2 ⟨hp.len, hp.cap, hp.max, hp.nil, fun hn => let ⟨g, o, e, hc⟩ := hp.at_ hn; ⟨g, o, e, fun i b hb => let ⟨B, m, k, h0, h1, h2, h3⟩ := hc i b hb; ⟨B, m, k, h0.below bl, (bl.cell (p := ⟨g, _, none⟩) (World.block_lt_of_cell? w _ h1)).trans h1, (bl.cell (p := ⟨g, _, none⟩) (World.block_lt_of_cell? w _ h2)).trans h2, (bl.cell (p := ⟨g, _, none⟩) (World.block_lt_of_cell? w _ h3)).trans h3⟩⟩⟩
  refine HF.mono ?_
  rintro e w3 ⟨⟨fb, rfl, hfew⟩, rfl⟩
  cases fb with
  | false => (go_wp2_with fail; refine (first4 _).mono ?_; rintro e w9 ⟨rfl, b9⟩; go_wp2; go_ret; exact ⟨rfl, Below.next bl b9 (Nat.le_refl _)⟩)
  | true =>
  obtain ⟨hf1, hf2⟩ := hfew rfl
  by_cases g1 : more < 0
  · (go_wp2_with fail; refine (first4 _).mono ?_; rintro e w9 ⟨rfl, b9⟩; go_wp2; go_ret; exact ⟨rfl, Below.next bl b9 (Nat.le_refl _)⟩)
  by_cases g2 : 100 < more
  · (go_wp2_with fail; refine (first4 _).mono ?_; rintro e w9 ⟨rfl, b9⟩; go_wp2; go_ret; exact ⟨rfl, Below.next bl b9 (Nat.le_refl _)⟩)
  obtain ⟨M, rfl⟩ : ∃ M : Nat, more = M := ⟨more.toNat, by omega⟩
  have hnp : np ≤ 200 := by rw [← hpl.out]; exact hf1
  have hf2 := Lib.hid hf2
  clear HF hfew hf1
  have hw0 : Wr (w2.alloc (.cells #[.slice none 0 0, .bool false] 39)) w2.heap.size (.slice none 0 0) [] false := ⟨Blk.new _ _ _, OB.nil _ _, by simp [Value.ownBlock]⟩
  have bl0 := bl.alloc bl.size (.cells #[.slice none 0 0, .bool false] 39)
  have hlp := bl.size
  go_wp2
  generalize w2.alloc (.cells #[.slice none 0 0, .bool false] 39) = W0 at *
  generalize w2.heap.size = p at *
  clear bl
  go_loopw [6] (fun i wr => ∃ (j : Nat) (v : Value), j ≤ np ∧ i = .int .i64 j ∧ Wr wr p v (wrL (L.take j)).1 (wrL (L.take j)).2 ∧ (∀ i, v.ownBlock = some i → w.heap.size ≤ i) ∧ Below w.heap.size w wr) (fun i _ => np - (intOf i).toNat)
  case atStart => exact ⟨0, _, by omega, rfl, hw0, own_none _, bl0⟩
  case round =>
  obtain ⟨j, v, hj, rfl, hw, hlo, hb⟩ := hrel
  clear hw0 bl0
  have hwl : (wrL (L.take j)).1.length ≤ 21400 := by
    have h1 := wrL_len (L.take j)
    have h2 := tot_take L j
    have h3 := hf2.out
    rw [List.length_take] at h1
    omega
  by_cases gj : j < np
  · obtain ⟨x, hx⟩ : ∃ x, L[j]? = some x := ⟨_, List.getElem?_eq_getElem (by have := hpl.out; omega)⟩
    obtain ⟨g, o, rfl, hc⟩ := hp.at_ (by omega)
    obtain ⟨B, m, kk, hB, d0, d1, d2⟩ := hc j x hx
    have hsn := Lib.hid (wrL_snoc hx)
    obtain ⟨⟨l, br⟩, hs⟩ : ∃ s, wrL (L.take j) = s := ⟨_, rfl⟩
    rw [hs] at hw hsn hwl
    simp only at hw hwl
    have hbl : x.b.length ≤ 20000 := Nat.le_trans (tot_mem (List.mem_of_getElem? hx)) hf2.out
    rw [hB.len] at hbl
    obtain ⟨wd, hwd⟩ : ∃ wd, x.wd = wd := ⟨_, rfl⟩
    obtain ⟨nn, hnn⟩ : ∃ nn, x.n = nn := ⟨_, rfl⟩
    rw [hwd] at d0
    rw [hnn] at d1
    have hgw := World.block_lt_of_cell? w _ d0
    have k0 := (hb.cell (p := ⟨g, o + j * 3, none⟩) hgw).trans d0
    have k1 := (hb.cell (p := ⟨g, o + j * 3 + 1, none⟩) hgw).trans d1
    have k2 := (hb.cell (p := ⟨g, o + j * 3 + 2, none⟩) hgw).trans d2
    have hg := World.block_lt_of_cell? wr _ k0
    replace hwd := Lib.hid hwd
    replace hnn := Lib.hid hnn
    clear hc hx hs
    by_cases hw0 : wd = 0
    · subst hw0
      have hX := Blk.new wr #[.slice B m kk] 22
      have HR := Lib.hid (raw_any p v l br wr.heap.size 22 B m kk x.b _ (hw.alloc (.cells #[.slice B m kk] 22)) hX ((hB.below hb).alloc _) (by omega) (by omega))
      have bla := hb.alloc hb.size (.cells #[.slice B m kk] 22)
      clear hX
      go_wp2_with fail
      refine HR.out.mono ?_
      rintro e w5 ⟨rfl, v', hw', hst⟩
      have bl5 := hst.bel bla hlp hlo
      have hlo5 := hst.lo hlo bla.size
      have hfin : Wr w5 p v' (wrL (L.take (j + 1))).1 (wrL (L.take (j + 1))).2 := by
        rw [hsn.out]; unfold wrP; rw [if_pos hwd.out]; exact hw'
      clear hst HR hw' hw
      go_wp2
      go_roundw
      case rel => exact ⟨j + 1, v', by omega, by go_num, hfin, hlo5, bl5⟩
      case measure => simp [intOf]; omega
    · have hw2 : (wd == 0) = false := by rw [beq_eq_false_iff_ne]; exact hw0
      have holt := Lib.hid hw.olt
      have hplt := hw.lt
      obtain ⟨l', hl'⟩ : ∃ l', (numsL l (br || !mayW wd) wd [nn]).1 = l' := ⟨_, rfl⟩
      obtain ⟨br', hbr'⟩ : ∃ b, (numsL l (br || !mayW wd) wd [nn]).2 = b := ⟨_, rfl⟩
      have HN := Lib.hid (fun g3 w h hr hs => Num_any p v l br wd [nn] (some ⟨g3, 0, none⟩) 1 1 w h hr hs (by omega))
      rw [hl', hbr'] at HN
      have hl2 := Lib.hid hl'
      have hbr2 := Lib.hid hbr'
      clear hl' hbr'
      have hR : ∀ {w w' : World}, Below w.heap.size w w' → Below w.heap.size w w' := fun h => h
      go_wp2_with fail
      have hvo := Free.val
      refine Free.wp_factsR (R := (fun w w' => Below w.heap.size w w')) (ss := [12]) (pures := [0, 1, 2, 3, 4, 5, 6, 7, 8, 9, 10]) (M := [0, 0, 0, 6, 14, 30, 0, 0, 192, 448, 960, 1984, 4095]) (D := [[], [], [], [(1, 49), (2, 50)], [(3, 51)], [(4, 52)], [], [], [(6, 54), (7, 55)], [(8, 56)], [(9, 57)], [(10, 58)], [(0, 48), (5, 53), (11, 59)]]) (outs := [12]) (soles := [12]) (E := [(0, 48, false), (1, 49, false), (2, 50, false), (3, 51, false), (4, 52, false), (5, 53, false), (6, 54, false), (7, 55, false), (8, 56, false), (9, 57, false), (10, 58, false), (11, 59, false), (12, 60, true)]) (N := 141) (S := (fun (d : Nat) w' => d = 0 → Below wr.heap.size wr w')) [Free.FactR.is ?_, Free.FactR.is ?_, Free.FactR.is ?_, Free.FactR.is ?_, Free.FactR.is ?_, Free.FactR.is ?_, Free.FactR.is ?_, Free.FactR.is ?_, Free.FactR.is ?_, Free.FactR.is ?_, Free.FactR.is ?_, Free.FactR.of (Free.Fact.row1 wr.heap.size #[.int .i64 nn] 3), Free.FactR.wr wr p v l' br'] (by kernel_rfl) (by kernel_rfl) (by kernel_rfl) rfl rfl (by decide) (fun _ => (Below.refl _ _).drew) ?_ ?_
      rotate_left 11
      refine Free.cons ?_ ?_
      · intro st hag; (obtain rfl : st = 0 := Nat.le_antisymm hag.2 hag.1); intro w' hS; intro K hK; have ka0 := ((hS rfl).cell (p := ⟨g, o + j * 3, none⟩) hg).trans k0; have ka1 := ((hS rfl).cell (p := ⟨g, o + j * 3 + 1, none⟩) hg).trans k1; first | (refine Free.run_yes (by rfl) ?_; go_simp; refine Free.oR hK (hR (Below.refl _ _)) hS ?_; exact rfl) | (refine Free.run_no (by rfl) (Free.oR hK (hR (Below.refl _ _)) hS ?_); exact rfl)
      refine Free.cons ?_ ?_
      · intro st hag; (obtain rfl : st = 0 := Nat.le_antisymm hag.2 hag.1); intro w' hS; intro K hK; have ka0 := ((hS rfl).cell (p := ⟨g, o + j * 3, none⟩) hg).trans k0; have ka1 := ((hS rfl).cell (p := ⟨g, o + j * 3 + 1, none⟩) hg).trans k1; first | (refine Free.run_yes (by rfl) ?_; go_simp; refine Free.oR hK (hR (Below.refl _ _)) hS ?_; exact rfl) | (refine Free.run_no (by rfl) (Free.oR hK (hR (Below.refl _ _)) hS ?_); exact rfl)
      refine Free.cons ?_ ?_
      · intro st hag; (obtain rfl : st = 0 := Nat.le_antisymm hag.2 hag.1); intro w' hS; intro K hK; have ka0 := ((hS rfl).cell (p := ⟨g, o + j * 3, none⟩) hg).trans k0; have ka1 := ((hS rfl).cell (p := ⟨g, o + j * 3 + 1, none⟩) hg).trans k1; first | (refine Free.run_yes (by rfl) ?_; go_simp; refine Free.oR hK (hR (Below.refl _ _)) hS ?_; exact rfl) | (refine Free.run_no (by rfl) (Free.oR hK (hR (Below.refl _ _)) hS ?_); exact rfl)
      refine Free.cons ?_ ?_
      · intro st hag; (obtain rfl : st = 0 := Nat.le_antisymm hag.2 hag.1); intro w' hS; (rintro _ rfl); (rintro _ rfl); intro K hK; have ka0 := ((hS rfl).cell (p := ⟨g, o + j * 3, none⟩) hg).trans k0; have ka1 := ((hS rfl).cell (p := ⟨g, o + j * 3 + 1, none⟩) hg).trans k1; first | (refine Free.run_yes (by rfl) ?_; go_simp; refine Free.oR hK (hR (Below.refl _ _)) hS ?_; exact rfl) | (refine Free.run_no (by rfl) (Free.oR hK (hR (Below.refl _ _)) hS ?_); exact rfl)
      refine Free.cons ?_ ?_
      · intro st hag; (obtain rfl : st = 0 := Nat.le_antisymm hag.2 hag.1); intro w' hS; (rintro _ rfl); intro K hK; have ka0 := ((hS rfl).cell (p := ⟨g, o + j * 3, none⟩) hg).trans k0; have ka1 := ((hS rfl).cell (p := ⟨g, o + j * 3 + 1, none⟩) hg).trans k1; first | (refine Free.run_yes (by rfl) ?_; go_simp; refine Free.oR hK (hR (Below.refl _ _)) hS ?_; exact rfl) | (refine Free.run_no (by rfl) (Free.oR hK (hR (Below.refl _ _)) hS ?_); exact rfl)
      refine Free.cons ?_ ?_
      · intro st hag; (obtain rfl : st = 0 := Nat.le_antisymm hag.2 hag.1); intro w' hS; (rintro _ rfl); intro K hK; have ka0 := ((hS rfl).cell (p := ⟨g, o + j * 3, none⟩) hg).trans k0; have ka1 := ((hS rfl).cell (p := ⟨g, o + j * 3 + 1, none⟩) hg).trans k1; first | (refine Free.run_yes (by rfl) ?_; go_simp; refine Free.oR hK (hR (Below.refl _ _)) hS ?_; exact rfl) | (refine Free.run_no (by rfl) (Free.oR hK (hR (Below.refl _ _)) hS ?_); exact rfl)
      refine Free.cons ?_ ?_
      · intro st hag; (obtain rfl : st = 0 := Nat.le_antisymm hag.2 hag.1); intro w' hS; intro K hK; have ka0 := ((hS rfl).cell (p := ⟨g, o + j * 3, none⟩) hg).trans k0; have ka1 := ((hS rfl).cell (p := ⟨g, o + j * 3 + 1, none⟩) hg).trans k1; first | (refine Free.run_yes (by rfl) ?_; go_simp; refine Free.oR hK (hR (Below.refl _ _)) hS ?_; exact rfl) | (refine Free.run_no (by rfl) (Free.oR hK (hR (Below.refl _ _)) hS ?_); exact rfl)
      refine Free.cons ?_ ?_
      · intro st hag; (obtain rfl : st = 0 := Nat.le_antisymm hag.2 hag.1); intro w' hS; intro K hK; have ka0 := ((hS rfl).cell (p := ⟨g, o + j * 3, none⟩) hg).trans k0; have ka1 := ((hS rfl).cell (p := ⟨g, o + j * 3 + 1, none⟩) hg).trans k1; first | (refine Free.run_yes (by rfl) ?_; go_simp; refine Free.oR hK (hR (Below.refl _ _)) hS ?_; exact rfl) | (refine Free.run_no (by rfl) (Free.oR hK (hR (Below.refl _ _)) hS ?_); exact rfl)
      refine Free.cons ?_ ?_
      · intro st hag; (obtain rfl : st = 0 := Nat.le_antisymm hag.2 hag.1); intro w' hS; (rintro _ rfl); (rintro _ rfl); intro K hK; have ka0 := ((hS rfl).cell (p := ⟨g, o + j * 3, none⟩) hg).trans k0; have ka1 := ((hS rfl).cell (p := ⟨g, o + j * 3 + 1, none⟩) hg).trans k1; first | (refine Free.run_yes (by rfl) ?_; go_simp; refine Free.oR hK (hR (Below.refl _ _)) hS ?_; exact rfl) | (refine Free.run_no (by rfl) (Free.oR hK (hR (Below.refl _ _)) hS ?_); exact rfl)
      refine Free.cons ?_ ?_
      · intro st hag; (obtain rfl : st = 0 := Nat.le_antisymm hag.2 hag.1); intro w' hS; (rintro _ rfl); intro K hK; have ka0 := ((hS rfl).cell (p := ⟨g, o + j * 3, none⟩) hg).trans k0; have ka1 := ((hS rfl).cell (p := ⟨g, o + j * 3 + 1, none⟩) hg).trans k1; first | (refine Free.run_yes (by rfl) ?_; go_simp; refine Free.oR hK (hR (Below.refl _ _)) hS ?_; exact rfl) | (refine Free.run_no (by rfl) (Free.oR hK (hR (Below.refl _ _)) hS ?_); exact rfl)
      refine Free.cons ?_ ?_
      · intro st hag; (obtain rfl : st = 0 := Nat.le_antisymm hag.2 hag.1); intro w' hS; (rintro _ rfl); intro K hK; have ka0 := ((hS rfl).cell (p := ⟨g, o + j * 3, none⟩) hg).trans k0; have ka1 := ((hS rfl).cell (p := ⟨g, o + j * 3 + 1, none⟩) hg).trans k1; first | (refine Free.run_yes (by rfl) ?_; go_simp; refine Free.oR hK (hR (Below.refl _ _)) hS ?_; exact rfl) | (refine Free.run_no (by rfl) (Free.oR hK (hR (Below.refl _ _)) hS ?_); exact rfl)
      refine Free.cons ?_ ?_
      · intro st hag; (obtain rfl : st = 0 := Nat.le_antisymm hag.2 hag.1); intro w' hS; (rintro _ rfl); intro K hK; have ka0 := ((hS rfl).cell (p := ⟨g, o + j * 3, none⟩) hg).trans k0; have ka1 := ((hS rfl).cell (p := ⟨g, o + j * 3 + 1, none⟩) hg).trans k1; refine Free.run_yes (by rfl) ?_; (go_simp; refine hK.out _ _ ⟨_, rfl, Blk.new _ _ _, (hS rfl).size⟩ (fun _ => (hS rfl).alloc (hS rfl).size _) (.inr (hR ((Below.refl _ _).alloc (Nat.le_refl _) _))))
      refine Free.cons ?_ ?_
      · intro st hag; (obtain rfl : st = 0 := Nat.le_antisymm hag.2 hag.1); intro w' hS; (rintro _ rfl); (rintro _ rfl); (intro v11 h11); intro K hK; have ka0 := ((hS rfl).cell (p := ⟨g, o + j * 3, none⟩) hg).trans k0; have ka1 := ((hS rfl).cell (p := ⟨g, o + j * 3 + 1, none⟩) hg).trans k1; refine Free.run_yes (by rfl) ?_; (obtain ⟨g3, rfl, hX3, hg3⟩ := h11; go_simp; go_at_call 17; refine (HN.out g3 w' (hw.below (hS rfl)) (RI.of_blk hX3 rfl rfl (by unfold maxLen; omega)) (fun _ a ha => by injection ha with ha; subst ha; exact ⟨by simp only; omega, fun e => by have := holt.out _ e; simp only at this; omega, hX3.lt⟩)).mono ?_; rintro e w5 ⟨rfl, v1, hw5, hst⟩; refine hK.out _ _ ⟨v1, hw5, ((WStep.refl wr p v).below (hS rfl)).trans hst⟩ (fun e => by cases e) (.inl rfl))
      exact Free.nil
      clear hvo
      intro w' hS; intro v0; intro v1; intro v2; intro v3; intro v4; intro v5; intro v6; intro v7; intro v8; intro v9; intro v10; intro v11; intro v12 h12; (try simp only [Act.put, List.setIfInBounds_toArray, List.set_cons_zero, List.set_cons_succ]); refine Free.toldE_nil ?_
      obtain ⟨v', hw', hst⟩ := h12
      have bl5 := hst.bel hb hlp hlo
      have hlo5 := hst.lo hlo hb.size
      have hfin : Wr w' p v' (wrL (L.take (j + 1))).1 (wrL (L.take (j + 1))).2 := by
        have e := hsn.out
        unfold wrP at e
        rw [if_neg (by rw [hwd.out]; exact hw0), hwd.out, hnn.out] at e
        rw [e]
        simp only
        rw [hl2.out, hbr2.out]
        exact hw'
      clear hS hst hw' hw HN
      go_wp2
      go_roundw
      case rel => exact ⟨j + 1, v', by omega, by go_num, hfin, hlo5, bl5⟩
      case measure => simp [intOf]; omega
  · obtain rfl : j = np := by omega
    have hLt : L.take j = L := List.take_of_length_le (by rw [hpl.out]; exact Nat.le_refl _)
    rw [hLt] at hw hwl
    have hgood := wrL_good L
    obtain ⟨⟨l, br⟩, hs⟩ : ∃ s, wrL L = s := ⟨_, rfl⟩
    rw [hs] at hw hgood hwl
    simp only at hw hgood hwl
    have HLen := Lib.hid (fun w h => wlen_calls p v l br w h)
    obtain ⟨n, hn⟩ : ∃ n, l.length = n := ⟨_, rfl⟩
    rw [hn] at HLen hwl
    replace hn := Lib.hid hn
    go_wp2_with fail
    refine (HLen.out _ hw).mono ?_
    rintro e w5 ⟨rfl, rfl⟩
    cases br with
    | true =>
      have hE := show sealedE l true ((n : Int) + (M : Int)) = 1 from by simp [sealedE]
      have HS := Lib.hid (sealed_err p v l true ((n : Int) + (M : Int)) _ hw (by rw [hn.out]; omega) (by rw [hE]; decide))
      rw [hE] at HS
      clear hE
      go_wp2_with fail
      refine HS.out.mono ?_
      rintro e w5 ⟨rfl, rfl⟩
      go_wp2_with fail
      refine (first4 _).mono ?_
      rintro e w9 ⟨rfl, b9⟩
      go_wp2
      go_ret
      exact ⟨rfl, Below.next hb b9 (Nat.le_refl _)⟩
    | false =>
      obtain ⟨hg1, hg2⟩ := hgood rfl
      have HS := Lib.hid (sealed_ok p v l (n + M) _ hw (by omega) (by rw [hn.out]; omega))
      have hfl : fill l (n + M) = restP L 0 M := by rw [← hn.out, fill_more, hg2]; unfold restP; rw [List.drop_zero]
      rw [hfl, show ((n + M : Nat) : Int) = (n : Int) + (M : Int) from by omega] at HS
      have hrl0 : (restP L 0 M).length = n + M := by rw [← hfl, fill_length]
      replace hg1 := Lib.hid hg1
      replace hrl0 := Lib.hid hrl0
      clear hfl hg2 hgood
      go_wp2_with fail
      refine HS.out.mono ?_
      rintro e w5 ⟨rfl, hb5, b5⟩
      have hr5 : RB w5 (some ⟨wr.heap.size, 0, none⟩) (n + M) (n + M) (restP L 0 M) := by
        have := (OB.of_row (B := w.heap.size) hb5 (by rw [hrl0.out]; unfold maxLen; omega) hb.size).reads
        rw [hrl0.out] at this
        exact this
      have bl5 := Below.next hb b5 (Nat.le_refl _)
      clear hb5 b5 HS hw HLen
      go_wp2_with fail
      refine (newReader _ _ _ _ _ hr5 (by omega)).mono ?_
      rintro e w6 ⟨pr, rfl, hpr, hrd, b6⟩
      have bl6 := Below.next bl5 b6 (Nat.le_refl _)
      have hlpr : w.heap.size ≤ pr := Nat.le_trans bl5.size hpr
      generalize w6.heap.size = N at *
      clear b6 hpr hr5
      go_wp2
      go_loopw [11] (fun i wr => ∃ j2 : Nat, j2 ≤ j ∧ i = .int .i64 j2 ∧ Rd wr pr N (restP L j2 M) 0 ∧ Below w.heap.size w wr) (fun i _ => j - (intOf i).toNat)
      case atStart => exact ⟨0, by omega, rfl, hrd, bl6⟩
      case round =>
      obtain ⟨j2, hj2, rfl, hrd, hb⟩ := hrel
      obtain ⟨W, rfl⟩ : ∃ W, W = wr := ⟨_, rfl⟩
      have hrl := restP_len L j2 M (n + M) (by rw [hrl0.out]; exact Nat.le_refl _)
      by_cases gj2 : j2 < j
      · obtain ⟨x, hx⟩ : ∃ x, L[j2]? = some x := ⟨_, List.getElem?_eq_getElem (by have := hpl.out; omega)⟩
        obtain ⟨g, o, rfl, hc⟩ := hp.at_ (by omega)
        obtain ⟨B, m, kk, hB, d0, d1, d2⟩ := hc j2 x hx
        have hgx := hg1.out x (List.mem_of_getElem? hx)
        have hst := restP_step (M := M) hx
        rw [hst] at hrd hrl
        obtain ⟨R', hR'⟩ : ∃ R', restP L (j2 + 1) M = R' := ⟨_, rfl⟩
        rw [hR'] at hrd hrl
        obtain ⟨wd, hwd⟩ : ∃ wd, x.wd = wd := ⟨_, rfl⟩
        obtain ⟨nn, hnn⟩ : ∃ nn, x.n = nn := ⟨_, rfl⟩
        have hgn := good_num hgx
        have hen : x.wd = 0 → encP x = x.b := fun h => by unfold encP; rw [if_pos h]
        rw [hwd] at d0 hgn hen
        rw [hnn] at d1 hgn
        have hgw := World.block_lt_of_cell? w _ d0
        have k0 := (hb.cell (p := ⟨g, o + j2 * 3, none⟩) hgw).trans d0
        have k1 := (hb.cell (p := ⟨g, o + j2 * 3 + 1, none⟩) hgw).trans d1
        have k2 := (hb.cell (p := ⟨g, o + j2 * 3 + 2, none⟩) hgw).trans d2
        have hg := World.block_lt_of_cell? W _ k0
        have hgp : g ≠ pr := fun e => by simp only at hgw; omega
        have hR : ∀ {w w' : World}, Below w.heap.size w w' → Keeps (fun k => k = pr) w w' := fun h => Keeps.of_below h
        have hR2 := Lib.hid hR'
        replace hwd := Lib.hid hwd
        replace hnn := Lib.hid hnn
        have hbx : ∀ a, B = some a → 0 < m → a.block < w.heap.size := fun a ha hm => by
          obtain ⟨g', o', e, hcc⟩ := hB.at_ hm
          rw [ha] at e
          injection e with e
          obtain ⟨y, hy⟩ : ∃ y, x.b[0]? = some y := ⟨_, List.getElem?_eq_getElem (by rw [hB.len]; exact hm)⟩
          have := World.block_lt_of_cell? w _ (hcc 0 y hy)
          rw [e]
          exact this
        clear hc hx hst hR'
        by_cases hw0 : wd = 0
        · subst hw0
          -- [R1
          have hB2 := Lib.hid (hB.below hb)
          have hbx2 : 0 < m → ∀ a, B = some a → ¬ a.block = pr := fun hm a ha e => by have := hbx a ha hm; omega
          replace hbx2 := Lib.hid hbx2
          rw [hen rfl] at hrd hrl
          have hml := hB.len
          have HR := Lib.hid (fun w h => raw_ok pr N (x.b ++ R') m w h (by rw [List.length_append]; omega) (by omega))
          rw [← hml, List.take_left, List.drop_left, hml] at HR
          obtain ⟨X, hX⟩ : ∃ X, x.b = X := ⟨_, rfl⟩
          rw [hX] at HR hrd hB2 hml hrl
          replace hml := Lib.hid hml
          clear hX hen hgn hgx hB
          go_wp2_with fail
          have hvo := Free.val
          refine Free.wp_factsR (R := (fun w w' => Keeps (fun k => k = pr) w w')) (ss := [7]) (pures := [0, 1, 2, 3, 4, 5, 6, 8, 9, 10, 11, 12, 13, 14]) (M := [0, 0, 0, 6, 14, 30, 62, 127, 0, 0, 768, 1792, 3840, 8191, 16383]) (D := [[], [], [], [(1, 103), (2, 104)], [(3, 105)], [(4, 106)], [(5, 107)], [(0, 102), (6, 108)], [], [], [(8, 110), (9, 111)], [(10, 112)], [(11, 113)], [(7, 109), (12, 114)], [(13, 115)]]) (outs := [14]) (soles := []) (E := [(0, 102, false), (1, 103, false), (2, 104, false), (3, 105, false), (4, 106, false), (5, 107, false), (6, 108, false), (7, 109, false), (8, 110, false), (9, 111, false), (10, 112, false), (11, 113, false), (12, 114, false), (13, 115, false), (14, 116, true)]) (N := 141) (S := (fun (st : Nat) w' => Keeps (fun k => k = pr) W w' ∧ (st = 0 → Rd w' pr N (X ++ R') 0) ∧ (st = 1 → Rd w' pr N R' 0))) [Free.FactR.is ?_, Free.FactR.is ?_, Free.FactR.is ?_, Free.FactR.is ?_, Free.FactR.is ?_, Free.FactR.is ?_, Free.FactR.is ?_, Free.FactR.slK pr m X, Free.FactR.is ?_, Free.FactR.is ?_, Free.FactR.is ?_, Free.FactR.is ?_, Free.FactR.is ?_, Free.FactR.is ?_, Free.FactR.is ?_] (by kernel_rfl) (by kernel_rfl) (by kernel_rfl) rfl rfl (by decide) (⟨(Keeps.refl _ _).drew, fun _ => hrd.below (Below.refl _ _).drew hrd.leN, fun e => absurd e (by decide)⟩) ?_ ?_
          rotate_left 14
          refine Free.cons ?_ ?_
          · intro st hag; (obtain rfl : st = 0 := Nat.le_antisymm hag.2 hag.1); intro w' hS; intro K hK; have ka0 := (World.cell?_of_block (w := W) (hS.1.block g hg hgp)).trans k0; have ka2 := (World.cell?_of_block (w := W) (hS.1.block g hg hgp)).trans k2; first | (refine Free.run_yes (by rfl) ?_; go_simp; refine Free.oR hK (hR (Below.refl _ _)) hS ?_; exact rfl) | (refine Free.run_no (by rfl) (Free.oR hK (hR (Below.refl _ _)) hS ?_); exact rfl)
          refine Free.cons ?_ ?_
          · intro st hag; (obtain rfl : st = 0 := Nat.le_antisymm hag.2 hag.1); intro w' hS; intro K hK; have ka0 := (World.cell?_of_block (w := W) (hS.1.block g hg hgp)).trans k0; have ka2 := (World.cell?_of_block (w := W) (hS.1.block g hg hgp)).trans k2; first | (refine Free.run_yes (by rfl) ?_; go_simp; refine Free.oR hK (hR (Below.refl _ _)) hS ?_; exact rfl) | (refine Free.run_no (by rfl) (Free.oR hK (hR (Below.refl _ _)) hS ?_); exact rfl)
          refine Free.cons ?_ ?_
          · intro st hag; (obtain rfl : st = 0 := Nat.le_antisymm hag.2 hag.1); intro w' hS; intro K hK; have ka0 := (World.cell?_of_block (w := W) (hS.1.block g hg hgp)).trans k0; have ka2 := (World.cell?_of_block (w := W) (hS.1.block g hg hgp)).trans k2; first | (refine Free.run_yes (by rfl) ?_; go_simp; refine Free.oR hK (hR (Below.refl _ _)) hS ?_; exact rfl) | (refine Free.run_no (by rfl) (Free.oR hK (hR (Below.refl _ _)) hS ?_); exact rfl)
          refine Free.cons ?_ ?_
          · intro st hag; (obtain rfl : st = 0 := Nat.le_antisymm hag.2 hag.1); intro w' hS; (rintro _ rfl); (rintro _ rfl); intro K hK; have ka0 := (World.cell?_of_block (w := W) (hS.1.block g hg hgp)).trans k0; have ka2 := (World.cell?_of_block (w := W) (hS.1.block g hg hgp)).trans k2; first | (refine Free.run_yes (by rfl) ?_; go_simp; refine Free.oR hK (hR (Below.refl _ _)) hS ?_; exact rfl) | (refine Free.run_no (by rfl) (Free.oR hK (hR (Below.refl _ _)) hS ?_); exact rfl)
          refine Free.cons ?_ ?_
          · intro st hag; (obtain rfl : st = 0 := Nat.le_antisymm hag.2 hag.1); intro w' hS; (rintro _ rfl); intro K hK; have ka0 := (World.cell?_of_block (w := W) (hS.1.block g hg hgp)).trans k0; have ka2 := (World.cell?_of_block (w := W) (hS.1.block g hg hgp)).trans k2; first | (refine Free.run_yes (by rfl) ?_; go_simp; refine Free.oR hK (hR (Below.refl _ _)) hS ?_; exact rfl) | (refine Free.run_no (by rfl) (Free.oR hK (hR (Below.refl _ _)) hS ?_); exact rfl)
          refine Free.cons ?_ ?_
          · intro st hag; (obtain rfl : st = 0 := Nat.le_antisymm hag.2 hag.1); intro w' hS; (rintro _ rfl); intro K hK; have ka0 := (World.cell?_of_block (w := W) (hS.1.block g hg hgp)).trans k0; have ka2 := (World.cell?_of_block (w := W) (hS.1.block g hg hgp)).trans k2; first | (refine Free.run_yes (by rfl) ?_; go_simp; refine Free.oR hK (hR (Below.refl _ _)) hS ?_; exact rfl) | (refine Free.run_no (by rfl) (Free.oR hK (hR (Below.refl _ _)) hS ?_); exact rfl)
          refine Free.cons ?_ ?_
          · intro st hag; (obtain rfl : st = 0 := Nat.le_antisymm hag.2 hag.1); intro w' hS; (rintro _ rfl); intro K hK; have ka0 := (World.cell?_of_block (w := W) (hS.1.block g hg hgp)).trans k0; have ka2 := (World.cell?_of_block (w := W) (hS.1.block g hg hgp)).trans k2; first | (refine Free.run_yes (by rfl) ?_; go_simp; refine Free.oR hK (hR (Below.refl _ _)) hS ?_; exact rfl) | (refine Free.run_no (by rfl) (Free.oR hK (hR (Below.refl _ _)) hS ?_); exact rfl)
          refine Free.cons ?_ ?_
          · intro st hag; (obtain rfl : st = 0 := Nat.le_antisymm hag.2 hag.1); intro w' hS; (rintro _ rfl); (rintro _ rfl); intro K hK; have ka0 := (World.cell?_of_block (w := W) (hS.1.block g hg hgp)).trans k0; have ka2 := (World.cell?_of_block (w := W) (hS.1.block g hg hgp)).trans k2; refine Free.run_yes (by rfl) ?_; (go_simp; go_at_call 11; refine (HR.out _ (hS.2.1 rfl)).mono ?_; rintro e w5 ⟨v1, rfl, ho, hr5, hk5⟩; simp only [Free.valOf, Act.put, List.setIfInBounds_toArray, List.set_cons_zero, List.set_cons_succ, Array.getD_eq_getD_getElem?, List.getElem?_toArray, List.getElem?_cons_succ, List.getElem?_cons_zero, Option.getD_some]; obtain ⟨A5, c5, rfl, hr6⟩ := OB.sl ho m hml.out; refine hK.out _ _ ⟨A5, c5, rfl, hr6, fun a ha e => by have h1 := (ho.lt a.block (by rw [ha]; rfl)).1; have h2 := (hS.2.1 rfl).ltN; have h3 := (hS.2.1 rfl).leN; omega⟩ ⟨hS.1.trans hk5 (fun i e => .inl e), fun e => absurd e (by decide), fun _ => hr5⟩ (.inr hk5))
          refine Free.cons ?_ ?_
          · intro st hag w' hS; intro K hK; have ka0 := (World.cell?_of_block (w := W) (hS.1.block g hg hgp)).trans k0; have ka2 := (World.cell?_of_block (w := W) (hS.1.block g hg hgp)).trans k2; first | (refine Free.run_yes (by rfl) ?_; go_simp; refine Free.oR hK (hR (Below.refl _ _)) hS ?_; exact rfl) | (refine Free.run_no (by rfl) (Free.oR hK (hR (Below.refl _ _)) hS ?_); exact rfl)
          refine Free.cons ?_ ?_
          · intro st hag w' hS; intro K hK; have ka0 := (World.cell?_of_block (w := W) (hS.1.block g hg hgp)).trans k0; have ka2 := (World.cell?_of_block (w := W) (hS.1.block g hg hgp)).trans k2; first | (refine Free.run_yes (by rfl) ?_; go_simp; refine Free.oR hK (hR (Below.refl _ _)) hS ?_; exact rfl) | (refine Free.run_no (by rfl) (Free.oR hK (hR (Below.refl _ _)) hS ?_); exact rfl)
          refine Free.cons ?_ ?_
          · intro st hag w' hS; (rintro _ rfl); (rintro _ rfl); intro K hK; have ka0 := (World.cell?_of_block (w := W) (hS.1.block g hg hgp)).trans k0; have ka2 := (World.cell?_of_block (w := W) (hS.1.block g hg hgp)).trans k2; first | (refine Free.run_yes (by rfl) ?_; go_simp; refine Free.oR hK (hR (Below.refl _ _)) hS ?_; exact rfl) | (refine Free.run_no (by rfl) (Free.oR hK (hR (Below.refl _ _)) hS ?_); exact rfl)
          refine Free.cons ?_ ?_
          · intro st hag w' hS; (rintro _ rfl); intro K hK; have ka0 := (World.cell?_of_block (w := W) (hS.1.block g hg hgp)).trans k0; have ka2 := (World.cell?_of_block (w := W) (hS.1.block g hg hgp)).trans k2; first | (refine Free.run_yes (by rfl) ?_; go_simp; refine Free.oR hK (hR (Below.refl _ _)) hS ?_; exact rfl) | (refine Free.run_no (by rfl) (Free.oR hK (hR (Below.refl _ _)) hS ?_); exact rfl)
          refine Free.cons ?_ ?_
          · intro st hag w' hS; (rintro _ rfl); intro K hK; have ka0 := (World.cell?_of_block (w := W) (hS.1.block g hg hgp)).trans k0; have ka2 := (World.cell?_of_block (w := W) (hS.1.block g hg hgp)).trans k2; first | (refine Free.run_yes (by rfl) ?_; go_simp; refine Free.oR hK (hR (Below.refl _ _)) hS ?_; exact rfl) | (refine Free.run_no (by rfl) (Free.oR hK (hR (Below.refl _ _)) hS ?_); exact rfl)
          refine Free.cons ?_ ?_
          · intro st hag; (obtain rfl : st = 1 := Nat.le_antisymm hag.2 hag.1); intro w' hS; (intro v7 h7); (rintro _ rfl); intro K hK; have ka0 := (World.cell?_of_block (w := W) (hS.1.block g hg hgp)).trans k0; have ka2 := (World.cell?_of_block (w := W) (hS.1.block g hg hgp)).trans k2; refine Free.run_yes (by rfl) ?_; (obtain ⟨A7, c7, rfl, hr7, _⟩ := h7; go_simp; go_at_call 14; refine (ref_Bytes _ _ _ _ _ _ _ _ _ hr7 (hB2.out.keeps hS.1 hbx2.out)).mono ?_; rintro e w5 ⟨rfl, rfl⟩; rw [beq_self_eq_true]; simp only [Free.valOf, Act.put, List.setIfInBounds_toArray, List.set_cons_zero, List.set_cons_succ, Array.getD_eq_getD_getElem?, List.getElem?_toArray, List.getElem?_cons_succ, List.getElem?_cons_zero, Option.getD_some]; refine hK.out _ _ ?_ hS (.inr (hR (Below.refl _ _))); exact rfl)
          refine Free.cons ?_ ?_
          · intro st hag; (obtain rfl : st = 1 := Nat.le_antisymm hag.2 hag.1); intro w' hS; (rintro _ rfl); intro K hK; have ka0 := (World.cell?_of_block (w := W) (hS.1.block g hg hgp)).trans k0; have ka2 := (World.cell?_of_block (w := W) (hS.1.block g hg hgp)).trans k2; first | (refine Free.run_yes (by rfl) ?_; go_simp; refine Free.oR hK (hR (Below.refl _ _)) hS ?_; exact rfl) | (refine Free.run_no (by rfl) (Free.oR hK (hR (Below.refl _ _)) hS ?_); exact rfl)
          exact Free.nil
          clear hvo
          intro w' hS; intro v0; intro v1; intro v2; intro v3; intro v4; intro v5; intro v6; intro v7; intro v8; intro v9; intro v10; intro v11; intro v12; intro v13; (rintro _ rfl); (try simp only [Act.put, List.setIfInBounds_toArray, List.set_cons_zero, List.set_cons_succ]); refine Free.toldE_nil ?_
          have hrd' : Rd w' pr N (restP L (j2 + 1) M) 0 := by rw [hR2.out]; exact hS.2.2 rfl
          have bl' := hb.keeps hS.1 (fun i hi e => by omega) (Nat.le_refl _)
          clear hS hrd HR hR
          go_wp2
          go_roundw
          case rel => exact ⟨j2 + 1, by omega, by go_num, hrd', bl'⟩
          case measure => simp [intOf]; omega
          -- R1]
        · -- [R2
          obtain ⟨k, rfl, h1, h7, he, hrn⟩ := hgn hw0
          have hk0 : ((k : Int) == 0) = false := by rw [beq_eq_false_iff_ne]; exact hw0
          rw [he] at hrd hrl
          have hkl := be_length k nn
          have HR := Lib.hid (fun w h => rnum_ok pr N (be k nn ++ R') k w h h1 h7 (by rw [List.length_append]; omega) (by omega))
          have ht : (be k nn ++ R').take k = be k nn := by rw [List.take_append_of_le_length (by omega), List.take_of_length_le (by omega)]
          have hd : (be k nn ++ R').drop k = R' := by rw [List.drop_append, List.drop_of_length_le (by omega), hkl, Nat.sub_self, List.drop_zero, List.nil_append]
          rw [ht, hd, hrn] at HR
          clear ht hd he hrn hen hgn hgx hB
          generalize be k nn ++ R' = Y at *
          go_wp2_with fail
          have hvo := Free.val
          refine Free.wp_factsR (R := (fun w w' => Keeps (fun k => k = pr) w w')) (ss := [6]) (pures := [0, 1, 2, 3, 4, 5, 6, 7, 8, 9, 10, 11, 12]) (M := [0, 0, 0, 6, 14, 30, 63, 0, 0, 384, 896, 1920, 4095]) (D := [[], [], [], [(1, 118), (2, 119)], [(3, 120)], [(4, 121)], [(0, 117), (5, 122)], [], [], [(7, 124), (8, 125)], [(9, 126)], [(10, 127)], [(6, 123), (11, 128)]]) (outs := [12]) (soles := []) (E := [(0, 117, false), (1, 118, false), (2, 119, false), (3, 120, false), (4, 121, false), (5, 122, false), (6, 123, false), (7, 124, false), (8, 125, false), (9, 126, false), (10, 127, false), (11, 128, false), (12, 129, true)]) (N := 141) (S := (fun (st : Nat) w' => Keeps (fun k => k = pr) W w' ∧ (st = 0 → Rd w' pr N Y 0) ∧ (st = 1 → Rd w' pr N R' 0))) [Free.FactR.is ?_, Free.FactR.is ?_, Free.FactR.is ?_, Free.FactR.is ?_, Free.FactR.is ?_, Free.FactR.is ?_, Free.FactR.is ?_, Free.FactR.is ?_, Free.FactR.is ?_, Free.FactR.is ?_, Free.FactR.is ?_, Free.FactR.is ?_, Free.FactR.is ?_] (by kernel_rfl) (by kernel_rfl) (by kernel_rfl) rfl rfl (by decide) (⟨(Keeps.refl _ _).drew, fun _ => hrd.below (Below.refl _ _).drew hrd.leN, fun e => absurd e (by decide)⟩) ?_ ?_
          rotate_left 13
          refine Free.cons ?_ ?_
          · intro st hag; (obtain rfl : st = 0 := Nat.le_antisymm hag.2 hag.1); intro w' hS; intro K hK; have ka0 := (World.cell?_of_block (w := W) (hS.1.block g hg hgp)).trans k0; have ka1 := (World.cell?_of_block (w := W) (hS.1.block g hg hgp)).trans k1; first | (refine Free.run_yes (by rfl) ?_; go_simp; refine Free.oR hK (hR (Below.refl _ _)) hS ?_; exact rfl) | (refine Free.run_no (by rfl) (Free.oR hK (hR (Below.refl _ _)) hS ?_); exact rfl)
          refine Free.cons ?_ ?_
          · intro st hag; (obtain rfl : st = 0 := Nat.le_antisymm hag.2 hag.1); intro w' hS; intro K hK; have ka0 := (World.cell?_of_block (w := W) (hS.1.block g hg hgp)).trans k0; have ka1 := (World.cell?_of_block (w := W) (hS.1.block g hg hgp)).trans k1; first | (refine Free.run_yes (by rfl) ?_; go_simp; refine Free.oR hK (hR (Below.refl _ _)) hS ?_; exact rfl) | (refine Free.run_no (by rfl) (Free.oR hK (hR (Below.refl _ _)) hS ?_); exact rfl)
          refine Free.cons ?_ ?_
          · intro st hag; (obtain rfl : st = 0 := Nat.le_antisymm hag.2 hag.1); intro w' hS; intro K hK; have ka0 := (World.cell?_of_block (w := W) (hS.1.block g hg hgp)).trans k0; have ka1 := (World.cell?_of_block (w := W) (hS.1.block g hg hgp)).trans k1; first | (refine Free.run_yes (by rfl) ?_; go_simp; refine Free.oR hK (hR (Below.refl _ _)) hS ?_; exact rfl) | (refine Free.run_no (by rfl) (Free.oR hK (hR (Below.refl _ _)) hS ?_); exact rfl)
          refine Free.cons ?_ ?_
          · intro st hag; (obtain rfl : st = 0 := Nat.le_antisymm hag.2 hag.1); intro w' hS; (rintro _ rfl); (rintro _ rfl); intro K hK; have ka0 := (World.cell?_of_block (w := W) (hS.1.block g hg hgp)).trans k0; have ka1 := (World.cell?_of_block (w := W) (hS.1.block g hg hgp)).trans k1; first | (refine Free.run_yes (by rfl) ?_; go_simp; refine Free.oR hK (hR (Below.refl _ _)) hS ?_; exact rfl) | (refine Free.run_no (by rfl) (Free.oR hK (hR (Below.refl _ _)) hS ?_); exact rfl)
          refine Free.cons ?_ ?_
          · intro st hag; (obtain rfl : st = 0 := Nat.le_antisymm hag.2 hag.1); intro w' hS; (rintro _ rfl); intro K hK; have ka0 := (World.cell?_of_block (w := W) (hS.1.block g hg hgp)).trans k0; have ka1 := (World.cell?_of_block (w := W) (hS.1.block g hg hgp)).trans k1; first | (refine Free.run_yes (by rfl) ?_; go_simp; refine Free.oR hK (hR (Below.refl _ _)) hS ?_; exact rfl) | (refine Free.run_no (by rfl) (Free.oR hK (hR (Below.refl _ _)) hS ?_); exact rfl)
          refine Free.cons ?_ ?_
          · intro st hag; (obtain rfl : st = 0 := Nat.le_antisymm hag.2 hag.1); intro w' hS; (rintro _ rfl); intro K hK; have ka0 := (World.cell?_of_block (w := W) (hS.1.block g hg hgp)).trans k0; have ka1 := (World.cell?_of_block (w := W) (hS.1.block g hg hgp)).trans k1; first | (refine Free.run_yes (by rfl) ?_; go_simp; refine Free.oR hK (hR (Below.refl _ _)) hS ?_; exact rfl) | (refine Free.run_no (by rfl) (Free.oR hK (hR (Below.refl _ _)) hS ?_); exact rfl)
          refine Free.cons ?_ ?_
          · intro st hag; (obtain rfl : st = 0 := Nat.le_antisymm hag.2 hag.1); intro w' hS; (rintro _ rfl); (rintro _ rfl); intro K hK; have ka0 := (World.cell?_of_block (w := W) (hS.1.block g hg hgp)).trans k0; have ka1 := (World.cell?_of_block (w := W) (hS.1.block g hg hgp)).trans k1; refine Free.run_yes (by rfl) ?_; (go_simp; go_at_call 12; refine (HR.out _ (hS.2.1 rfl)).mono ?_; rintro e w5 ⟨rfl, hr5, hk5⟩; simp only [Free.valOf, Act.put, List.setIfInBounds_toArray, List.set_cons_zero, List.set_cons_succ, Array.getD_eq_getD_getElem?, List.getElem?_toArray, List.getElem?_cons_succ, List.getElem?_cons_zero, Option.getD_some]; refine hK.out _ _ ?_ ⟨hS.1.trans hk5 (fun i e => .inl e), fun e => absurd e (by decide), fun _ => hr5⟩ (.inr hk5); exact rfl)
          refine Free.cons ?_ ?_
          · intro st hag w' hS; intro K hK; have ka0 := (World.cell?_of_block (w := W) (hS.1.block g hg hgp)).trans k0; have ka1 := (World.cell?_of_block (w := W) (hS.1.block g hg hgp)).trans k1; first | (refine Free.run_yes (by rfl) ?_; go_simp; refine Free.oR hK (hR (Below.refl _ _)) hS ?_; exact rfl) | (refine Free.run_no (by rfl) (Free.oR hK (hR (Below.refl _ _)) hS ?_); exact rfl)
          refine Free.cons ?_ ?_
          · intro st hag w' hS; intro K hK; have ka0 := (World.cell?_of_block (w := W) (hS.1.block g hg hgp)).trans k0; have ka1 := (World.cell?_of_block (w := W) (hS.1.block g hg hgp)).trans k1; first | (refine Free.run_yes (by rfl) ?_; go_simp; refine Free.oR hK (hR (Below.refl _ _)) hS ?_; exact rfl) | (refine Free.run_no (by rfl) (Free.oR hK (hR (Below.refl _ _)) hS ?_); exact rfl)
          refine Free.cons ?_ ?_
          · intro st hag w' hS; (rintro _ rfl); (rintro _ rfl); intro K hK; have ka0 := (World.cell?_of_block (w := W) (hS.1.block g hg hgp)).trans k0; have ka1 := (World.cell?_of_block (w := W) (hS.1.block g hg hgp)).trans k1; first | (refine Free.run_yes (by rfl) ?_; go_simp; refine Free.oR hK (hR (Below.refl _ _)) hS ?_; exact rfl) | (refine Free.run_no (by rfl) (Free.oR hK (hR (Below.refl _ _)) hS ?_); exact rfl)
          refine Free.cons ?_ ?_
          · intro st hag w' hS; (rintro _ rfl); intro K hK; have ka0 := (World.cell?_of_block (w := W) (hS.1.block g hg hgp)).trans k0; have ka1 := (World.cell?_of_block (w := W) (hS.1.block g hg hgp)).trans k1; first | (refine Free.run_yes (by rfl) ?_; go_simp; refine Free.oR hK (hR (Below.refl _ _)) hS ?_; exact rfl) | (refine Free.run_no (by rfl) (Free.oR hK (hR (Below.refl _ _)) hS ?_); exact rfl)
          refine Free.cons ?_ ?_
          · intro st hag w' hS; (rintro _ rfl); intro K hK; have ka0 := (World.cell?_of_block (w := W) (hS.1.block g hg hgp)).trans k0; have ka1 := (World.cell?_of_block (w := W) (hS.1.block g hg hgp)).trans k1; first | (refine Free.run_yes (by rfl) ?_; go_simp; refine Free.oR hK (hR (Below.refl _ _)) hS ?_; exact rfl) | (refine Free.run_no (by rfl) (Free.oR hK (hR (Below.refl _ _)) hS ?_); exact rfl)
          refine Free.cons ?_ ?_
          · intro st hag; (obtain rfl : st = 1 := Nat.le_antisymm hag.2 hag.1); intro w' hS; (rintro _ rfl); (rintro _ rfl); intro K hK; have ka0 := (World.cell?_of_block (w := W) (hS.1.block g hg hgp)).trans k0; have ka1 := (World.cell?_of_block (w := W) (hS.1.block g hg hgp)).trans k1; first | (refine Free.run_yes (by rfl) ?_; go_simp; refine Free.oR hK (hR (Below.refl _ _)) hS ?_; exact rfl) | (refine Free.run_no (by rfl) (Free.oR hK (hR (Below.refl _ _)) hS ?_); exact rfl)
          exact Free.nil
          clear hvo
          intro w' hS; intro v0; intro v1; intro v2; intro v3; intro v4; intro v5; intro v6; intro v7; intro v8; intro v9; intro v10; intro v11; (rintro _ rfl); (try simp only [Act.put, List.setIfInBounds_toArray, List.set_cons_zero, List.set_cons_succ]); refine Free.toldE_nil ?_
          have hrd' : Rd w' pr N (restP L (j2 + 1) M) 0 := by rw [hR2.out]; exact hS.2.2 rfl
          have bl' := hb.keeps hS.1 (fun i hi e => by omega) (Nat.le_refl _)
          clear hS hrd HR hR
          go_wp2
          go_roundw
          case rel => exact ⟨j2 + 1, by omega, by go_num, hrd', bl'⟩
          case measure => simp [intOf]; omega
          -- R2]
      · -- [R3
        obtain rfl : j2 = j := by omega
        have hz : endE (restP L j2 M) 0 = 0 := by
          unfold endE restP
          rw [List.drop_of_length_le (by rw [hpl.out]; exact Nat.le_refl _), if_neg]
          rintro ⟨_, h⟩
          exact h (fun b hb => by simp at hb; exact hb.2)
        replace hz := Lib.hid hz
        go_wp2_with fail
        refine (first4 _).mono ?_
        rintro e w9 ⟨rfl, b9⟩
        have bl9 := Below.next hb b9 (Nat.le_refl _)
        have hr9 := hrd.below b9 hrd.leN
        go_wp2_with fail
        refine (rerr_calls pr N _ 0 _ hr9).mono ?_
        rintro e w10 ⟨rfl, rfl⟩
        have HE := Lib.hid (rend_calls pr N _ 0 _ hr9 (by omega))
        rw [hz.out] at HE
        go_wp2_with fail
        refine HE.out.mono ?_
        rintro e w11 ⟨rfl, b11⟩
        go_wp2
        go_ret
        exact ⟨rfl, Below.next bl9 b11 (Nat.le_refl _)⟩
        -- R3]
end Go.Proofs.YtniendffanemcaaDoor
