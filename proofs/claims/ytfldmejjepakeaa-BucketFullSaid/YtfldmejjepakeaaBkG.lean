/- The document's EncodeBucket. -/
import Derived.Test.YtfldmejjepakeaaBkF
namespace Go.Proofs.Ytfldmejjepakeaa
open Go.ChangeShapes Go.WideShapes Go.ChangeAt Go.RowKit
open Go.ChangeMaps (open_string shut_string)
set_option linter.unusedVariables false
set_option linter.unusedSimpArgs false
set_option maxRecDepth 100000
open Go.Deep

set_option maxHeartbeats 4000000 in
theorem ref_encodeB (z : Int) (A : Option Addr) (n c : Nat) (L : List BlkR) (w : World) (h : RK w A n c L) :
    Calls Try.prog 24 #[.int .i64 z, .slice A n c] w fun e w' => ∃ v, e = .returned (.tuple #[v, .int .i64 (encKE z L)]) ∧ OB w' w.heap.size v (encKT z L) ∧ Below w.heap.size w w' := by
  have hnm : n ≤ maxLen := Nat.le_trans h.cap h.max
  unfold maxLen at hnm
  have hLn := h.len
  obtain ⟨b1, hb1⟩ : ∃ b, mayZ z = b := ⟨_, rfl⟩
  obtain ⟨b2, hb2⟩ : ∃ b, mayB L = b := ⟨_, rfl⟩
  have HB := Lib.hid (fun w h => hb2 ▸ ref_MayB A n c L w h)
  obtain ⟨E, hE⟩ : ∃ E, encKE z L = E := ⟨_, rfl⟩
  have hres := Lib.hid hE
  rw [hE]
  cases b1 with
  | false =>
    have e1 := Lib.hid (show encKE z L = 1 by unfold encKE; rw [if_neg]; rw [hb1]; simp)
    have HZ := Lib.hid (fun w => ref_length z 0 w (by unfold lenZ; rw [hb1]; rfl))
    clear hE
    go_enter Try.func24, Try.ntmps24
    go_wp2_with fail
    refine (HZ.out _).mono ?_
    rintro e w2 ⟨rfl, bl⟩
    go_wp2
    go_ret2
    exact ⟨_, (show Ending.returned (.tuple #[.slice none 0 0, .int .i64 1]) = .returned (.tuple #[_, .int .i64 E]) from by rw [← hres.out, e1.out]), (show OB w2 w.heap.size (.slice none 0 0) (encKT z L) from by unfold encKT; rw [if_neg (by rw [e1.out]; decide)]; exact OB.nil _ _), bl⟩
  | true =>
  have hz := mayZ_true hb1
  obtain ⟨zn, rfl⟩ := Int.eq_ofNat_of_zero_le (show 0 ≤ z by omega)
  obtain ⟨m, hm⟩ : ∃ m, zn * 38 = m := ⟨_, rfl⟩
  have HZ := Lib.hid (fun w => ref_length (zn : Int) (m : Int) w (by unfold lenZ; rw [hb1, if_pos rfl]; omega))
  have hm0 : ((m : Int) == 0) = false := by rw [beq_eq_false_iff_ne]; omega
  have hm1 : ¬ m = 0 := by omega
  have hmm := Lib.hid hm
  have hml : m ≤ 1000 := by omega
  clear hm
  cases b2 with
  | false =>
    have e1 := Lib.hid (show encKE (zn : Int) L = 1 by unfold encKE; rw [if_neg]; rw [hb2]; simp)
    clear hE
    go_enter Try.func24, Try.ntmps24
    go_wp2_with fail
    refine (HZ.out _).mono ?_
    rintro e w2 ⟨rfl, bl⟩
    go_wp2_with fail
    refine (HB.out _ (h.below bl)).mono ?_
    rintro e w3 ⟨rfl, b3⟩
    replace bl := Below.next bl b3 (Nat.le_refl _)
    go_wp2
    go_ret2
    exact ⟨_, (show Ending.returned (.tuple #[.slice none 0 0, .int .i64 1]) = .returned (.tuple #[_, .int .i64 E]) from by rw [← hres.out, e1.out]), (show OB w3 w.heap.size (.slice none 0 0) (encKT (zn : Int) L) from by unfold encKT; rw [if_neg (by rw [e1.out]; decide)]; exact OB.nil _ _), bl⟩
  | true =>
  by_cases hn : zn < n
  · have e1 := Lib.hid (show encKE (zn : Int) L = 4 by unfold encKE; rw [if_pos ⟨hb1, hb2⟩, if_pos (by rw [hLn]; omega)])
    have hni : (zn : Int) < (n : Int) := by omega
    clear hE
    go_enter Try.func24, Try.ntmps24
    go_wp2_with fail
    refine (HZ.out _).mono ?_
    rintro e w2 ⟨rfl, bl⟩
    go_wp2_with fail
    refine (HB.out _ (h.below bl)).mono ?_
    rintro e w3 ⟨rfl, b3⟩
    replace bl := Below.next bl b3 (Nat.le_refl _)
    go_wp2
    go_ret2
    exact ⟨_, (show Ending.returned (.tuple #[.slice none 0 0, .int .i64 4]) = .returned (.tuple #[_, .int .i64 E]) from by rw [← hres.out, e1.out]), (show OB w3 w.heap.size (.slice none 0 0) (encKT (zn : Int) L) from by unfold encKT; rw [if_neg (by rw [e1.out]; decide)]; exact OB.nil _ _), bl⟩
  · have e1 := Lib.hid (show encKE (zn : Int) L = 0 by unfold encKE; rw [if_pos ⟨hb1, hb2⟩, if_neg (by rw [hLn]; omega)])
    clear hE
    have hnn : decide (zn < n) = false := decide_eq_false hn
    have hn4 : n ≤ 4 := by omega
    have hlen := Lib.hid (mayB_len hb2)
    clear hb1 hb2
    go_enter Try.func24, Try.ntmps24
    go_wp2_with fail
    refine (HZ.out _).mono ?_
    rintro e w2 ⟨rfl, bl⟩
    go_wp2_with fail
    refine (HB.out _ (h.below bl)).mono ?_
    rintro e w3 ⟨rfl, b3⟩
    replace bl := Below.next bl b3 (Nat.le_refl _)
    clear b3
    go_wp2
    go_loopw [6, 7] (fun s i wr => ∃ (k : Nat) (v : Value), k ≤ n ∧ s = v ∧ i = .int .i64 k ∧ OB wr w.heap.size v (bytesK (L.take k)) ∧ Below w.heap.size w wr) (fun s i _ => n - (intOf i).toNat)
    case atStart => exact ⟨0, _, by omega, rfl, rfl, OB.nil _ _, bl⟩
    case round =>
      clear bl
      obtain ⟨k, v, hk, hv, rfl, hO, bl⟩ := hrel
      replace hv := hv.symm
      subst hv
      obtain ⟨n0, hn0⟩ : ∃ a, (bytesK (L.take k)).length = a := ⟨_, rfl⟩
      obtain ⟨A0, c0, rfl, hR0⟩ := OB.sl hO n0 hn0
      have hlk := Lib.hid (show (bytesK (L.take k)).length ≤ 1000 by rw [bytesK_length _ (fun b hb => (hlen.out b (List.mem_of_mem_take hb)).1), List.length_take]; omega)
      by_cases hlt : k < n
      · obtain ⟨q, hq⟩ : ∃ q, L[k]? = some q := ⟨_, List.getElem?_eq_getElem (by omega)⟩
        obtain ⟨hq37, hq0, hq64⟩ := hlen.out q (List.mem_of_getElem? hq)
        obtain ⟨g, o, rfl, hc⟩ := h.at_ (by omega)
        obtain ⟨B, mm, kk, hD, hd0, hd1⟩ := hc k q hq
        have hml := Lib.hid hD.len
        have hmm : mm ≤ 1000 := by have := hD.len; omega
        have hnx := Lib.hid (show bytesK (L.take (k + 1)) = bytesK (L.take k) ++ [UInt8.ofNat (q.id + 1).toNat] ++ q.d by rw [List.take_add_one, hq]; exact bytesK_snoc _ _)
        have hgw := World.block_lt_of_cell? w _ hd0
        have hw1 : IntKind.i64.wrap (q.id + 1) = q.id + 1 := IntWalk.i64_in _ (by omega)
        obtain ⟨x, hx⟩ : ∃ x, x = UInt8.ofNat (q.id + 1).toNat := ⟨_, rfl⟩
        have hx8 : IntKind.u8.wrap (q.id + 1) = (x.toNat : Int) := by rw [hx, UInt8.toNat_ofNat', IntKind.wrap_u8]; omega
        have hx9 : (q.id + 1) % 256 = (x.toNat : Int) := by rw [hx, UInt8.toNat_ofNat']; omega
        rw [← hx] at hnx
        have hqH := Lib.hid (And.intro hq0 hq64)
        clear hc hq hx hn0 hq37
        generalize bytesK (L.take k) = l at *
        have hR : ∀ {w w' : World}, Below w.heap.size w w' → Below w.heap.size w w' := fun h => h
        go_wp2_with fail
        have hvo := Free.val
        refine Free.wp_factsR (R := (fun w w' => Below w.heap.size w w')) (ss := [9, 15]) (pures := [0, 1, 2, 3, 4, 5, 6, 7, 10, 11, 12, 13, 14]) (M := [0, 0, 0, 6, 14, 30, 62, 126, 254, 511, 0, 0, 3072, 7168, 15360, 32767, 65535]) (D := [[], [], [], [(1, 29), (2, 30)], [(3, 31)], [(4, 32)], [(5, 33)], [(6, 34)], [(7, 35)], [(0, 28), (8, 36)], [], [], [(10, 38), (11, 39)], [(12, 40)], [(13, 41)], [(9, 37), (14, 42)], [(15, 43)]]) (outs := [16]) (soles := [9, 15]) (E := [(0, 28, false), (1, 29, false), (2, 30, false), (3, 31, false), (4, 32, false), (5, 33, false), (6, 34, false), (7, 35, false), (8, 36, false), (9, 37, false), (10, 38, false), (11, 39, false), (12, 40, false), (13, 41, false), (14, 42, false), (15, 43, false), (16, 6, true)]) (N := 48) (S := (fun (st : Nat) w' => Below w.heap.size w w' ∧ (st = 0 → OB w' w.heap.size (.slice A0 n0 c0) l))) [Free.FactR.is ?_, Free.FactR.is ?_, Free.FactR.is ?_, Free.FactR.is ?_, Free.FactR.is ?_, Free.FactR.is ?_, Free.FactR.is ?_, Free.FactR.is ?_, Free.FactR.of (Free.Fact.one x), Free.FactR.of (Free.Fact.own w.heap.size (l ++ [x])), Free.FactR.is ?_, Free.FactR.is ?_, Free.FactR.is ?_, Free.FactR.is ?_, Free.FactR.is ?_, Free.FactR.of (Free.Fact.own w.heap.size (l ++ [x] ++ q.d)), Free.FactR.of (Free.Fact.own w.heap.size (l ++ [x] ++ q.d))] (by kernel_rfl) (by kernel_rfl) (by kernel_rfl) rfl rfl (by decide) (⟨bl.drew, fun _ => hO.drew⟩) ?_ ?_
        rotate_left 13
        refine Free.cons ?_ ?_
        · intro st hag; (obtain rfl : st = 0 := Nat.le_antisymm hag.2 hag.1); intro w' hS; intro K hK; have k0 := (hS.1.cell (p := ⟨g, o + k * 2, none⟩) hgw).trans hd0; have k1 := (hS.1.cell (p := ⟨g, o + k * 2 + 1, none⟩) hgw).trans hd1; first | (refine Free.run_yes (by rfl) ?_; go_simp; refine Free.oR hK (hR (Below.refl _ _)) hS ?_; exact rfl) | (refine Free.run_no (by rfl) (Free.oR hK (hR (Below.refl _ _)) hS ?_); exact rfl)
        refine Free.cons ?_ ?_
        · intro st hag; (obtain rfl : st = 0 := Nat.le_antisymm hag.2 hag.1); intro w' hS; intro K hK; have k0 := (hS.1.cell (p := ⟨g, o + k * 2, none⟩) hgw).trans hd0; have k1 := (hS.1.cell (p := ⟨g, o + k * 2 + 1, none⟩) hgw).trans hd1; first | (refine Free.run_yes (by rfl) ?_; go_simp; refine Free.oR hK (hR (Below.refl _ _)) hS ?_; exact rfl) | (refine Free.run_no (by rfl) (Free.oR hK (hR (Below.refl _ _)) hS ?_); exact rfl)
        refine Free.cons ?_ ?_
        · intro st hag; (obtain rfl : st = 0 := Nat.le_antisymm hag.2 hag.1); intro w' hS; intro K hK; have k0 := (hS.1.cell (p := ⟨g, o + k * 2, none⟩) hgw).trans hd0; have k1 := (hS.1.cell (p := ⟨g, o + k * 2 + 1, none⟩) hgw).trans hd1; first | (refine Free.run_yes (by rfl) ?_; go_simp; refine Free.oR hK (hR (Below.refl _ _)) hS ?_; exact rfl) | (refine Free.run_no (by rfl) (Free.oR hK (hR (Below.refl _ _)) hS ?_); exact rfl)
        refine Free.cons ?_ ?_
        · intro st hag; (obtain rfl : st = 0 := Nat.le_antisymm hag.2 hag.1); intro w' hS; (rintro _ rfl); (rintro _ rfl); intro K hK; have k0 := (hS.1.cell (p := ⟨g, o + k * 2, none⟩) hgw).trans hd0; have k1 := (hS.1.cell (p := ⟨g, o + k * 2 + 1, none⟩) hgw).trans hd1; first | (refine Free.run_yes (by rfl) ?_; go_simp; refine Free.oR hK (hR (Below.refl _ _)) hS ?_; exact rfl) | (refine Free.run_no (by rfl) (Free.oR hK (hR (Below.refl _ _)) hS ?_); exact rfl)
        refine Free.cons ?_ ?_
        · intro st hag; (obtain rfl : st = 0 := Nat.le_antisymm hag.2 hag.1); intro w' hS; (rintro _ rfl); intro K hK; have k0 := (hS.1.cell (p := ⟨g, o + k * 2, none⟩) hgw).trans hd0; have k1 := (hS.1.cell (p := ⟨g, o + k * 2 + 1, none⟩) hgw).trans hd1; first | (refine Free.run_yes (by rfl) ?_; go_simp; refine Free.oR hK (hR (Below.refl _ _)) hS ?_; exact rfl) | (refine Free.run_no (by rfl) (Free.oR hK (hR (Below.refl _ _)) hS ?_); exact rfl)
        refine Free.cons ?_ ?_
        · intro st hag; (obtain rfl : st = 0 := Nat.le_antisymm hag.2 hag.1); intro w' hS; (rintro _ rfl); intro K hK; have k0 := (hS.1.cell (p := ⟨g, o + k * 2, none⟩) hgw).trans hd0; have k1 := (hS.1.cell (p := ⟨g, o + k * 2 + 1, none⟩) hgw).trans hd1; first | (refine Free.run_yes (by rfl) ?_; go_simp; refine Free.oR hK (hR (Below.refl _ _)) hS ?_; exact rfl) | (refine Free.run_no (by rfl) (Free.oR hK (hR (Below.refl _ _)) hS ?_); exact rfl)
        refine Free.cons ?_ ?_
        · intro st hag; (obtain rfl : st = 0 := Nat.le_antisymm hag.2 hag.1); intro w' hS; (rintro _ rfl); intro K hK; have k0 := (hS.1.cell (p := ⟨g, o + k * 2, none⟩) hgw).trans hd0; have k1 := (hS.1.cell (p := ⟨g, o + k * 2 + 1, none⟩) hgw).trans hd1; first | (refine Free.run_yes (by rfl) ?_; go_simp; refine Free.oR hK (hR (Below.refl _ _)) hS ?_; exact rfl) | (refine Free.run_no (by rfl) (Free.oR hK (hR (Below.refl _ _)) hS ?_); exact rfl)
        refine Free.cons ?_ ?_
        · intro st hag; (obtain rfl : st = 0 := Nat.le_antisymm hag.2 hag.1); intro w' hS; (rintro _ rfl); intro K hK; have k0 := (hS.1.cell (p := ⟨g, o + k * 2, none⟩) hgw).trans hd0; have k1 := (hS.1.cell (p := ⟨g, o + k * 2 + 1, none⟩) hgw).trans hd1; first | (refine Free.run_yes (by rfl) ?_; go_simp; refine Free.oR hK (hR (Below.refl _ _)) hS ?_; exact rfl) | (refine Free.run_no (by rfl) (Free.oR hK (hR (Below.refl _ _)) hS ?_); exact rfl)
        refine Free.cons ?_ ?_
        · intro st hag; (obtain rfl : st = 0 := Nat.le_antisymm hag.2 hag.1); intro w' hS; (rintro _ rfl); intro K hK; have k0 := (hS.1.cell (p := ⟨g, o + k * 2, none⟩) hgw).trans hd0; have k1 := (hS.1.cell (p := ⟨g, o + k * 2 + 1, none⟩) hgw).trans hd1; refine Free.run_yes (by rfl) ?_; (go_simp; refine hK.out _ _ ⟨_, rfl, RB.of_row (l := [x]) (Blk.new w' (bcells [x]) 5) (by unfold maxLen; simp)⟩ ⟨hS.1.alloc hS.1.size _, fun h => (hS.2 h).alloc _⟩ (.inr ((Below.refl _ _).alloc (Nat.le_refl _) _)))
        refine Free.cons ?_ ?_
        · intro st hag; (obtain rfl : st = 0 := Nat.le_antisymm hag.2 hag.1); intro w' hS; (rintro _ rfl); (intro v8 h8); intro K hK; have k0 := (hS.1.cell (p := ⟨g, o + k * 2, none⟩) hgw).trans hd0; have k1 := (hS.1.cell (p := ⟨g, o + k * 2 + 1, none⟩) hgw).trans hd1; refine Free.run_yes (by rfl) ?_; (obtain ⟨g8, rfl, hr8⟩ := h8; refine wp_app (.tmp 28) (.tmp 36) rfl w.heap.size (.slice A0 n0 c0) l [x] _ 1 1 rfl rfl (hS.2 rfl) hr8 (by have := hlk.out; omega) hS.1.size ?_; intro v3 w3 ha; refine ⟨rfl, ?_⟩; simp only [Free.valOf, Act.put, List.setIfInBounds_toArray, List.set_cons_zero, List.set_cons_succ, Array.getD_eq_getD_getElem?, List.getElem?_toArray, List.getElem?_cons_succ, List.getElem?_cons_zero, Option.getD_some]; refine hK.out _ _ ha.own ⟨hS.1.keeps ha.keeps (fun i hi e => by have := ((hS.2 rfl).lt i e).1; omega) (Nat.le_refl _), fun e => absurd e (by decide)⟩ (.inl rfl))
        refine Free.cons ?_ ?_
        · intro st hag w' hS; intro K hK; have k0 := (hS.1.cell (p := ⟨g, o + k * 2, none⟩) hgw).trans hd0; have k1 := (hS.1.cell (p := ⟨g, o + k * 2 + 1, none⟩) hgw).trans hd1; first | (refine Free.run_yes (by rfl) ?_; go_simp; refine Free.oR hK (hR (Below.refl _ _)) hS ?_; exact rfl) | (refine Free.run_no (by rfl) (Free.oR hK (hR (Below.refl _ _)) hS ?_); exact rfl)
        refine Free.cons ?_ ?_
        · intro st hag w' hS; intro K hK; have k0 := (hS.1.cell (p := ⟨g, o + k * 2, none⟩) hgw).trans hd0; have k1 := (hS.1.cell (p := ⟨g, o + k * 2 + 1, none⟩) hgw).trans hd1; first | (refine Free.run_yes (by rfl) ?_; go_simp; refine Free.oR hK (hR (Below.refl _ _)) hS ?_; exact rfl) | (refine Free.run_no (by rfl) (Free.oR hK (hR (Below.refl _ _)) hS ?_); exact rfl)
        refine Free.cons ?_ ?_
        · intro st hag w' hS; (rintro _ rfl); (rintro _ rfl); intro K hK; have k0 := (hS.1.cell (p := ⟨g, o + k * 2, none⟩) hgw).trans hd0; have k1 := (hS.1.cell (p := ⟨g, o + k * 2 + 1, none⟩) hgw).trans hd1; first | (refine Free.run_yes (by rfl) ?_; go_simp; refine Free.oR hK (hR (Below.refl _ _)) hS ?_; exact rfl) | (refine Free.run_no (by rfl) (Free.oR hK (hR (Below.refl _ _)) hS ?_); exact rfl)
        refine Free.cons ?_ ?_
        · intro st hag w' hS; (rintro _ rfl); intro K hK; have k0 := (hS.1.cell (p := ⟨g, o + k * 2, none⟩) hgw).trans hd0; have k1 := (hS.1.cell (p := ⟨g, o + k * 2 + 1, none⟩) hgw).trans hd1; first | (refine Free.run_yes (by rfl) ?_; go_simp; refine Free.oR hK (hR (Below.refl _ _)) hS ?_; exact rfl) | (refine Free.run_no (by rfl) (Free.oR hK (hR (Below.refl _ _)) hS ?_); exact rfl)
        refine Free.cons ?_ ?_
        · intro st hag w' hS; (rintro _ rfl); intro K hK; have k0 := (hS.1.cell (p := ⟨g, o + k * 2, none⟩) hgw).trans hd0; have k1 := (hS.1.cell (p := ⟨g, o + k * 2 + 1, none⟩) hgw).trans hd1; first | (refine Free.run_yes (by rfl) ?_; go_simp; refine Free.oR hK (hR (Below.refl _ _)) hS ?_; exact rfl) | (refine Free.run_no (by rfl) (Free.oR hK (hR (Below.refl _ _)) hS ?_); exact rfl)
        refine Free.cons ?_ ?_
        · intro st hag; (obtain rfl : st = 1 := Nat.le_antisymm hag.2 hag.1); intro w' hS; (intro v9 h9); (rintro _ rfl); intro K hK; have k0 := (hS.1.cell (p := ⟨g, o + k * 2, none⟩) hgw).trans hd0; have k1 := (hS.1.cell (p := ⟨g, o + k * 2 + 1, none⟩) hgw).trans hd1; refine Free.run_yes (by rfl) ?_; (refine wp_app (.tmp 37) (.tmp 42) rfl w.heap.size v9 (l ++ [x]) q.d B mm kk rfl rfl h9 (hD.below hS.1) (by have := hlk.out; simp; omega) hS.1.size ?_; intro v3 w3 ha; refine ⟨rfl, ?_⟩; simp only [Free.valOf, Act.put, List.setIfInBounds_toArray, List.set_cons_zero, List.set_cons_succ, Array.getD_eq_getD_getElem?, List.getElem?_toArray, List.getElem?_cons_succ, List.getElem?_cons_zero, Option.getD_some]; refine hK.out _ _ ha.own ⟨hS.1.keeps ha.keeps (fun i hi e => by have := (OB.lt h9 i e).1; omega) (Nat.le_refl _), fun e => absurd e (by decide)⟩ (.inl rfl))
        refine Free.cons ?_ ?_
        · intro st hag; (obtain rfl : st = 2 := Nat.le_antisymm hag.2 hag.1); intro w' hS; (intro v15 h15); intro K hK; have k0 := (hS.1.cell (p := ⟨g, o + k * 2, none⟩) hgw).trans hd0; have k1 := (hS.1.cell (p := ⟨g, o + k * 2 + 1, none⟩) hgw).trans hd1; first | (refine Free.run_yes (by rfl) ?_; go_simp; refine Free.oR hK (hR (Below.refl _ _)) hS ?_; first | exact rfl | assumption) | (refine Free.run_no (by rfl) (Free.oR hK (hR (Below.refl _ _)) hS ?_); exact rfl)
        exact Free.nil
        clear hvo
        intro w' hS; intro v0; intro v1; intro v2; intro v3; intro v4; intro v5; intro v6; intro v7; intro v8; intro v9; intro v10; intro v11; intro v12; intro v13; intro v14; intro v15; intro v16 h16; (try simp only [Act.put, List.setIfInBounds_toArray, List.set_cons_zero, List.set_cons_succ]); refine Free.toldE_nil ?_
        have h16 : OB w' w.heap.size v16 (bytesK (L.take (k + 1))) := by rw [hnx.out]; exact h16
        have bl3 := hS.1
        clear hS bl hO
        go_wp2
        go_roundw
        case rel => exact ⟨k + 1, _, by omega, rfl, by go_num, h16, bl3⟩
        case measure => simp [intOf]; omega
      · have hkn : n = k := by omega
        have e : L.take k = L := List.take_of_length_le (by omega)
        rw [e] at hO hR0 hlk hn0
        have HF := Lib.hid (fun w h => ref_Fill A0 n0 c0 m (bytesK L) w h (by omega))
        clear e hkn hn0
        go_wp2_with fail
        refine (HZ.out _).mono ?_
        rintro e w5 ⟨rfl, b5⟩
        replace bl := Below.next bl b5 (Nat.le_refl _)
        go_wp2_with fail
        refine (HF.out _ (hR0.below b5)).mono ?_
        rintro e w6 ⟨rfl, hbk, b6⟩
        have hb0 := bl.size
        replace bl := Below.next bl b6 (Nat.le_refl _)
        go_wp2
        go_ret2
        refine ⟨_, (show Ending.returned (.tuple #[_, .int .i64 0]) = .returned (.tuple #[_, .int .i64 E]) from by rw [← hres.out, e1.out]), ?_, bl⟩
        have e9 : encKT (zn : Int) L = fill (bytesK L) m := by unfold encKT; rw [if_pos e1.out, ← hmm.out]; rfl
        rw [e9]
        have := OB.of_row (B := w.heap.size) hbk (by rw [fill_length]; unfold maxLen; omega) hb0
        rw [fill_length] at this
        exact this
end Go.Proofs.Ytfldmejjepakeaa
