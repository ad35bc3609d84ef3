/- The document's EncodeRow. -/
import Derived.Test.YtfldmejjepakeaaRwC
namespace Go.Proofs.Ytfldmejjepakeaa
open Go.ChangeShapes Go.WideShapes Go.ChangeAt Go.RowKit
open Go.ChangeMaps (open_string shut_string)
set_option linter.unusedVariables false
set_option linter.unusedSimpArgs false
set_option maxRecDepth 100000
open Go.Deep

theorem row_fill {x : UInt8} {V : List ValR} (hv : ∀ v ∈ V, mayVR v = true) (h4 : V.length ≤ 4) : fill (x :: bytesV V) 37 = x :: (bytesV V ++ zr (36 - 9 * V.length)) := by
  have hl := bytesV_len V hv
  unfold fill
  rw [List.take_of_length_le (by rw [List.length_cons, hl]; omega), List.length_cons, hl, List.cons_append, show 37 - (9 * V.length + 1) = 36 - 9 * V.length by omega]
  rfl
set_option maxHeartbeats 8000000 in
theorem ref_encodeR (t : Int) (A : Option Addr) (n c : Nat) (V : List ValR) (w : World) (h : RV w A n c V) :
    Calls Try.prog 37 #[.agg #[.int .i64 t, .slice A n c]] w fun e w' => ∃ v, e = .returned (.tuple #[v, .int .i64 (rowE ⟨t, V⟩)]) ∧ RBv w' v (rowT ⟨t, V⟩) ∧ Below w.heap.size w w' := by
  have hLn := h.len
  have hnm : n ≤ maxLen := Nat.le_trans h.cap h.max
  unfold maxLen at hnm
  obtain ⟨E, hE⟩ : ∃ E, rowE ⟨t, V⟩ = E := ⟨_, rfl⟩
  rw [hE]
  have hres := Lib.hid hE
  clear hE
  have hX0 := Blk.new w #[.int .i64 t, .slice A n c] 26
  have bb : Below w.heap.size w (w.alloc (.cells #[.int .i64 t, .slice A n c] 26)) := (by repeat (first | exact Below.refl _ _ | assumption | apply below_drewN' | apply Below.drew | refine Below.alloc ?_ (by first | omega | (simp; done) | (simp; omega)) _ | refine Below.setCell ?_ (by first | omega | (simp; done) | (simp; omega)) _))
  rcases (show t < 0 ∨ (¬ t < 0 ∧ 4 ≤ t) ∨ (¬ t < 0 ∧ ¬ 4 ≤ t) by omega) with t1 | ⟨t1, t2⟩ | ⟨t1, t2⟩
  · have e1 := Lib.hid (rowE_one (r := ⟨t, V⟩) (.inl t1))
    go_enter Try.func37, Try.ntmps37
    go_wp2
    go_ret2
    exact ⟨_, (show Ending.returned (.tuple #[.slice none 0 0, .int .i64 1]) = .returned (.tuple #[_, .int .i64 E]) from by rw [← hres.out, e1.out]), (show RBv _ (.slice none 0 0) (rowT ⟨t, V⟩) from by rw [rowT_no (by rw [e1.out]; decide)]; exact RBv.nil _), bb⟩
  · have e1 := Lib.hid (rowE_one (r := ⟨t, V⟩) (.inr (.inl t2)))
    go_enter Try.func37, Try.ntmps37
    go_wp2
    go_ret2
    exact ⟨_, (show Ending.returned (.tuple #[.slice none 0 0, .int .i64 1]) = .returned (.tuple #[_, .int .i64 E]) from by rw [← hres.out, e1.out]), (show RBv _ (.slice none 0 0) (rowT ⟨t, V⟩) from by rw [rowT_no (by rw [e1.out]; decide)]; exact RBv.nil _), bb⟩
  rcases (show n < 1 ∨ (¬ n < 1 ∧ 4 < n) ∨ (¬ n < 1 ∧ ¬ 4 < n) by omega) with n1 | ⟨n1, n2⟩ | ⟨n1, n2⟩
  · have e1 := Lib.hid (rowE_one (r := ⟨t, V⟩) (.inr (.inr (.inl (by show (V.length : Int) < 1; omega)))))
    have n1' : (n : Int) < 1 := by omega
    go_enter Try.func37, Try.ntmps37
    go_wp2
    go_ret2
    exact ⟨_, (show Ending.returned (.tuple #[.slice none 0 0, .int .i64 1]) = .returned (.tuple #[_, .int .i64 E]) from by rw [← hres.out, e1.out]), (show RBv _ (.slice none 0 0) (rowT ⟨t, V⟩) from by rw [rowT_no (by rw [e1.out]; decide)]; exact RBv.nil _), bb⟩
  · have e1 := Lib.hid (rowE_one (r := ⟨t, V⟩) (.inr (.inr (.inr (by show 4 < (V.length : Int); omega)))))
    have n1' : ¬ (n : Int) < 1 := by omega
    have n2' : 4 < (n : Int) := by omega
    go_enter Try.func37, Try.ntmps37
    go_wp2
    go_ret2
    exact ⟨_, (show Ending.returned (.tuple #[.slice none 0 0, .int .i64 1]) = .returned (.tuple #[_, .int .i64 E]) from by rw [← hres.out, e1.out]), (show RBv _ (.slice none 0 0) (rowT ⟨t, V⟩) from by rw [rowT_no (by rw [e1.out]; decide)]; exact RBv.nil _), bb⟩
  have n1' : ¬ (n : Int) < 1 := by omega
  have n2' : ¬ 4 < (n : Int) := by omega
  have hin := Lib.hid (show ¬ (t < 0 ∨ 4 ≤ t ∨ (V.length : Int) < 1 ∨ 4 < (V.length : Int)) by omega)
  obtain ⟨x, hx⟩ : ∃ x, x = UInt8.ofNat (t + 1).toNat := ⟨_, rfl⟩
  have hw1 : IntKind.i64.wrap (t + 1) = t + 1 := IntWalk.i64_in _ (by omega)
  have hx8 : IntKind.u8.wrap (t + 1) = (x.toNat : Int) := by rw [hx, UInt8.toNat_ofNat', IntKind.wrap_u8]; omega
  have hx9 : (t + 1) % 256 = (x.toNat : Int) := by rw [hx, UInt8.toNat_ofNat']; omega
  have hxh := Lib.hid hx
  clear hx
  go_enter Try.func37, Try.ntmps37
  go_wp2
  go_loopw [4, 5] (fun s i wr => ∃ (k : Nat) (v : Value), k ≤ n ∧ s = v ∧ i = .int .i64 k ∧ OB wr (w.heap.size + 1) v (x :: bytesV (V.take k)) ∧ Blk wr w.heap.size #[.int .i64 t, .slice A n c] 26 ∧ Below w.heap.size w wr ∧ Hid (∀ (i : Nat) (v : ValR), i < k → V[i]? = some v → mayVR v = true)) (fun s i _ => n - (intOf i).toNat)
  case atStart =>
    refine ⟨0, _, by omega, rfl, rfl, ?_, hX0.alloc _, (by repeat (first | exact Below.refl _ _ | assumption | apply below_drewN' | apply Below.drew | refine Below.alloc ?_ (by first | omega | (simp; done) | (simp; omega)) _ | refine Below.setCell ?_ (by first | omega | (simp; done) | (simp; omega)) _)), Lib.hid (fun i v hi => absurd hi (by omega))⟩
    have := OB.of_row (w := (w.alloc (.cells #[.int .i64 t, .slice A n c] 26)).alloc (.cells (bcells [x]) 5)) (B := w.heap.size + 1) (l := [x]) (Blk.new _ _ _) (by unfold maxLen; simp) (by simp)
    rw [World.size_alloc] at this
    exact this
  case round =>
    clear hX0 bb
    obtain ⟨k, u, hk, hu, rfl, hO, hX, bl, hall⟩ := hrel
    replace hu := hu.symm
    subst hu
    have hTl : (x :: bytesV (V.take k)).length = 1 + 9 * k := by
      rw [List.length_cons, bytesV_len _ (take_all hall.out), List.length_take]
      omega
    replace hTl := Lib.hid hTl
    obtain ⟨A', c', rfl, hR⟩ := hO.sl (1 + 9 * k) hTl.out
    have hc37 := hR.cap
    have x0 := hX.cell 0 (v := .int .i64 t) rfl
    have x1 := hX.cell 1 (v := .slice A n c) rfl
    by_cases hlt : k < n
    · obtain ⟨p, hp⟩ : ∃ p, V[k]? = some p := ⟨_, List.getElem?_eq_getElem (by omega)⟩
      obtain ⟨g, o, rfl, hc⟩ := h.at_ (by omega)
      obtain ⟨c0, c1, c2⟩ := hc k p hp
      have hph := Lib.hid hp
      have hg := World.block_lt_of_cell? w _ c0
      replace c0 := (bl.cell (p := ⟨g, _, none⟩) hg).trans c0
      replace c1 := (bl.cell (p := ⟨g, _, none⟩) (World.block_lt_of_cell? w _ c1)).trans c1
      replace c2 := (bl.cell (p := ⟨g, _, none⟩) (World.block_lt_of_cell? w _ c2)).trans c2
      clear hc hp
      obtain ⟨pk, pn, ps⟩ := p
      have hsz := bl.size
      have HE := Lib.hid (fun w => renc_any pk pn ps w)
      go_wp2_with fail
      refine (HE.out _).mono ?_
      rintro e w4 ⟨v4, rfl, hO4, b4⟩
      have bl4 := Below.next bl b4 (Nat.le_refl _)
      have hO5 := hO.below b4
      have hX5 := hX.below b4 hX.lt
      clear bl hO hX x0 x1
      cases hm : mayV pk pn ps with
      | false =>
        have hm := Lib.hid hm
        have e1 := Lib.hid (rowE_kind (r := ⟨t, V⟩) hin.out hph.out (show mayVR ⟨pk, pn, ps⟩ = false from hm.out))
        rw [show encE pk pn ps = 12 from by unfold encE; rw [hm.out]; rfl]
        rw [show encT pk pn ps = [] from by unfold encT; rw [hm.out]; rfl] at hO4
        obtain ⟨A4, c4, rfl, hR4⟩ := hO4.sl 0 rfl
        go_wp2
        go_ret2
        exact ⟨_, (show Ending.returned (.tuple #[.slice none 0 0, .int .i64 12]) = .returned (.tuple #[_, .int .i64 E]) from by rw [← hres.out, e1.out]), (show RBv _ (.slice none 0 0) (rowT ⟨t, V⟩) from by rw [rowT_no (by rw [e1.out]; decide)]; exact RBv.nil _), bl4⟩
      | true =>
        have hm := Lib.hid hm
        rw [show encE pk pn ps = 0 from by unfold encE; rw [hm.out]; rfl]
        rw [show encT pk pn ps = encVR ⟨pk, pn, ps⟩ from by unfold encT; rw [hm.out]; rfl] at hO4
        obtain ⟨A4, c4, rfl, hR4⟩ := hO4.sl 9 (encVR_len hm.out)
        have hnx : Hid (x :: bytesV (V.take (k + 1)) = (x :: bytesV (V.take k)) ++ encVR ⟨pk, pn, ps⟩) := Lib.hid (by rw [List.take_add_one, hph.out, Option.toList_some, bytesV_snoc, List.cons_append])
        generalize x :: bytesV (V.take k) = T at *
        generalize encVR ⟨pk, pn, ps⟩ = e9 at *
        go_wp2_with (refine wpList_app rfl (.tmp 52) (.tmp 53) rfl (w.heap.size + 1) (.slice A' (1 + 9 * k) c') T e9 A4 9 c4 rfl rfl hO5 hR4 (by rw [hTl.out]; omega) (by have := hX5.lt; omega) ?_; intro v6 w6 ha)
        go_roundw
        case rel =>
          refine ⟨k + 1, _, by omega, rfl, by go_num, (by rw [hnx.out]; exact ha.own), hX5.keeps ha.keeps (fun e => by have := (hO5.lt _ e).1; omega), bl4.keeps ha.keeps (fun i hi e => by have := (hO5.lt i e).1; omega) (Nat.le_refl _), Lib.hid fun i v hi hv => ?_⟩
          by_cases ei : i = k
          · subst ei; rw [hph.out] at hv; injection hv with hv; rw [← hv]; exact hm.out
          · exact hall.out i v (by omega) hv
        case measure => simp [intOf]; omega
    · have hkn : n = k := by omega
      have e1 := Lib.hid (rowE_ok (r := ⟨t, V⟩) hin.out (fun i v hi hv => hall.out i v (by have : i < V.length := hi; omega) hv))
      have hfin : Hid (rowT ⟨t, V⟩ = fill (x :: bytesV (V.take k)) 37) := Lib.hid (by
        rw [List.take_of_length_le (by omega), row_fill (rowE_zero e1.out).2 (by show V.length ≤ 4; omega)]
        unfold rowT
        rw [if_pos e1.out]
        unfold rowB
        rw [← hxh.out])
      generalize x :: bytesV (V.take k) = T at *
      subst hkn
      have HF := Lib.hid (fun w h => ref_Fill A' (1 + 9 * n) c' 37 T w h (by omega))
      clear hTl
      go_wp2_with fail
      refine (HF.out _ hR).mono ?_
      rintro e w6 ⟨rfl, hbk, b6⟩
      have bl6 := Below.next bl b6 (Nat.le_refl _)
      have := RB.of_row hbk (by rw [fill_length]; unfold maxLen; omega)
      rw [fill_length] at this
      replace this := Lib.hid this
      clear hbk
      go_wp2
      go_ret2
      exact ⟨_, (show Ending.returned (.tuple #[.slice _ 37 37, .int .i64 0]) = .returned (.tuple #[_, .int .i64 E]) from by rw [← hres.out, e1.out]), (show RBv w6 (.slice _ 37 37) (rowT ⟨t, V⟩) from by rw [hfin.out]; exact ⟨_, _, _, rfl, this.out⟩), bl6⟩
end Go.Proofs.Ytfldmejjepakeaa
