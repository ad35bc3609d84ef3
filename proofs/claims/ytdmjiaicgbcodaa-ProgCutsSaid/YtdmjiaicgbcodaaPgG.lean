/- ProgRoom: the walk of the statement. -/
import Derived.Test.YtdmjiaicgbcodaaPgF
namespace Go.Proofs.Ytdmjiaicgbcodaa
open Go.ChangeShapes Go.WideShapes Go.ChangeAt Go.RowKit
open Go.ChangeMaps (open_string shut_string)
set_option linter.unusedVariables false
set_option linter.unusedSimpArgs false

/-- More rounds, wider batches, more writes. -/
def roomC (x : Cfg) : Cfg := ⟨6, x.z, x.b, 4, 8, 8, 64, x.p, x.q, x.t⟩
theorem limit_room {d k l : Int} (hd : d ≤ 8) (h : limitK d k l = true) : limitK 8 k l = true := by
  unfold limitK at *
  split
  · rename_i hk
    rw [if_pos hk] at h
    have := inR_true h
    simp [inR]
    omega
  · rename_i hk
    rw [if_neg hk] at h
    exact h
theorem mayO_room {d n : Int} {Z : List (List Int)} {q : OpR} (hd : d ≤ 8) (h : mayO d n Z q = true) : mayO 8 n Z q = true := by
  unfold mayO at *
  simp only [Bool.and_eq_true] at *
  obtain ⟨a, b, c, e, f⟩ := h
  exact ⟨a, b, c, limit_room hd e, f⟩
theorem mayC_room {x : Cfg} {Z : List (List Int)} (h : mayC x Z = true) : mayC (roomC x) Z = true := by
  simp only [mayC, roomC, Bool.and_eq_true] at *
  obtain ⟨a, b, c, d, e, f, g, i, j, k, l⟩ := h
  exact ⟨by decide, b, c, by decide, by decide, by decide, by decide, i, j, k, l⟩
theorem check_room {x : Cfg} {Z : List (List Int)} {L : List OpR} (h : checkP x Z L = 0) : checkP (roomC x) Z L = 0 := by
  unfold checkP at h
  by_cases hm : mayC x Z = true
  · rw [if_pos hm] at h
    by_cases hc : inR L.length 1 8 = true ∧ (countK readK L : Int) ≤ x.r ∧ (countK writeK L : Int) ≤ x.e ∧ L.all (mayO x.d Z.length Z) = true
    · have hb := mayC_B hm
      have hr := hb.r
      have he := hb.e
      have hd := hb.d
      unfold checkP
      rw [if_pos (mayC_room hm), if_pos]
      refine ⟨hc.1, ?_, ?_, ?_⟩
      · show (countK readK L : Int) ≤ 4
        omega
      · show (countK writeK L : Int) ≤ 8
        omega
      · rw [List.all_eq_true]
        intro q hq
        exact mayO_room hd.2 (List.all_eq_true.1 hc.2.2.2 q hq)
    · rw [if_neg hc] at h; cases h
  · rw [if_neg hm] at h; cases h
theorem check_none (x : Cfg) (L : List OpR) : checkP x [] L = 1 := by
  unfold checkP
  rw [if_neg]
  simp [mayC, tabsOk, inR]
set_option maxHeartbeats 4000000 in
set_option maxRecDepth 100000 in
theorem room_any (x : Cfg) (A : Option Addr) (n c : Nat) (Z : List (List Int)) (A2 : Option Addr) (n2 c2 : Nat) (L : List OpR) (w : World) (h : RG w A n c Z) (h2 : RO w A2 n2 c2 L) (hs : ∀ q ∈ L, ∀ e ∈ q.args, e.s.size ≤ maxLen) :
    Calls Try.prog 7 #[.agg #[.int .i64 x.h, .int .i64 x.z, .int .i64 x.b, .int .i64 x.r, .int .i64 x.d, .int .i64 x.e, .int .i64 x.s, .int .i64 x.p, .int .i64 x.q, .int .i64 x.t, .slice A n c], .slice A2 n2 c2] w fun e w' => e = .returned (.bool true) ∧ Below w.heap.size w w' := by
  have hs := Lib.hid hs
  have hX0 := Blk.new w #[.int .i64 x.h, .int .i64 x.z, .int .i64 x.b, .int .i64 x.r, .int .i64 x.d, .int .i64 x.e, .int .i64 x.s, .int .i64 x.p, .int .i64 x.q, .int .i64 x.t, .slice A n c] 24
  have bb : Below w.heap.size w (w.alloc (.cells #[.int .i64 x.h, .int .i64 x.z, .int .i64 x.b, .int .i64 x.r, .int .i64 x.d, .int .i64 x.e, .int .i64 x.s, .int .i64 x.p, .int .i64 x.q, .int .i64 x.t, .slice A n c] 24)) := (by repeat (first | exact Below.refl _ _ | assumption | apply below_drewN' | apply Below.drew | refine Below.alloc ?_ (by first | omega | (simp; done) | (simp; omega)) _ | refine Below.setCell ?_ (by first | omega | (simp; done) | (simp; omega)) _))
  go_enter Try.func7, Try.ntmps7
  go_wp2_with fail
  generalize w.alloc (.cells #[.int .i64 x.h, .int .i64 x.z, .int .i64 x.b, .int .i64 x.r, .int .i64 x.d, .int .i64 x.e, .int .i64 x.s, .int .i64 x.p, .int .i64 x.q, .int .i64 x.t, .slice A n c] 24) = W1 at *
  refine (first19_any _).mono ?_
  rintro e w2 ⟨rfl, e2⟩
  have hX := hX0.below e2 hX0.lt
  have bl := bnext bb e2
  clear hX0 bb e2
  have hXlt := hX.lt
  have a0 := hX.cell 0 (v := .int .i64 x.h) rfl; have a1 := hX.cell 1 (v := .int .i64 x.z) rfl; have a2 := hX.cell 2 (v := .int .i64 x.b) rfl; have a3 := hX.cell 3 (v := .int .i64 x.r) rfl; have a4 := hX.cell 4 (v := .int .i64 x.d) rfl; have a5 := hX.cell 5 (v := .int .i64 x.e) rfl; have a6 := hX.cell 6 (v := .int .i64 x.s) rfl; have a7 := hX.cell 7 (v := .int .i64 x.p) rfl; have a8 := hX.cell 8 (v := .int .i64 x.q) rfl; have a9 := hX.cell 9 (v := .int .i64 x.t) rfl; have a10 := hX.cell 10 (v := .slice A n c) rfl
  go_wp2_with fail
  refine (few_any x A n c Z _ (h.below bl)).mono ?_
  rintro e w3 ⟨⟨b, rfl⟩, e3⟩
  replace hX := hX.below e3 hX.lt
  replace bl := bnext bl e3
  clear e3
  clear a0 a1 a2 a3 a4 a5 a6 a7 a8 a9 a10 hXlt
  cases b with
  | false => (go_wp2_with fail; refine (first19_any _).mono ?_; rintro e w9 ⟨rfl, b9⟩; go_wp2; go_ret; exact ⟨rfl, bnext bl b9⟩)
  | true =>
  go_wp2_with fail
  refine (few19_any A2 n2 c2 L _ (h2.below bl) hs.out).mono ?_
  rintro e w4 ⟨⟨b, rfl⟩, e3⟩
  replace hX := hX.below e3 hX.lt
  replace bl := bnext bl e3
  clear e3
  cases b with
  | false => (go_wp2_with fail; refine (first19_any _).mono ?_; rintro e w9 ⟨rfl, b9⟩; go_wp2; go_ret; exact ⟨rfl, bnext bl b9⟩)
  | true =>
  have hXlt := hX.lt
  have a0 := hX.cell 0 (v := .int .i64 x.h) rfl; have a1 := hX.cell 1 (v := .int .i64 x.z) rfl; have a2 := hX.cell 2 (v := .int .i64 x.b) rfl; have a3 := hX.cell 3 (v := .int .i64 x.r) rfl; have a4 := hX.cell 4 (v := .int .i64 x.d) rfl; have a5 := hX.cell 5 (v := .int .i64 x.e) rfl; have a6 := hX.cell 6 (v := .int .i64 x.s) rfl; have a7 := hX.cell 7 (v := .int .i64 x.p) rfl; have a8 := hX.cell 8 (v := .int .i64 x.q) rfl; have a9 := hX.cell 9 (v := .int .i64 x.t) rfl; have a10 := hX.cell 10 (v := .slice A n c) rfl
  go_wp2_with fail
  obtain ⟨E, hE⟩ : ∃ E, checkP x Z L = E := ⟨_, rfl⟩
  refine (hE ▸ prog_check x A n c Z A2 n2 c2 L _ (h.below bl) (h2.below bl)).mono ?_
  rintro e w5 ⟨rfl, e3⟩
  replace hX := hX.below e3 hX.lt
  replace bl := bnext bl e3
  clear e3
  clear a0 a1 a2 a3 a4 a5 a6 a7 a8 a9 a10 hXlt
  by_cases e0 : E = 0
  · subst e0
    have HA := Lib.hid (fun (w : World) (h : RG w A n c Z) (h2 : RO w A2 n2 c2 L) => (show Calls Try.prog 28 #[.agg #[.int .i64 6, .int .i64 x.z, .int .i64 x.b, .int .i64 4, .int .i64 8, .int .i64 8, .int .i64 64, .int .i64 x.p, .int .i64 x.q, .int .i64 x.t, .slice A n c], .slice A2 n2 c2] w fun e w' => e = .returned (.int .i64 0) ∧ Below w.heap.size w w' from by have k := prog_check (roomC x) A n c Z A2 n2 c2 L w h h2; rewrite [check_room hE] at k; exact k))
    have HB := Lib.hid (fun (w : World) (h2 : RO w A2 n2 c2 L) => (show Calls Try.prog 28 #[.agg #[.int .i64 x.h, .int .i64 x.z, .int .i64 x.b, .int .i64 x.r, .int .i64 x.d, .int .i64 x.e, .int .i64 x.s, .int .i64 x.p, .int .i64 x.q, .int .i64 x.t, .slice none 0 0], .slice A2 n2 c2] w fun e w' => e = .returned (.int .i64 1) ∧ Below w.heap.size w w' from by have k := prog_check x none 0 0 [] A2 n2 c2 L w (RG.none_ w) h2; rewrite [check_none x L] at k; exact k))
    clear hE
    have hXlt := hX.lt
    have a0 := hX.cell 0 (v := .int .i64 x.h) rfl; have a1 := hX.cell 1 (v := .int .i64 x.z) rfl; have a2 := hX.cell 2 (v := .int .i64 x.b) rfl; have a3 := hX.cell 3 (v := .int .i64 x.r) rfl; have a4 := hX.cell 4 (v := .int .i64 x.d) rfl; have a5 := hX.cell 5 (v := .int .i64 x.e) rfl; have a6 := hX.cell 6 (v := .int .i64 x.s) rfl; have a7 := hX.cell 7 (v := .int .i64 x.p) rfl; have a8 := hX.cell 8 (v := .int .i64 x.q) rfl; have a9 := hX.cell 9 (v := .int .i64 x.t) rfl; have a10 := hX.cell 10 (v := .slice A n c) rfl
    go_wp2_with fail
    have hD := (Blk.new w5 #[.int .i64 6, .int .i64 x.z, .int .i64 x.b, .int .i64 4, .int .i64 8, .int .i64 8, .int .i64 64, .int .i64 x.p, .int .i64 x.q, .int .i64 x.t, .slice A n c] 24).alloc (.cells #[.int .i64 x.h, .int .i64 x.z, .int .i64 x.b, .int .i64 x.r, .int .i64 x.d, .int .i64 x.e, .int .i64 x.s, .int .i64 x.p, .int .i64 x.q, .int .i64 x.t, .slice none 0 0] 24)
    have hN := Blk.new2 w5 (.cells #[.int .i64 6, .int .i64 x.z, .int .i64 x.b, .int .i64 4, .int .i64 8, .int .i64 8, .int .i64 64, .int .i64 x.p, .int .i64 x.q, .int .i64 x.t, .slice A n c] 24) #[.int .i64 x.h, .int .i64 x.z, .int .i64 x.b, .int .i64 x.r, .int .i64 x.d, .int .i64 x.e, .int .i64 x.s, .int .i64 x.p, .int .i64 x.q, .int .i64 x.t, .slice none 0 0] 24
    have bl2 := (bl.alloc bl.size (.cells #[.int .i64 6, .int .i64 x.z, .int .i64 x.b, .int .i64 4, .int .i64 8, .int .i64 8, .int .i64 64, .int .i64 x.p, .int .i64 x.q, .int .i64 x.t, .slice A n c] 24)).alloc (by simp; have := bl.size; omega) (.cells #[.int .i64 x.h, .int .i64 x.z, .int .i64 x.b, .int .i64 x.r, .int .i64 x.d, .int .i64 x.e, .int .i64 x.s, .int .i64 x.p, .int .i64 x.q, .int .i64 x.t, .slice none 0 0] 24)
    clear hX bl
    clear a0 a1 a2 a3 a4 a5 a6 a7 a8 a9 a10 hXlt
    refine (first19_any _).mono ?_
    rintro e w6 ⟨rfl, e3⟩
    replace hD := hD.below e3 hD.lt
    replace hN := hN.below e3 hN.lt
    replace bl2 := bnext bl2 e3
    clear e3
    have a0 := hD.cell 0 (v := .int .i64 6) rfl; have a1 := hD.cell 1 (v := .int .i64 x.z) rfl; have a2 := hD.cell 2 (v := .int .i64 x.b) rfl; have a3 := hD.cell 3 (v := .int .i64 4) rfl; have a4 := hD.cell 4 (v := .int .i64 8) rfl; have a5 := hD.cell 5 (v := .int .i64 8) rfl; have a6 := hD.cell 6 (v := .int .i64 64) rfl; have a7 := hD.cell 7 (v := .int .i64 x.p) rfl; have a8 := hD.cell 8 (v := .int .i64 x.q) rfl; have a9 := hD.cell 9 (v := .int .i64 x.t) rfl; have a10 := hD.cell 10 (v := .slice A n c) rfl
    go_wp2_with fail
    refine (HA.out _ (h.below bl2) (h2.below bl2)).mono ?_
    rintro e w7 ⟨rfl, e3⟩
    replace hN := hN.below e3 hN.lt
    replace bl2 := bnext bl2 e3
    clear e3 hD a0 a1 a2 a3 a4 a5 a6 a7 a8 a9 a10
    have a0 := hN.cell 0 (v := .int .i64 x.h) rfl; have a1 := hN.cell 1 (v := .int .i64 x.z) rfl; have a2 := hN.cell 2 (v := .int .i64 x.b) rfl; have a3 := hN.cell 3 (v := .int .i64 x.r) rfl; have a4 := hN.cell 4 (v := .int .i64 x.d) rfl; have a5 := hN.cell 5 (v := .int .i64 x.e) rfl; have a6 := hN.cell 6 (v := .int .i64 x.s) rfl; have a7 := hN.cell 7 (v := .int .i64 x.p) rfl; have a8 := hN.cell 8 (v := .int .i64 x.q) rfl; have a9 := hN.cell 9 (v := .int .i64 x.t) rfl; have a10 := hN.cell 10 (v := .slice none 0 0) rfl
    go_wp2_with fail
    refine (HB.out _ (h2.below bl2)).mono ?_
    rintro e w8 ⟨rfl, e3⟩
    replace bl2 := bnext bl2 e3
    go_wp2
    go_ret
    exact ⟨rfl, bl2⟩
  · have f0 : (E != 0) = true := by rw [bne_iff_ne]; exact e0
    (go_wp2_with fail; refine (first19_any _).mono ?_; rintro e w9 ⟨rfl, b9⟩; go_wp2; go_ret; exact ⟨rfl, bnext bl b9⟩)
end Go.Proofs.Ytdmjiaicgbcodaa
