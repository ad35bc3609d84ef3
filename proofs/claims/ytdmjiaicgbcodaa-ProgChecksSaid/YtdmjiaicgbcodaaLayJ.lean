/- Contracts of package lay: a bucket's cell. -/
import Derived.Test.YtdmjiaicgbcodaaLayF
namespace Go.Proofs.Ytdmjiaicgbcodaa
open Go.ChangeShapes Go.WideShapes Go.ChangeAt Go.RowKit
open Go.ChangeMaps (open_string shut_string)
set_option linter.unusedVariables false
set_option linter.unusedSimpArgs false

/-- The cell of a bucket's version. -/
def bucketC (x : Cfg) (b v : Int) : Int := if inR b 0 (2 * leavesC x.h - 1 - 1) = true ∧ inR v 0 1 = true then bucketsC x + 2 * b + v else -1
set_option maxHeartbeats 1000000 in
set_option maxRecDepth 100000 in
theorem lay_bucket (x : Cfg) (A : Option Addr) (n c : Nat) (b v : Int) (w : World) (h : x.B) : Calls Try.prog 25 #[.agg #[.int .i64 x.h, .int .i64 x.z, .int .i64 x.b, .int .i64 x.r, .int .i64 x.d, .int .i64 x.e, .int .i64 x.s, .int .i64 x.p, .int .i64 x.q, .int .i64 x.t, .slice A n c], .int .i64 b, .int .i64 v] w fun e w' => e = .returned (.int .i64 (bucketC x b v)) ∧ Below w.heap.size w w' := by
  have HB := Lib.hid (fun w => lay_buckets x A n c w h)
  have HT := Lib.hid (fun w => tree_buckets' x.h w h.h.1 h.h.2)
  have r0 := leavesC_range' x.h h.h.1 h.h.2
  have r2 := bucketsC_range h
  unfold bucketC
  have hk : -1000 ≤ 2 * leavesC x.h - 1 ∧ 2 * leavesC x.h - 1 ≤ 1000 := by omega
  clear h
  generalize 2 * leavesC x.h - 1 = k at *
  generalize bucketsC x = s at *
  have w0 : IntKind.i64.wrap (k - 1) = k - 1 := IntWalk.i64_in _ (by omega)
  have hX0 := Blk.new w #[.int .i64 x.h, .int .i64 x.z, .int .i64 x.b, .int .i64 x.r, .int .i64 x.d, .int .i64 x.e, .int .i64 x.s, .int .i64 x.p, .int .i64 x.q, .int .i64 x.t, .slice A n c] 28
  have bb : Below w.heap.size w (w.alloc (.cells #[.int .i64 x.h, .int .i64 x.z, .int .i64 x.b, .int .i64 x.r, .int .i64 x.d, .int .i64 x.e, .int .i64 x.s, .int .i64 x.p, .int .i64 x.q, .int .i64 x.t, .slice A n c] 28)) := (by repeat (first | exact Below.refl _ _ | assumption | apply below_drewN' | apply Below.drew | refine Below.alloc ?_ (by first | omega | (simp; done) | (simp; omega)) _ | refine Below.setCell ?_ (by first | omega | (simp; done) | (simp; omega)) _))
  obtain ⟨p, hp⟩ : ∃ p, inR b 0 (k - 1) = p := ⟨_, rfl⟩
  obtain ⟨q, hq⟩ : ∃ q, inR v 0 1 = q := ⟨_, rfl⟩
  rw [hp, hq]
  have HP := Lib.hid (fun w => lay_within b 0 (k - 1) p w hp)
  have HQ := Lib.hid (fun w => lay_within v 0 1 q w hq)
  cases p with
  | false =>
    rw [if_neg (by simp)]
    clear hp hq
    go_enter Try.func25, Try.ntmps25
    go_wp2_with fail
    refine (HT.out _).mono ?_
    rintro e w2 ⟨rfl, hb2⟩
    have hX2 := hX0.below hb2 hX0.lt
    have b2 := bnext bb hb2
    go_wp2_with fail
    refine (HP.out _).mono ?_
    rintro e w3 ⟨rfl, b3⟩
    go_wp2
    go_ret
    exact ⟨rfl, bnext b2 b3⟩
  | true =>
    cases q with
    | false =>
      rw [if_neg (by simp)]
      clear hp hq
      go_enter Try.func25, Try.ntmps25
      go_wp2_with fail
      refine (HT.out _).mono ?_
      rintro e w2 ⟨rfl, hb2⟩
      have hX2 := hX0.below hb2 hX0.lt
      have b2 := bnext bb hb2
      go_wp2_with fail
      refine (HP.out _).mono ?_
      rintro e w3 ⟨rfl, b3⟩
      go_wp2_with fail
      refine (HQ.out _).mono ?_
      rintro e w4 ⟨rfl, b4⟩
      go_wp2
      go_ret
      exact ⟨rfl, bnext (bnext b2 b3) b4⟩
    | true =>
      rw [if_pos ⟨rfl, rfl⟩]
      obtain ⟨i0, i1⟩ := inR_true hp
      obtain ⟨j0, j1⟩ := inR_true hq
      clear hp hq
      have w1 : IntKind.i64.wrap (2 * b) = 2 * b := IntWalk.i64_in _ (by omega)
      have w2 : IntKind.i64.wrap (s + 2 * b) = s + 2 * b := IntWalk.i64_in _ (by omega)
      have w3' : IntKind.i64.wrap (s + 2 * b + v) = s + 2 * b + v := IntWalk.i64_in _ (by omega)
      go_enter Try.func25, Try.ntmps25
      go_wp2_with fail
      refine (HT.out _).mono ?_
      rintro e w2 ⟨rfl, hb2⟩
      have hX2 := hX0.below hb2 hX0.lt
      have b2 := bnext bb hb2
      go_wp2_with fail
      refine (HP.out _).mono ?_
      rintro e w3 ⟨rfl, b3⟩
      go_wp2_with fail
      refine (HQ.out _).mono ?_
      rintro e w4 ⟨rfl, b4⟩
      have hX4 := (hX2.below b3 hX2.lt).below b4 (by have := b3.size; have := hX2.lt; omega)
      have b24 := bnext (bnext b2 b3) b4
      have hX := hX4
      have hXlt := hX.lt
      have bR := Below.refl w4.heap.size w4
      have a0 := (hX.below bR hXlt).cell 0 (v := .int .i64 x.h) rfl; have a1 := (hX.below bR hXlt).cell 1 (v := .int .i64 x.z) rfl; have a2 := (hX.below bR hXlt).cell 2 (v := .int .i64 x.b) rfl; have a3 := (hX.below bR hXlt).cell 3 (v := .int .i64 x.r) rfl; have a4 := (hX.below bR hXlt).cell 4 (v := .int .i64 x.d) rfl; have a5 := (hX.below bR hXlt).cell 5 (v := .int .i64 x.e) rfl; have a6 := (hX.below bR hXlt).cell 6 (v := .int .i64 x.s) rfl; have a7 := (hX.below bR hXlt).cell 7 (v := .int .i64 x.p) rfl; have a8 := (hX.below bR hXlt).cell 8 (v := .int .i64 x.q) rfl; have a9 := (hX.below bR hXlt).cell 9 (v := .int .i64 x.t) rfl; have a10 := (hX.below bR hXlt).cell 10 (v := .slice A n c) rfl
      go_wp2_with fail
      refine (HB.out _).mono ?_
      rintro e w5 ⟨rfl, b5⟩
      go_wp2
      go_ret
      exact ⟨rfl, bnext b24 b5⟩
end Go.Proofs.Ytdmjiaicgbcodaa
