/- LayApart: the walk of the statement. -/
import Derived.Test.YtdmjiaicgbcodaaLayM
import Derived.Test.YtdmjiaicgbcodaaLayN
import Derived.Test.YtdmjiaicgbcodaaLayT
import Derived.Test.YtdmjiaicgbcodaaLayPure3
namespace Go.Proofs.Ytdmjiaicgbcodaa
open Go.ChangeShapes Go.WideShapes Go.ChangeAt Go.RowKit
open Go.ChangeMaps (open_string shut_string)
set_option linter.unusedVariables false
set_option linter.unusedSimpArgs false

theorem info_bool : (Try.prog.info? 4).map (fun i => (i.zero, i.size, i.bytes)) = some (some (.bool false), 1, 1) := by kernel_rfl
theorem run_mkbools (w : World) (n : Nat) (hn : n ≤ 65536) : (Instr.makeSlice 38 (.int .i64 n) (.int .i64 n)).run Try.prog w = .ok (.slice (some ⟨w.heap.size, 0, none⟩) n n) (w.alloc (.cells (madeCells #[.bool false] n) 4)) := by
  obtain ⟨i, hi, hz, h1, h2⟩ := info_is info_bool
  have := run_make (P := Try.prog) w 38 4 i _ Try.underlying38 hi hz .i64 .i64 n n (by omega) (Int.le_refl _) (by rw [h2]; omega) (by omega)
  simp only [Int.toNat_natCast, h1, Nat.mul_one] at this
  exact this
theorem MB.ext {w : World} {M T : Nat} {a b c : Int} (h : MB w M T (fun j => inI a b j || inI b c j)) (h1 : a ≤ b) (h2 : b ≤ c) : MB w M T (inI a c) := h.congr fun j _ => inI_more h1 h2 j
theorem MB.ext2 {w : World} {M T : Nat} {a b c d e : Int} (h : MB w M T (fun j => (inI a b j || inI d e j) || inI b c j)) (h1 : a ≤ b) (h2 : b ≤ c) : MB w M T (fun j => inI a c j || inI d e j) := h.congr fun j _ => by rw [← inI_more h1 h2 j, Bool.or_assoc, Bool.or_comm (inI d e j), ← Bool.or_assoc]
theorem MB.ext3 {w : World} {M T : Nat} {a b d e f : Int} (h : MB w M T (fun j => (inI a b j || inI d e j) || inI e f j)) (h1 : d ≤ e) (h2 : e ≤ f) : MB w M T (fun j => inI a b j || inI d f j) := h.congr fun j _ => by rw [← inI_more h1 h2 j, Bool.or_assoc]
/-- The memory of the walk. -/
def St (W w : World) (ws G M T : Nat) (cx cl : Array Value) (P : Nat → Bool) : Prop := Blk w ws cx 24 ∧ Blk w G cl 28 ∧ MB w M T P ∧ Below ws W w
namespace St
variable {W w w' : World} {ws G M T : Nat} {cx cl : Array Value} {P Q : Nat → Bool}
theorem below (h : St W w ws G M T cx cl P) (hb : Below w.heap.size w w') : St W w' ws G M T cx cl P :=
  ⟨h.1.below hb h.1.lt, h.2.1.below hb h.2.1.lt, h.2.2.1.below hb h.2.2.1.lt, h.2.2.2.trans (hb.mono (Nat.le_of_lt h.1.lt))⟩
theorem alloc (h : St W w ws G M T cx cl P) (o : Obj) : St W (w.alloc o) ws G M T cx cl P := h.below ((Below.refl _ _).alloc (Nat.le_refl _) o)
theorem drew (h : St W w ws G M T cx cl P) : St W w.drew ws G M T cx cl P := ⟨h.1, h.2.1, h.2.2.1, h.2.2.2.drew⟩
theorem marks (h : St W w ws G M T cx cl P) (k : Keeps (fun g => g = M) w w') (hm : MB w' M T Q) (h1 : ws < M) (h2 : G < M) : St W w' ws G M T cx cl Q :=
  ⟨h.1.keeps k (by omega), h.2.1.keeps k (by omega), hm, ⟨k.os.trans h.2.2.2.os, k.tape.trans h.2.2.2.tape, k.output.trans h.2.2.2.output, Nat.le_trans h.2.2.2.size k.size, fun i hi => (k.block i (by have := h.1.lt; omega) (by omega)).trans (h.2.2.2.block i hi)⟩⟩
theorem ren (h : St W w ws G M T cx cl P) (e : ∀ j, j < T → P j = Q j) : St W w ws G M T cx cl Q := ⟨h.1, h.2.1, h.2.2.1.congr e, h.2.2.2⟩
end St
set_option maxHeartbeats 16000000 in
set_option maxRecDepth 100000 in
theorem apart_any (x : Cfg) (A : Option Addr) (n c : Nat) (Z : List (List Int)) (q0 : Int) (w : World) (h : RG w A n c Z) (hq : -9223372036854775808 ≤ q0 ∧ q0 ≤ 9223372036854775807) :
    Calls Try.prog 4 #[.agg #[.int .i64 x.h, .int .i64 x.z, .int .i64 x.b, .int .i64 x.r, .int .i64 x.d, .int .i64 x.e, .int .i64 x.s, .int .i64 x.p, .int .i64 x.q, .int .i64 x.t, .slice A n c], .int .i64 q0] w fun e w' => e = .returned (.bool true) ∧ Below w.heap.size w w' := by
  have hX0 := Blk.new w #[.int .i64 x.h, .int .i64 x.z, .int .i64 x.b, .int .i64 x.r, .int .i64 x.d, .int .i64 x.e, .int .i64 x.s, .int .i64 x.p, .int .i64 x.q, .int .i64 x.t, .slice A n c] 24
  have bb : Below w.heap.size w (w.alloc (.cells #[.int .i64 x.h, .int .i64 x.z, .int .i64 x.b, .int .i64 x.r, .int .i64 x.d, .int .i64 x.e, .int .i64 x.s, .int .i64 x.p, .int .i64 x.q, .int .i64 x.t, .slice A n c] 24)) := (by repeat (first | exact Below.refl _ _ | assumption | apply below_drewN' | apply Below.drew | refine Below.alloc ?_ (by first | omega | (simp; done) | (simp; omega)) _ | refine Below.setCell ?_ (by first | omega | (simp; done) | (simp; omega)) _))
  go_enter Try.func4, Try.ntmps4
  go_wp2_with fail
  generalize w.alloc (.cells #[.int .i64 x.h, .int .i64 x.z, .int .i64 x.b, .int .i64 x.r, .int .i64 x.d, .int .i64 x.e, .int .i64 x.s, .int .i64 x.p, .int .i64 x.q, .int .i64 x.t, .slice A n c] 24) = W1 at *
  refine (first_any _).mono ?_
  rintro e w2 ⟨rfl, e2⟩
  have hX := hX0.below e2 hX0.lt
  have bl := bnext bb e2
  clear hX0 bb e2
  have hXlt := hX.lt
  have bR := Below.refl w2.heap.size w2
  have a0 := (hX.below bR hXlt).cell 0 (v := .int .i64 x.h) rfl; have a1 := (hX.below bR hXlt).cell 1 (v := .int .i64 x.z) rfl; have a2 := (hX.below bR hXlt).cell 2 (v := .int .i64 x.b) rfl; have a3 := (hX.below bR hXlt).cell 3 (v := .int .i64 x.r) rfl; have a4 := (hX.below bR hXlt).cell 4 (v := .int .i64 x.d) rfl; have a5 := (hX.below bR hXlt).cell 5 (v := .int .i64 x.e) rfl; have a6 := (hX.below bR hXlt).cell 6 (v := .int .i64 x.s) rfl; have a7 := (hX.below bR hXlt).cell 7 (v := .int .i64 x.p) rfl; have a8 := (hX.below bR hXlt).cell 8 (v := .int .i64 x.q) rfl; have a9 := (hX.below bR hXlt).cell 9 (v := .int .i64 x.t) rfl; have a10 := (hX.below bR hXlt).cell 10 (v := .slice A n c) rfl
  go_wp2_with fail
  refine (few_any x A n c Z _ (h.below bl)).mono ?_
  rintro e w3 ⟨⟨b, rfl⟩, e3⟩
  have hX := hX.below e3 hX.lt
  replace bl := bnext bl e3
  clear e3 a0 a1 a2 a3 a4 a5 a6 a7 a8 a9 a10 bR hXlt
  cases b with
  | false => (go_wp2_with fail; refine (first_any _).mono ?_; rintro e w9 ⟨rfl, b9⟩; go_wp2; go_ret; exact ⟨rfl, bnext bl b9⟩)
  | true =>
  have hXlt := hX.lt
  have bR := Below.refl w3.heap.size w3
  have a0 := (hX.below bR hXlt).cell 0 (v := .int .i64 x.h) rfl; have a1 := (hX.below bR hXlt).cell 1 (v := .int .i64 x.z) rfl; have a2 := (hX.below bR hXlt).cell 2 (v := .int .i64 x.b) rfl; have a3 := (hX.below bR hXlt).cell 3 (v := .int .i64 x.r) rfl; have a4 := (hX.below bR hXlt).cell 4 (v := .int .i64 x.d) rfl; have a5 := (hX.below bR hXlt).cell 5 (v := .int .i64 x.e) rfl; have a6 := (hX.below bR hXlt).cell 6 (v := .int .i64 x.s) rfl; have a7 := (hX.below bR hXlt).cell 7 (v := .int .i64 x.p) rfl; have a8 := (hX.below bR hXlt).cell 8 (v := .int .i64 x.q) rfl; have a9 := (hX.below bR hXlt).cell 9 (v := .int .i64 x.t) rfl; have a10 := (hX.below bR hXlt).cell 10 (v := .slice A n c) rfl
  go_wp2_with fail
  obtain ⟨m, hm⟩ : ∃ m, mayC x Z = m := ⟨_, rfl⟩
  refine (hm ▸ lay_may x A n c Z _ (h.below bl)).mono ?_
  rintro e w4 ⟨rfl, e4⟩
  have hX := hX.below e4 hX.lt
  replace bl := bnext bl e4
  clear e4 a0 a1 a2 a3 a4 a5 a6 a7 a8 a9 a10 bR hXlt
  cases m with
  | false => (go_wp2_with fail; refine (first_any _).mono ?_; rintro e w9 ⟨rfl, b9⟩; go_wp2; go_ret; exact ⟨rfl, bnext bl b9⟩)
  | true =>
  have hB := Lib.hid (mayC_B hm)
  have hm := Lib.hid hm
  have hXlt := hX.lt
  have bR := Below.refl w4.heap.size w4
  have a0 := (hX.below bR hXlt).cell 0 (v := .int .i64 x.h) rfl; have a1 := (hX.below bR hXlt).cell 1 (v := .int .i64 x.z) rfl; have a2 := (hX.below bR hXlt).cell 2 (v := .int .i64 x.b) rfl; have a3 := (hX.below bR hXlt).cell 3 (v := .int .i64 x.r) rfl; have a4 := (hX.below bR hXlt).cell 4 (v := .int .i64 x.d) rfl; have a5 := (hX.below bR hXlt).cell 5 (v := .int .i64 x.e) rfl; have a6 := (hX.below bR hXlt).cell 6 (v := .int .i64 x.s) rfl; have a7 := (hX.below bR hXlt).cell 7 (v := .int .i64 x.p) rfl; have a8 := (hX.below bR hXlt).cell 8 (v := .int .i64 x.q) rfl; have a9 := (hX.below bR hXlt).cell 9 (v := .int .i64 x.t) rfl; have a10 := (hX.below bR hXlt).cell 10 (v := .slice A n c) rfl
  go_wp2_with fail
  refine (lay_of x A n c Z _ (h.below bl) hm.out).mono ?_
  rintro e w5 ⟨B, k, rfl, e5⟩
  have hX := hX.below e5 hX.lt
  replace bl := bnext bl e5
  clear e5 a0 a1 a2 a3 a4 a5 a6 a7 a8 a9 a10 bR hXlt
  have rt := total_range hB.out
  have HTot := Lib.hid (fun w => lay_total x (some B) n k w hB.out)
  obtain ⟨T, hT⟩ := Int.eq_ofNat_of_zero_le (show 0 ≤ totalC x by omega)
  rw [hT] at HTot
  rw [hT] at rt
  have t1 : ((T : Int) < 3) = False := by rw [eq_iff_iff]; exact ⟨fun _ => by omega, False.elim⟩
  have t2 : ((65536 : Int) < T) = False := by rw [eq_iff_iff]; exact ⟨fun _ => by omega, False.elim⟩
  have bl0 : Below w.heap.size w (w5.alloc (.cells #[.int .i64 x.h, .int .i64 x.z, .int .i64 x.b, .int .i64 x.r, .int .i64 x.d, .int .i64 x.e, .int .i64 x.s, .int .i64 x.p, .int .i64 x.q, .int .i64 x.t, .slice (some B) n k] 28)) := bl.alloc bl.size _
  have hL0 := Blk.new w5 #[.int .i64 x.h, .int .i64 x.z, .int .i64 x.b, .int .i64 x.r, .int .i64 x.d, .int .i64 x.e, .int .i64 x.s, .int .i64 x.p, .int .i64 x.q, .int .i64 x.t, .slice (some B) n k] 28
  have hX0 := hX.alloc (.cells #[.int .i64 x.h, .int .i64 x.z, .int .i64 x.b, .int .i64 x.r, .int .i64 x.d, .int .i64 x.e, .int .i64 x.s, .int .i64 x.p, .int .i64 x.q, .int .i64 x.t, .slice (some B) n k] 28)
  have hWG : w.heap.size < w5.heap.size := hX.lt
  clear hX bl h
  go_wp2_with fail
  generalize w5.alloc (.cells #[.int .i64 x.h, .int .i64 x.z, .int .i64 x.b, .int .i64 x.r, .int .i64 x.d, .int .i64 x.e, .int .i64 x.s, .int .i64 x.p, .int .i64 x.q, .int .i64 x.t, .slice (some B) n k] 28) = W6 at *
  generalize w5.heap.size = G at *
  refine (HTot.out _).mono ?_
  rintro e w6 ⟨rfl, e6⟩
  replace hX0 := hX0.below e6 hX0.lt
  replace hL0 := hL0.below e6 hL0.lt
  replace bl0 := bnext bl0 e6
  clear e6

  have b0 := hL0.cell 0 (v := .int .i64 x.h) rfl; have b1 := hL0.cell 1 (v := .int .i64 x.z) rfl; have b2 := hL0.cell 2 (v := .int .i64 x.b) rfl; have b3 := hL0.cell 3 (v := .int .i64 x.r) rfl; have b4 := hL0.cell 4 (v := .int .i64 x.d) rfl; have b5 := hL0.cell 5 (v := .int .i64 x.e) rfl; have b6 := hL0.cell 6 (v := .int .i64 x.s) rfl; have b7 := hL0.cell 7 (v := .int .i64 x.p) rfl; have b8 := hL0.cell 8 (v := .int .i64 x.q) rfl; have b9 := hL0.cell 9 (v := .int .i64 x.t) rfl; have b10 := hL0.cell 10 (v := .slice (some B) n k) rfl
  go_wp2_with fail
  refine (HTot.out _).mono ?_
  rintro e w7 ⟨rfl, e6⟩
  clear b0 b1 b2 b3 b4 b5 b6 b7 b8 b9 b10
  replace hX0 := hX0.below e6 hX0.lt
  replace hL0 := hL0.below e6 hL0.lt
  replace bl0 := bnext bl0 e6
  clear e6
  have b0 := hL0.cell 0 (v := .int .i64 x.h) rfl; have b1 := hL0.cell 1 (v := .int .i64 x.z) rfl; have b2 := hL0.cell 2 (v := .int .i64 x.b) rfl; have b3 := hL0.cell 3 (v := .int .i64 x.r) rfl; have b4 := hL0.cell 4 (v := .int .i64 x.d) rfl; have b5 := hL0.cell 5 (v := .int .i64 x.e) rfl; have b6 := hL0.cell 6 (v := .int .i64 x.s) rfl; have b7 := hL0.cell 7 (v := .int .i64 x.p) rfl; have b8 := hL0.cell 8 (v := .int .i64 x.q) rfl; have b9 := hL0.cell 9 (v := .int .i64 x.t) rfl; have b10 := hL0.cell 10 (v := .slice (some B) n k) rfl
  go_wp2_with fail
  refine (HTot.out _).mono ?_
  rintro e w8 ⟨rfl, e6⟩
  clear b0 b1 b2 b3 b4 b5 b6 b7 b8 b9 b10
  replace hX0 := hX0.below e6 hX0.lt
  replace hL0 := hL0.below e6 hL0.lt
  replace bl0 := bnext bl0 e6
  clear e6
  have hmk := fun w => run_mkbools w T (by omega)
  go_wp2
  have hGM : G < w8.heap.size := hL0.lt
  have hWM : w.heap.size < w8.heap.size := hX0.lt
  have hS0 : St w (w8.alloc (.cells (madeCells #[.bool false] T) 4)) w.heap.size G w8.heap.size T #[.int .i64 x.h, .int .i64 x.z, .int .i64 x.b, .int .i64 x.r, .int .i64 x.d, .int .i64 x.e, .int .i64 x.s, .int .i64 x.p, .int .i64 x.q, .int .i64 x.t, .slice A n c] #[.int .i64 x.h, .int .i64 x.z, .int .i64 x.b, .int .i64 x.r, .int .i64 x.d, .int .i64 x.e, .int .i64 x.s, .int .i64 x.p, .int .i64 x.q, .int .i64 x.t, .slice (some B) n k] (inI 2 (2 + 0 * cellsC x 12)) := ⟨hX0.alloc _, hL0.alloc _, (MB.new w8 T).congr (fun j _ => by rw [inI_none (by omega)]), bl0.alloc bl0.size _⟩
  clear hX0 hL0 bl0 hmk t1 t2 HTot
  generalize w8.heap.size = M at *
  have rs := slotsC_range hB.out
  have rk := cellsC_range hB.out 12 (by omega)
  have rc0 := clogLenC_range hB.out
  have rd0 := deltaLenC_range hB.out
  have rf0 := fullLenC_range hB.out
  have rc := cellsC_range hB.out _ rc0.1
  have rd := cellsC_range hB.out _ rd0.1
  have rf := cellsC_range hB.out _ rf0.1
  have rl := leavesC_range' x.h hB.out.h.1 hB.out.h.2
  have hp := hB.out.p
  have hh := hB.out.h
  have E1 : clogsC x = 2 + slotsC x * cellsC x 12 := rfl
  have E2 : deltasC x = clogsC x + 2 * cellsC x (clogLenC x) := rfl
  have E3 : fullsC x = deltasC x + 2 * (x.p - 1) * cellsC x (deltaLenC x) := rfl
  have E4 : bucketsC x = fullsC x + 2 * cellsC x (fullLenC x) := rfl
  have E5 : (T : Int) = bucketsC x + 2 * (2 * leavesC x.h - 1) := by rw [← hT]; rfl
  have HS := Lib.hid (fun w => lay_slots x (some B) n k w hB.out)
  have HLog := Lib.hid (fun (j : Int) (w : World) (j0 : 0 ≤ j) (j1 : j < slotsC x) => by have h := lay_log x (some B) n k j w hB.out; rewrite [log_in j0 j1] at h; exact h)
  have HC0 := Lib.hid (fun w => by have h := lay_clog x (some B) n k 0 w hB.out (by omega) (by omega); rewrite [clog_zero] at h; exact h)
  have HC1 := Lib.hid (fun w => by have h := lay_clog x (some B) n k 1 w hB.out (by omega) (by omega); rewrite [clog_one] at h; exact h)
  have HF0 := Lib.hid (fun w => by have h := lay_full' x (some B) n k 0 w hB.out (by omega) (by omega); rewrite [full_zero] at h; exact h)
  have HF1 := Lib.hid (fun w => by have h := lay_full' x (some B) n k x.p w hB.out (by omega) (by omega); rewrite [full_one hB.out] at h; exact h)
  have HD := Lib.hid (fun (j : Int) (w : World) (j0 : 1 ≤ j) (j1 : j < 2 * x.p) (j2 : j ≠ x.p) => by have h := lay_delta x (some B) n k j w hB.out (by omega) (by omega); rewrite [delta_at hB.out j0 j1 j2] at h; exact h)
  have HB0 := Lib.hid (fun (j : Int) (w : World) (j0 : 0 ≤ j) (j1 : j < 2 * leavesC x.h - 1) => by have h := lay_bucket x (some B) n k j 0 w hB.out; rewrite [bucket_at j0 j1 (by omega) (by omega), Int.add_zero] at h; exact h)
  have HB1 := Lib.hid (fun (j : Int) (w : World) (j0 : 0 ≤ j) (j1 : j < 2 * leavesC x.h - 1) => by have h := lay_bucket x (some B) n k j 1 w hB.out; rewrite [bucket_at j0 j1 (by omega) (by omega)] at h; exact h)
  simp only at HLog HC0 HC1 HF0 HF1 HD
  have hSK : 0 ≤ slotsC x * cellsC x 12 := Int.mul_nonneg (by omega) (by omega)
  have hPD : 0 ≤ 2 * (x.p - 1) * cellsC x (deltaLenC x) := Int.mul_nonneg (by omega) (by omega)
  clear hT rc0 rd0 rf0
  generalize slotsC x = s at *
  generalize cellsC x 12 = kl at *
  generalize cellsC x (clogLenC x) = kc at *
  generalize cellsC x (deltaLenC x) = kd at *
  generalize cellsC x (fullLenC x) = kf at *
  generalize clogsC x = cl at *
  generalize deltasC x = de at *
  generalize fullsC x = fu at *
  generalize bucketsC x = bu at *
  generalize hlv : 2 * leavesC x.h - 1 = lv at *
  have hlv := Lib.hid hlv
  have EH := Lib.hid (And.intro E1 (And.intro E2 (And.intro E3 (And.intro E4 E5))))
  clear E1 E2 E3 E4 E5
  go_loopw [8] (fun i wr => ∃ (j : Int), 0 ≤ j ∧ j ≤ s ∧ i = .int .i64 j ∧ St w wr w.heap.size G M T #[.int .i64 x.h, .int .i64 x.z, .int .i64 x.b, .int .i64 x.r, .int .i64 x.d, .int .i64 x.e, .int .i64 x.s, .int .i64 x.p, .int .i64 x.q, .int .i64 x.t, .slice A n c] #[.int .i64 x.h, .int .i64 x.z, .int .i64 x.b, .int .i64 x.r, .int .i64 x.d, .int .i64 x.e, .int .i64 x.s, .int .i64 x.p, .int .i64 x.q, .int .i64 x.t, .slice (some B) n k] (inI 2 (2 + j * kl))) (fun i _ => (s + 1 - intOf i).toNat)
  case atStart => exact ⟨0, by omega, by omega, rfl, hS0⟩
  case round =>
    obtain ⟨j, j0, j1, rfl, hS⟩ := hrel
    clear hS0
    have a0 := hS.1.cell 0 (v := .int .i64 x.h) rfl; have a7 := hS.1.cell 7 (v := .int .i64 x.p) rfl
    have b0 := hS.2.1.cell 0 (v := .int .i64 x.h) rfl; have b1 := hS.2.1.cell 1 (v := .int .i64 x.z) rfl; have b2 := hS.2.1.cell 2 (v := .int .i64 x.b) rfl; have b3 := hS.2.1.cell 3 (v := .int .i64 x.r) rfl; have b4 := hS.2.1.cell 4 (v := .int .i64 x.d) rfl; have b5 := hS.2.1.cell 5 (v := .int .i64 x.e) rfl; have b6 := hS.2.1.cell 6 (v := .int .i64 x.s) rfl; have b7 := hS.2.1.cell 7 (v := .int .i64 x.p) rfl; have b8 := hS.2.1.cell 8 (v := .int .i64 x.q) rfl; have b9 := hS.2.1.cell 9 (v := .int .i64 x.t) rfl; have b10 := hS.2.1.cell 10 (v := .slice (some B) n k) rfl
    go_wp2_with fail
    refine (HS.out _).mono ?_
    rintro e w11 ⟨rfl, e1⟩
    replace hS := hS.below e1
    clear e1 a0 a7 b0 b1 b2 b3 b4 b5 b6 b7 b8 b9 b10
    have a0 := hS.1.cell 0 (v := .int .i64 x.h) rfl; have a7 := hS.1.cell 7 (v := .int .i64 x.p) rfl
    have b0 := hS.2.1.cell 0 (v := .int .i64 x.h) rfl; have b1 := hS.2.1.cell 1 (v := .int .i64 x.z) rfl; have b2 := hS.2.1.cell 2 (v := .int .i64 x.b) rfl; have b3 := hS.2.1.cell 3 (v := .int .i64 x.r) rfl; have b4 := hS.2.1.cell 4 (v := .int .i64 x.d) rfl; have b5 := hS.2.1.cell 5 (v := .int .i64 x.e) rfl; have b6 := hS.2.1.cell 6 (v := .int .i64 x.s) rfl; have b7 := hS.2.1.cell 7 (v := .int .i64 x.p) rfl; have b8 := hS.2.1.cell 8 (v := .int .i64 x.q) rfl; have b9 := hS.2.1.cell 9 (v := .int .i64 x.t) rfl; have b10 := hS.2.1.cell 10 (v := .slice (some B) n k) rfl
    have p0 : 0 ≤ j * kl := Int.mul_nonneg j0 (by omega)
    by_cases h1 : j < s
    · have p1 : (j + 1) * kl ≤ s * kl := Int.mul_le_mul_of_nonneg_right (by omega) (by omega)
      have pn : (j + 1) * kl = j * kl + kl := by rw [Int.add_mul, Int.one_mul]
      rw [pn] at p1
      go_wp2_with fail
      refine (HLog.out j _ j0 h1).mono ?_
      rintro e w12 ⟨rfl, e1⟩
      replace hS := hS.below e1
      clear e1 a0 a7 b0 b1 b2 b3 b4 b5 b6 b7 b8 b9 b10
      have a0 := hS.1.cell 0 (v := .int .i64 x.h) rfl; have a7 := hS.1.cell 7 (v := .int .i64 x.p) rfl
      have b0 := hS.2.1.cell 0 (v := .int .i64 x.h) rfl; have b1 := hS.2.1.cell 1 (v := .int .i64 x.z) rfl; have b2 := hS.2.1.cell 2 (v := .int .i64 x.b) rfl; have b3 := hS.2.1.cell 3 (v := .int .i64 x.r) rfl; have b4 := hS.2.1.cell 4 (v := .int .i64 x.d) rfl; have b5 := hS.2.1.cell 5 (v := .int .i64 x.e) rfl; have b6 := hS.2.1.cell 6 (v := .int .i64 x.s) rfl; have b7 := hS.2.1.cell 7 (v := .int .i64 x.p) rfl; have b8 := hS.2.1.cell 8 (v := .int .i64 x.q) rfl; have b9 := hS.2.1.cell 9 (v := .int .i64 x.t) rfl; have b10 := hS.2.1.cell 10 (v := .slice (some B) n k) rfl
      have hM := hS.2.2.1
      go_wp2_with fail
      refine (marks_ok M T (2 + j * kl) (kl) _ _ hM (by have := EH.out; omega) (by have := EH.out; omega) (by have := EH.out; omega) (by have := EH.out; omega) (fun j h1 h2 => inI_no (by have := EH.out; omega))).mono ?_
      rintro e w13 ⟨rfl, hmb, kk⟩
      replace hS := hS.marks kk (MB.ext hmb (by have := EH.out; omega) (by have := EH.out; omega)) hWM hGM
      clear hmb kk hM a0 a7 b0 b1 b2 b3 b4 b5 b6 b7 b8 b9 b10
      have a0 := hS.1.cell 0 (v := .int .i64 x.h) rfl; have a7 := hS.1.cell 7 (v := .int .i64 x.p) rfl
      have b0 := hS.2.1.cell 0 (v := .int .i64 x.h) rfl; have b1 := hS.2.1.cell 1 (v := .int .i64 x.z) rfl; have b2 := hS.2.1.cell 2 (v := .int .i64 x.b) rfl; have b3 := hS.2.1.cell 3 (v := .int .i64 x.r) rfl; have b4 := hS.2.1.cell 4 (v := .int .i64 x.d) rfl; have b5 := hS.2.1.cell 5 (v := .int .i64 x.e) rfl; have b6 := hS.2.1.cell 6 (v := .int .i64 x.s) rfl; have b7 := hS.2.1.cell 7 (v := .int .i64 x.p) rfl; have b8 := hS.2.1.cell 8 (v := .int .i64 x.q) rfl; have b9 := hS.2.1.cell 9 (v := .int .i64 x.t) rfl; have b10 := hS.2.1.cell 10 (v := .slice (some B) n k) rfl
      have hS := Lib.hid (hS.ren (Q := inI 2 (2 + (j + 1) * kl)) (fun j _ => by rewrite [pn, Int.add_assoc]; rfl))
      go_wp2
      go_roundw
      case rel => exact ⟨j + 1, by omega, by omega, rfl, hS.out⟩
      case measure => simp [intOf]; omega
    · have hj : j = s := by omega
      subst hj
      replace hS := hS.ren (Q := inI 2 cl) (fun j _ => by rw [EH.out.1])
      clear p0 HLog HS
      go_wp2_with fail
      refine (HC0.out _).mono ?_
      rintro e w14 ⟨rfl, e1⟩
      replace hS := hS.below e1
      clear e1 a0 a7 b0 b1 b2 b3 b4 b5 b6 b7 b8 b9 b10
      have a0 := hS.1.cell 0 (v := .int .i64 x.h) rfl; have a7 := hS.1.cell 7 (v := .int .i64 x.p) rfl
      have b0 := hS.2.1.cell 0 (v := .int .i64 x.h) rfl; have b1 := hS.2.1.cell 1 (v := .int .i64 x.z) rfl; have b2 := hS.2.1.cell 2 (v := .int .i64 x.b) rfl; have b3 := hS.2.1.cell 3 (v := .int .i64 x.r) rfl; have b4 := hS.2.1.cell 4 (v := .int .i64 x.d) rfl; have b5 := hS.2.1.cell 5 (v := .int .i64 x.e) rfl; have b6 := hS.2.1.cell 6 (v := .int .i64 x.s) rfl; have b7 := hS.2.1.cell 7 (v := .int .i64 x.p) rfl; have b8 := hS.2.1.cell 8 (v := .int .i64 x.q) rfl; have b9 := hS.2.1.cell 9 (v := .int .i64 x.t) rfl; have b10 := hS.2.1.cell 10 (v := .slice (some B) n k) rfl
      have hM := hS.2.2.1
      go_wp2_with fail
      refine (marks_ok M T (cl) (kc) _ _ hM (by have := EH.out; omega) (by have := EH.out; omega) (by have := EH.out; omega) (by have := EH.out; omega) (fun j h1 h2 => inI_no (by have := EH.out; omega))).mono ?_
      rintro e w15 ⟨rfl, hmb, kk⟩
      replace hS := hS.marks kk (MB.ext hmb (by have := EH.out; omega) (by have := EH.out; omega)) hWM hGM
      clear hmb kk hM a0 a7 b0 b1 b2 b3 b4 b5 b6 b7 b8 b9 b10
      have a0 := hS.1.cell 0 (v := .int .i64 x.h) rfl; have a7 := hS.1.cell 7 (v := .int .i64 x.p) rfl
      have b0 := hS.2.1.cell 0 (v := .int .i64 x.h) rfl; have b1 := hS.2.1.cell 1 (v := .int .i64 x.z) rfl; have b2 := hS.2.1.cell 2 (v := .int .i64 x.b) rfl; have b3 := hS.2.1.cell 3 (v := .int .i64 x.r) rfl; have b4 := hS.2.1.cell 4 (v := .int .i64 x.d) rfl; have b5 := hS.2.1.cell 5 (v := .int .i64 x.e) rfl; have b6 := hS.2.1.cell 6 (v := .int .i64 x.s) rfl; have b7 := hS.2.1.cell 7 (v := .int .i64 x.p) rfl; have b8 := hS.2.1.cell 8 (v := .int .i64 x.q) rfl; have b9 := hS.2.1.cell 9 (v := .int .i64 x.t) rfl; have b10 := hS.2.1.cell 10 (v := .slice (some B) n k) rfl
      go_wp2_with fail
      refine (HC1.out _).mono ?_
      rintro e w16 ⟨rfl, e1⟩
      replace hS := hS.below e1
      clear e1 a0 a7 b0 b1 b2 b3 b4 b5 b6 b7 b8 b9 b10
      have a0 := hS.1.cell 0 (v := .int .i64 x.h) rfl; have a7 := hS.1.cell 7 (v := .int .i64 x.p) rfl
      have b0 := hS.2.1.cell 0 (v := .int .i64 x.h) rfl; have b1 := hS.2.1.cell 1 (v := .int .i64 x.z) rfl; have b2 := hS.2.1.cell 2 (v := .int .i64 x.b) rfl; have b3 := hS.2.1.cell 3 (v := .int .i64 x.r) rfl; have b4 := hS.2.1.cell 4 (v := .int .i64 x.d) rfl; have b5 := hS.2.1.cell 5 (v := .int .i64 x.e) rfl; have b6 := hS.2.1.cell 6 (v := .int .i64 x.s) rfl; have b7 := hS.2.1.cell 7 (v := .int .i64 x.p) rfl; have b8 := hS.2.1.cell 8 (v := .int .i64 x.q) rfl; have b9 := hS.2.1.cell 9 (v := .int .i64 x.t) rfl; have b10 := hS.2.1.cell 10 (v := .slice (some B) n k) rfl
      have hM := hS.2.2.1
      go_wp2_with fail
      refine (marks_ok M T (cl + kc) (kc) _ _ hM (by have := EH.out; omega) (by have := EH.out; omega) (by have := EH.out; omega) (by have := EH.out; omega) (fun j h1 h2 => inI_no (by have := EH.out; omega))).mono ?_
      rintro e w17 ⟨rfl, hmb, kk⟩
      replace hS := hS.marks kk (MB.ext hmb (by have := EH.out; omega) (by have := EH.out; omega)) hWM hGM
      clear hmb kk hM a0 a7 b0 b1 b2 b3 b4 b5 b6 b7 b8 b9 b10
      have a0 := hS.1.cell 0 (v := .int .i64 x.h) rfl; have a7 := hS.1.cell 7 (v := .int .i64 x.p) rfl
      have b0 := hS.2.1.cell 0 (v := .int .i64 x.h) rfl; have b1 := hS.2.1.cell 1 (v := .int .i64 x.z) rfl; have b2 := hS.2.1.cell 2 (v := .int .i64 x.b) rfl; have b3 := hS.2.1.cell 3 (v := .int .i64 x.r) rfl; have b4 := hS.2.1.cell 4 (v := .int .i64 x.d) rfl; have b5 := hS.2.1.cell 5 (v := .int .i64 x.e) rfl; have b6 := hS.2.1.cell 6 (v := .int .i64 x.s) rfl; have b7 := hS.2.1.cell 7 (v := .int .i64 x.p) rfl; have b8 := hS.2.1.cell 8 (v := .int .i64 x.q) rfl; have b9 := hS.2.1.cell 9 (v := .int .i64 x.t) rfl; have b10 := hS.2.1.cell 10 (v := .slice (some B) n k) rfl
      replace hS := hS.ren (Q := inI 2 de) (fun j _ => by rw [EH.out.2.1, show cl + kc + kc = cl + 2 * kc by omega])
      go_wp2_with fail
      refine (HF0.out _).mono ?_
      rintro e w18 ⟨rfl, e1⟩
      replace hS := hS.below e1
      clear e1 a0 a7 b0 b1 b2 b3 b4 b5 b6 b7 b8 b9 b10
      have a0 := hS.1.cell 0 (v := .int .i64 x.h) rfl; have a7 := hS.1.cell 7 (v := .int .i64 x.p) rfl
      have b0 := hS.2.1.cell 0 (v := .int .i64 x.h) rfl; have b1 := hS.2.1.cell 1 (v := .int .i64 x.z) rfl; have b2 := hS.2.1.cell 2 (v := .int .i64 x.b) rfl; have b3 := hS.2.1.cell 3 (v := .int .i64 x.r) rfl; have b4 := hS.2.1.cell 4 (v := .int .i64 x.d) rfl; have b5 := hS.2.1.cell 5 (v := .int .i64 x.e) rfl; have b6 := hS.2.1.cell 6 (v := .int .i64 x.s) rfl; have b7 := hS.2.1.cell 7 (v := .int .i64 x.p) rfl; have b8 := hS.2.1.cell 8 (v := .int .i64 x.q) rfl; have b9 := hS.2.1.cell 9 (v := .int .i64 x.t) rfl; have b10 := hS.2.1.cell 10 (v := .slice (some B) n k) rfl
      have hM := hS.2.2.1
      go_wp2_with fail
      refine (marks_ok M T (fu) (kf) _ _ hM (by have := EH.out; omega) (by have := EH.out; omega) (by have := EH.out; omega) (by have := EH.out; omega) (fun j h1 h2 => inI_no (by have := EH.out; omega))).mono ?_
      rintro e w19 ⟨rfl, hmb, kk⟩
      replace hS := hS.marks kk (hmb) hWM hGM
      clear hmb kk hM a0 a7 b0 b1 b2 b3 b4 b5 b6 b7 b8 b9 b10
      have a0 := hS.1.cell 0 (v := .int .i64 x.h) rfl; have a7 := hS.1.cell 7 (v := .int .i64 x.p) rfl
      have b0 := hS.2.1.cell 0 (v := .int .i64 x.h) rfl; have b1 := hS.2.1.cell 1 (v := .int .i64 x.z) rfl; have b2 := hS.2.1.cell 2 (v := .int .i64 x.b) rfl; have b3 := hS.2.1.cell 3 (v := .int .i64 x.r) rfl; have b4 := hS.2.1.cell 4 (v := .int .i64 x.d) rfl; have b5 := hS.2.1.cell 5 (v := .int .i64 x.e) rfl; have b6 := hS.2.1.cell 6 (v := .int .i64 x.s) rfl; have b7 := hS.2.1.cell 7 (v := .int .i64 x.p) rfl; have b8 := hS.2.1.cell 8 (v := .int .i64 x.q) rfl; have b9 := hS.2.1.cell 9 (v := .int .i64 x.t) rfl; have b10 := hS.2.1.cell 10 (v := .slice (some B) n k) rfl
      go_wp2_with fail
      refine (HF1.out _).mono ?_
      rintro e w20 ⟨rfl, e1⟩
      replace hS := hS.below e1
      clear e1 a0 a7 b0 b1 b2 b3 b4 b5 b6 b7 b8 b9 b10
      have a0 := hS.1.cell 0 (v := .int .i64 x.h) rfl; have a7 := hS.1.cell 7 (v := .int .i64 x.p) rfl
      have b0 := hS.2.1.cell 0 (v := .int .i64 x.h) rfl; have b1 := hS.2.1.cell 1 (v := .int .i64 x.z) rfl; have b2 := hS.2.1.cell 2 (v := .int .i64 x.b) rfl; have b3 := hS.2.1.cell 3 (v := .int .i64 x.r) rfl; have b4 := hS.2.1.cell 4 (v := .int .i64 x.d) rfl; have b5 := hS.2.1.cell 5 (v := .int .i64 x.e) rfl; have b6 := hS.2.1.cell 6 (v := .int .i64 x.s) rfl; have b7 := hS.2.1.cell 7 (v := .int .i64 x.p) rfl; have b8 := hS.2.1.cell 8 (v := .int .i64 x.q) rfl; have b9 := hS.2.1.cell 9 (v := .int .i64 x.t) rfl; have b10 := hS.2.1.cell 10 (v := .slice (some B) n k) rfl
      have hM := hS.2.2.1
      go_wp2_with fail
      refine (marks_ok M T (fu + kf) (kf) _ _ hM (by have := EH.out; omega) (by have := EH.out; omega) (by have := EH.out; omega) (by have := EH.out; omega) (fun j h1 h2 => by rw [inI_no (by have := EH.out; omega), inI_no (by have := EH.out; omega)]; rfl)).mono ?_
      rintro e w21 ⟨rfl, hmb, kk⟩
      replace hS := hS.marks kk (MB.ext3 hmb (by have := EH.out; omega) (by have := EH.out; omega)) hWM hGM
      clear hmb kk hM a0 a7 b0 b1 b2 b3 b4 b5 b6 b7 b8 b9 b10
      have a0 := hS.1.cell 0 (v := .int .i64 x.h) rfl; have a7 := hS.1.cell 7 (v := .int .i64 x.p) rfl
      have b0 := hS.2.1.cell 0 (v := .int .i64 x.h) rfl; have b1 := hS.2.1.cell 1 (v := .int .i64 x.z) rfl; have b2 := hS.2.1.cell 2 (v := .int .i64 x.b) rfl; have b3 := hS.2.1.cell 3 (v := .int .i64 x.r) rfl; have b4 := hS.2.1.cell 4 (v := .int .i64 x.d) rfl; have b5 := hS.2.1.cell 5 (v := .int .i64 x.e) rfl; have b6 := hS.2.1.cell 6 (v := .int .i64 x.s) rfl; have b7 := hS.2.1.cell 7 (v := .int .i64 x.p) rfl; have b8 := hS.2.1.cell 8 (v := .int .i64 x.q) rfl; have b9 := hS.2.1.cell 9 (v := .int .i64 x.t) rfl; have b10 := hS.2.1.cell 10 (v := .slice (some B) n k) rfl
      replace hS := hS.ren (Q := fun j => inI 2 (de + dnoC x 1 * kd) j || inI fu bu j) (fun j _ => by rw [EH.out.2.2.2.1, show fu + kf + kf = fu + 2 * kf by omega, show dnoC x 1 = 0 by unfold dnoC; rw [if_pos (by omega)]; rfl, Int.zero_mul, Int.add_zero])
      have hS0 := hS
      have wp2 : IntKind.i64.wrap (2 * x.p) = 2 * x.p := IntWalk.i64_in _ (by omega)
      clear HC0 HC1 HF0 HF1
      go_wp2
      clear hS a0 a7 b0 b1 b2 b3 b4 b5 b6 b7 b8 b9 b10
      go_loopw [9] (fun i wr => ∃ (j : Int), 1 ≤ j ∧ j ≤ 2 * x.p ∧ i = .int .i64 j ∧ St w wr w.heap.size G M T #[.int .i64 x.h, .int .i64 x.z, .int .i64 x.b, .int .i64 x.r, .int .i64 x.d, .int .i64 x.e, .int .i64 x.s, .int .i64 x.p, .int .i64 x.q, .int .i64 x.t, .slice A n c] #[.int .i64 x.h, .int .i64 x.z, .int .i64 x.b, .int .i64 x.r, .int .i64 x.d, .int .i64 x.e, .int .i64 x.s, .int .i64 x.p, .int .i64 x.q, .int .i64 x.t, .slice (some B) n k] (fun y => inI 2 (de + dnoC x j * kd) y || inI fu bu y)) (fun i _ => (2 * x.p + 1 - intOf i).toNat)
      case atStart => exact ⟨1, by omega, by omega, rfl, hS0⟩
      case round =>
        obtain ⟨j, j0, j1, rfl, hS⟩ := hrel
        clear hS0
        have a0 := hS.1.cell 0 (v := .int .i64 x.h) rfl; have a7 := hS.1.cell 7 (v := .int .i64 x.p) rfl
        have b0 := hS.2.1.cell 0 (v := .int .i64 x.h) rfl; have b1 := hS.2.1.cell 1 (v := .int .i64 x.z) rfl; have b2 := hS.2.1.cell 2 (v := .int .i64 x.b) rfl; have b3 := hS.2.1.cell 3 (v := .int .i64 x.r) rfl; have b4 := hS.2.1.cell 4 (v := .int .i64 x.d) rfl; have b5 := hS.2.1.cell 5 (v := .int .i64 x.e) rfl; have b6 := hS.2.1.cell 6 (v := .int .i64 x.s) rfl; have b7 := hS.2.1.cell 7 (v := .int .i64 x.p) rfl; have b8 := hS.2.1.cell 8 (v := .int .i64 x.q) rfl; have b9 := hS.2.1.cell 9 (v := .int .i64 x.t) rfl; have b10 := hS.2.1.cell 10 (v := .slice (some B) n k) rfl
        by_cases h1 : j < 2 * x.p
        · by_cases h2 : j = x.p
          · subst h2
            have hS := Lib.hid (hS.ren (Q := fun y => inI 2 (de + dnoC x (x.p + 1) * kd) y || inI fu bu y) (fun j _ => by rewrite [dno_skip]; rfl))
            go_wp2
            go_roundw
            case rel => exact ⟨x.p + 1, by omega, by omega, rfl, hS.out⟩
            case measure => simp [intOf]; omega
          · have g2 : (j != x.p) = true := by rw [bne_iff_ne]; exact h2
            have dr := dno_range hB.out j0 h1 h2
            have p0 : 0 ≤ dnoC x j * kd := Int.mul_nonneg dr.1 (by omega)
            have p1 : (dnoC x j + 1) * kd ≤ 2 * (x.p - 1) * kd := Int.mul_le_mul_of_nonneg_right (by omega) (by omega)
            have pn := dno_next (x := x) h2
            have HD1 := Lib.hid (fun w => HD.out j w j0 h1 h2)
            rw [Int.add_mul, Int.one_mul] at p1
            have pn2 : dnoC x (j + 1) * kd = dnoC x j * kd + kd := by rw [pn, Int.add_mul, Int.one_mul]
            clear pn
            go_wp2_with fail
            refine (HD1.out _).mono ?_
            rintro e w22 ⟨rfl, e1⟩
            replace hS := hS.below e1
            clear e1 a0 a7 b0 b1 b2 b3 b4 b5 b6 b7 b8 b9 b10
            have a0 := hS.1.cell 0 (v := .int .i64 x.h) rfl; have a7 := hS.1.cell 7 (v := .int .i64 x.p) rfl
            have b0 := hS.2.1.cell 0 (v := .int .i64 x.h) rfl; have b1 := hS.2.1.cell 1 (v := .int .i64 x.z) rfl; have b2 := hS.2.1.cell 2 (v := .int .i64 x.b) rfl; have b3 := hS.2.1.cell 3 (v := .int .i64 x.r) rfl; have b4 := hS.2.1.cell 4 (v := .int .i64 x.d) rfl; have b5 := hS.2.1.cell 5 (v := .int .i64 x.e) rfl; have b6 := hS.2.1.cell 6 (v := .int .i64 x.s) rfl; have b7 := hS.2.1.cell 7 (v := .int .i64 x.p) rfl; have b8 := hS.2.1.cell 8 (v := .int .i64 x.q) rfl; have b9 := hS.2.1.cell 9 (v := .int .i64 x.t) rfl; have b10 := hS.2.1.cell 10 (v := .slice (some B) n k) rfl
            have hM := hS.2.2.1
            go_wp2_with fail
            refine (marks_ok M T (de + dnoC x j * kd) (kd) _ _ hM (by have := EH.out; omega) (by have := EH.out; omega) (by have := EH.out; omega) (by have := EH.out; omega) (fun j h1 h2 => by rw [inI_no (by have := EH.out; omega), inI_no (by have := EH.out; omega)]; rfl)).mono ?_
            rintro e w23 ⟨rfl, hmb, kk⟩
            replace hS := hS.marks kk (MB.ext2 hmb (by have := EH.out; omega) (by have := EH.out; omega)) hWM hGM
            clear hmb kk hM a0 a7 b0 b1 b2 b3 b4 b5 b6 b7 b8 b9 b10
            have a0 := hS.1.cell 0 (v := .int .i64 x.h) rfl; have a7 := hS.1.cell 7 (v := .int .i64 x.p) rfl
            have b0 := hS.2.1.cell 0 (v := .int .i64 x.h) rfl; have b1 := hS.2.1.cell 1 (v := .int .i64 x.z) rfl; have b2 := hS.2.1.cell 2 (v := .int .i64 x.b) rfl; have b3 := hS.2.1.cell 3 (v := .int .i64 x.r) rfl; have b4 := hS.2.1.cell 4 (v := .int .i64 x.d) rfl; have b5 := hS.2.1.cell 5 (v := .int .i64 x.e) rfl; have b6 := hS.2.1.cell 6 (v := .int .i64 x.s) rfl; have b7 := hS.2.1.cell 7 (v := .int .i64 x.p) rfl; have b8 := hS.2.1.cell 8 (v := .int .i64 x.q) rfl; have b9 := hS.2.1.cell 9 (v := .int .i64 x.t) rfl; have b10 := hS.2.1.cell 10 (v := .slice (some B) n k) rfl
            have hS := Lib.hid (hS.ren (Q := fun y => inI 2 (de + dnoC x (j + 1) * kd) y || inI fu bu y) (fun j _ => by rewrite [pn2, Int.add_assoc]; rfl))
            go_wp2
            go_roundw
            case rel => exact ⟨j + 1, by omega, by omega, rfl, hS.out⟩
            case measure => simp [intOf]; omega
        · have hj : j = 2 * x.p := by omega
          subst hj
          replace hS := hS.ren (Q := inI 2 (bu + 2 * 0)) (fun j _ => by rw [dno_all hB.out, ← EH.out.2.2.1, inI_more (by have := EH.out; omega) (by have := EH.out; omega), Int.mul_zero, Int.add_zero])
          have hS0 := hS
          have wh : IntKind.u64.wrap x.h = x.h := by rw [IntKind.wrap_u64]; omega
          have hsh : (2 : Int) * 2 ^ x.h.toNat = lv + 1 := by have := hlv.out; unfold leavesC at this; omega
          have lvr : 1 ≤ lv ∧ lv ≤ 127 := by have := hlv.out; omega
          have hs1 : IntKind.i64.wrap (2 * 2 ^ x.h.toNat) = lv + 1 := by rw [hsh]; exact IntWalk.i64_in _ (by omega)
          have hs2 : RowKit.wrap64 (2 * 2 ^ x.h.toNat) = lv + 1 := by rw [hsh]; exact IntWalk.wrap64_in _ (by omega)
          have hs3 : IntKind.i64.wrap lv = lv := IntWalk.i64_in _ (by omega)
          have hs4 : RowKit.wrap64 lv = lv := IntWalk.wrap64_in _ (by omega)
          clear hsh
          clear wp2 HD hS
          go_wp2
          clear a0 a7 b0 b1 b2 b3 b4 b5 b6 b7 b8 b9 b10
          go_loopw [10] (fun i wr => ∃ (j : Int), 0 ≤ j ∧ j ≤ lv ∧ i = .int .i64 j ∧ St w wr w.heap.size G M T #[.int .i64 x.h, .int .i64 x.z, .int .i64 x.b, .int .i64 x.r, .int .i64 x.d, .int .i64 x.e, .int .i64 x.s, .int .i64 x.p, .int .i64 x.q, .int .i64 x.t, .slice A n c] #[.int .i64 x.h, .int .i64 x.z, .int .i64 x.b, .int .i64 x.r, .int .i64 x.d, .int .i64 x.e, .int .i64 x.s, .int .i64 x.p, .int .i64 x.q, .int .i64 x.t, .slice (some B) n k] (inI 2 (bu + 2 * j))) (fun i _ => (lv + 1 - intOf i).toNat)
          case atStart => exact ⟨0, by omega, by omega, rfl, hS0⟩
          case round =>
            obtain ⟨j, j0, j1, rfl, hS⟩ := hrel
            clear hS0
            have a0 := hS.1.cell 0 (v := .int .i64 x.h) rfl; have a7 := hS.1.cell 7 (v := .int .i64 x.p) rfl
            have b0 := hS.2.1.cell 0 (v := .int .i64 x.h) rfl; have b1 := hS.2.1.cell 1 (v := .int .i64 x.z) rfl; have b2 := hS.2.1.cell 2 (v := .int .i64 x.b) rfl; have b3 := hS.2.1.cell 3 (v := .int .i64 x.r) rfl; have b4 := hS.2.1.cell 4 (v := .int .i64 x.d) rfl; have b5 := hS.2.1.cell 5 (v := .int .i64 x.e) rfl; have b6 := hS.2.1.cell 6 (v := .int .i64 x.s) rfl; have b7 := hS.2.1.cell 7 (v := .int .i64 x.p) rfl; have b8 := hS.2.1.cell 8 (v := .int .i64 x.q) rfl; have b9 := hS.2.1.cell 9 (v := .int .i64 x.t) rfl; have b10 := hS.2.1.cell 10 (v := .slice (some B) n k) rfl
            by_cases h1 : j < lv
            · have HBA := Lib.hid (fun w => HB0.out j w j0 h1)
              have HBB := Lib.hid (fun w => HB1.out j w j0 h1)
              go_wp2_with fail
              refine (HBA.out _).mono ?_
              rintro e w24 ⟨rfl, e1⟩
              replace hS := hS.below e1
              clear e1 a0 a7 b0 b1 b2 b3 b4 b5 b6 b7 b8 b9 b10
              have a0 := hS.1.cell 0 (v := .int .i64 x.h) rfl; have a7 := hS.1.cell 7 (v := .int .i64 x.p) rfl
              have b0 := hS.2.1.cell 0 (v := .int .i64 x.h) rfl; have b1 := hS.2.1.cell 1 (v := .int .i64 x.z) rfl; have b2 := hS.2.1.cell 2 (v := .int .i64 x.b) rfl; have b3 := hS.2.1.cell 3 (v := .int .i64 x.r) rfl; have b4 := hS.2.1.cell 4 (v := .int .i64 x.d) rfl; have b5 := hS.2.1.cell 5 (v := .int .i64 x.e) rfl; have b6 := hS.2.1.cell 6 (v := .int .i64 x.s) rfl; have b7 := hS.2.1.cell 7 (v := .int .i64 x.p) rfl; have b8 := hS.2.1.cell 8 (v := .int .i64 x.q) rfl; have b9 := hS.2.1.cell 9 (v := .int .i64 x.t) rfl; have b10 := hS.2.1.cell 10 (v := .slice (some B) n k) rfl
              have hM := hS.2.2.1
              go_wp2_with fail
              refine (marks_ok M T (bu + 2 * j) (1) _ _ hM (by have := EH.out; omega) (by have := EH.out; omega) (by have := EH.out; omega) (by have := EH.out; omega) (fun j h1 h2 => inI_no (by have := EH.out; omega))).mono ?_
              rintro e w25 ⟨rfl, hmb, kk⟩
              replace hS := hS.marks kk (MB.ext hmb (by have := EH.out; omega) (by have := EH.out; omega)) hWM hGM
              clear hmb kk hM a0 a7 b0 b1 b2 b3 b4 b5 b6 b7 b8 b9 b10
              have a0 := hS.1.cell 0 (v := .int .i64 x.h) rfl; have a7 := hS.1.cell 7 (v := .int .i64 x.p) rfl
              have b0 := hS.2.1.cell 0 (v := .int .i64 x.h) rfl; have b1 := hS.2.1.cell 1 (v := .int .i64 x.z) rfl; have b2 := hS.2.1.cell 2 (v := .int .i64 x.b) rfl; have b3 := hS.2.1.cell 3 (v := .int .i64 x.r) rfl; have b4 := hS.2.1.cell 4 (v := .int .i64 x.d) rfl; have b5 := hS.2.1.cell 5 (v := .int .i64 x.e) rfl; have b6 := hS.2.1.cell 6 (v := .int .i64 x.s) rfl; have b7 := hS.2.1.cell 7 (v := .int .i64 x.p) rfl; have b8 := hS.2.1.cell 8 (v := .int .i64 x.q) rfl; have b9 := hS.2.1.cell 9 (v := .int .i64 x.t) rfl; have b10 := hS.2.1.cell 10 (v := .slice (some B) n k) rfl
              go_wp2_with fail
              refine (HBB.out _).mono ?_
              rintro e w26 ⟨rfl, e1⟩
              replace hS := hS.below e1
              clear e1 a0 a7 b0 b1 b2 b3 b4 b5 b6 b7 b8 b9 b10
              have a0 := hS.1.cell 0 (v := .int .i64 x.h) rfl; have a7 := hS.1.cell 7 (v := .int .i64 x.p) rfl
              have b0 := hS.2.1.cell 0 (v := .int .i64 x.h) rfl; have b1 := hS.2.1.cell 1 (v := .int .i64 x.z) rfl; have b2 := hS.2.1.cell 2 (v := .int .i64 x.b) rfl; have b3 := hS.2.1.cell 3 (v := .int .i64 x.r) rfl; have b4 := hS.2.1.cell 4 (v := .int .i64 x.d) rfl; have b5 := hS.2.1.cell 5 (v := .int .i64 x.e) rfl; have b6 := hS.2.1.cell 6 (v := .int .i64 x.s) rfl; have b7 := hS.2.1.cell 7 (v := .int .i64 x.p) rfl; have b8 := hS.2.1.cell 8 (v := .int .i64 x.q) rfl; have b9 := hS.2.1.cell 9 (v := .int .i64 x.t) rfl; have b10 := hS.2.1.cell 10 (v := .slice (some B) n k) rfl
              have hM := hS.2.2.1
              go_wp2_with fail
              refine (marks_ok M T (bu + 2 * j + 1) (1) _ _ hM (by have := EH.out; omega) (by have := EH.out; omega) (by have := EH.out; omega) (by have := EH.out; omega) (fun j h1 h2 => inI_no (by have := EH.out; omega))).mono ?_
              rintro e w27 ⟨rfl, hmb, kk⟩
              replace hS := hS.marks kk (MB.ext hmb (by have := EH.out; omega) (by have := EH.out; omega)) hWM hGM
              clear hmb kk hM a0 a7 b0 b1 b2 b3 b4 b5 b6 b7 b8 b9 b10
              have a0 := hS.1.cell 0 (v := .int .i64 x.h) rfl; have a7 := hS.1.cell 7 (v := .int .i64 x.p) rfl
              have b0 := hS.2.1.cell 0 (v := .int .i64 x.h) rfl; have b1 := hS.2.1.cell 1 (v := .int .i64 x.z) rfl; have b2 := hS.2.1.cell 2 (v := .int .i64 x.b) rfl; have b3 := hS.2.1.cell 3 (v := .int .i64 x.r) rfl; have b4 := hS.2.1.cell 4 (v := .int .i64 x.d) rfl; have b5 := hS.2.1.cell 5 (v := .int .i64 x.e) rfl; have b6 := hS.2.1.cell 6 (v := .int .i64 x.s) rfl; have b7 := hS.2.1.cell 7 (v := .int .i64 x.p) rfl; have b8 := hS.2.1.cell 8 (v := .int .i64 x.q) rfl; have b9 := hS.2.1.cell 9 (v := .int .i64 x.t) rfl; have b10 := hS.2.1.cell 10 (v := .slice (some B) n k) rfl
              have hS := Lib.hid (hS.ren (Q := inI 2 (bu + 2 * (j + 1))) (fun y _ => by rewrite [show bu + 2 * j + 1 + 1 = bu + 2 * (j + 1) by omega]; rfl))
              go_wp2
              go_roundw
              case rel => exact ⟨j + 1, by omega, by omega, rfl, hS.out⟩
              case measure => simp [intOf]; omega
            · have hj : j = lv := by omega
              subst hj
              replace hS := hS.ren (Q := inI 2 T) (fun y _ => by rewrite [← EH.out.2.2.2.2]; rfl)
              have hS0 := hS
              clear hS HB0 HB1
              go_wp2
              clear a0 a7 b0 b1 b2 b3 b4 b5 b6 b7 b8 b9 b10 hs1 hs2 hs3 hs4 wh
              go_loopw [11] (fun i wr => ∃ (j : Nat), 2 ≤ j ∧ j ≤ T ∧ i = .int .i64 j ∧ St w wr w.heap.size G M T #[.int .i64 x.h, .int .i64 x.z, .int .i64 x.b, .int .i64 x.r, .int .i64 x.d, .int .i64 x.e, .int .i64 x.s, .int .i64 x.p, .int .i64 x.q, .int .i64 x.t, .slice A n c] #[.int .i64 x.h, .int .i64 x.z, .int .i64 x.b, .int .i64 x.r, .int .i64 x.d, .int .i64 x.e, .int .i64 x.s, .int .i64 x.p, .int .i64 x.q, .int .i64 x.t, .slice (some B) n k] (inI 2 T)) (fun i _ => T + 1 - (intOf i).toNat)
              case atStart => exact ⟨2, by omega, by omega, rfl, hS0⟩
              case round =>
                obtain ⟨j, j0, j1, rfl, hS⟩ := hrel
                clear hS0
                by_cases h1 : j < T
                · have hc := hS.2.2.1.cell h1
                  rw [inI_yes (by omega) (by omega)] at hc
                  have hS := Lib.hid hS
                  go_wp2
                  go_roundw
                  case rel => exact ⟨j + 1, by omega, by omega, by go_num, hS.out⟩
                  case measure => simp [intOf]; omega
                · have hj : T = j := by omega
                  subst hj
                  have bl := hS.2.2.2
                  by_cases q1 : q0 < 0
                  · clear hS
                    (go_wp2_with fail; refine (first_any _).mono ?_; rintro e w9 ⟨rfl, b9⟩; go_wp2; go_ret; exact ⟨rfl, bnext bl b9⟩)
                  by_cases q2 : 1099511627776 < q0
                  · clear hS
                    (go_wp2_with fail; refine (first_any _).mono ?_; rintro e w9 ⟨rfl, b9⟩; go_wp2; go_ret; exact ⟨rfl, bnext bl b9⟩)
                  clear bl
                  have HK1 := Lib.hid (fun w => lay_check x (some B) n k (q0 + 1) w hB.out (by omega) (by omega))
                  have cr1 := check_range hB.out (q0 + 1)
                  have HK := Lib.hid (fun (q : Int) (w : World) (qa : 0 ≤ q) (qb : q ≤ 4503599627370496) => lay_check x (some B) n k q w hB.out qa qb)
                  have HAp := Lib.hid (fun (j : Int) (j0 : 0 ≤ j) (j1 : j ≤ q0 % x.p) => check_apart hB.out (q := q0) (by omega) j0 j1)
                  have HCg := Lib.hid (fun w => lay_clog x (some B) n k q0 w hB.out (by omega) (by omega))
                  have HCg1 := Lib.hid (fun w => lay_clog x (some B) n k (q0 + 1) w hB.out (by omega) (by omega))
                  have HCg2 := Lib.hid (fun w => by have h := lay_clog x (some B) n k (q0 + 2) w hB.out (by omega) (by omega); rewrite [clog_two] at h; exact h)
                  have hne := clog_ne hB.out q0
                  have er : q0.tmod x.p = q0 % x.p := Int.tmod_eq_emod_of_nonneg (by omega)
                  have pn : ¬ x.p = 0 := by omega
                  have n0 := Int.emod_nonneg q0 (show x.p ≠ 0 by omega)
                  have n1 := Int.emod_lt_of_pos q0 (show 0 < x.p by omega)
                  have n2 : q0 % x.p ≤ q0 := by
                    have a := Int.mul_ediv_add_emod q0 x.p
                    have b : 0 ≤ x.p * (q0 / x.p) := Int.mul_nonneg (by omega) (Int.ediv_nonneg (by omega) (by omega))
                    omega
                  have wa : IntKind.i64.wrap (q0 + 1) = q0 + 1 := IntWalk.i64_in _ (by omega)
                  have wb : IntKind.i64.wrap (q0 + 2) = q0 + 2 := IntWalk.i64_in _ (by omega)
                  have wc : IntKind.i64.wrap (q0 - q0 % x.p) = q0 - q0 % x.p := IntWalk.i64_in _ (by omega)
                  generalize (checkC x (q0 + 1)).1 = u1 at *
                  generalize (checkC x (q0 + 1)).2 = v1' at *
                  generalize (clogC x (q0 + 1)).1 = g2 at *
                  generalize (clogC x (q0 + 1)).2 = h2 at *
                  generalize (clogC x q0).1 = g1 at *
                  generalize (clogC x q0).2 = h1' at *
                  have wd : IntKind.i64.wrap (u1 + v1') = u1 + v1' := IntWalk.i64_in _ (by omega)
                  have a0 := hS.1.cell 0 (v := .int .i64 x.h) rfl; have a7 := hS.1.cell 7 (v := .int .i64 x.p) rfl
                  have b0 := hS.2.1.cell 0 (v := .int .i64 x.h) rfl; have b1 := hS.2.1.cell 1 (v := .int .i64 x.z) rfl; have b2 := hS.2.1.cell 2 (v := .int .i64 x.b) rfl; have b3 := hS.2.1.cell 3 (v := .int .i64 x.r) rfl; have b4 := hS.2.1.cell 4 (v := .int .i64 x.d) rfl; have b5 := hS.2.1.cell 5 (v := .int .i64 x.e) rfl; have b6 := hS.2.1.cell 6 (v := .int .i64 x.s) rfl; have b7 := hS.2.1.cell 7 (v := .int .i64 x.p) rfl; have b8 := hS.2.1.cell 8 (v := .int .i64 x.q) rfl; have b9 := hS.2.1.cell 9 (v := .int .i64 x.t) rfl; have b10 := hS.2.1.cell 10 (v := .slice (some B) n k) rfl
                  go_wp2_with fail
                  refine (HK1.out _).mono ?_
                  rintro e w40 ⟨rfl, e1⟩
                  replace hS := hS.below e1
                  clear e1 HK1 a0 a7 b0 b1 b2 b3 b4 b5 b6 b7 b8 b9 b10
                  have a0 := hS.1.cell 0 (v := .int .i64 x.h) rfl; have a7 := hS.1.cell 7 (v := .int .i64 x.p) rfl
                  have b0 := hS.2.1.cell 0 (v := .int .i64 x.h) rfl; have b1 := hS.2.1.cell 1 (v := .int .i64 x.z) rfl; have b2 := hS.2.1.cell 2 (v := .int .i64 x.b) rfl; have b3 := hS.2.1.cell 3 (v := .int .i64 x.r) rfl; have b4 := hS.2.1.cell 4 (v := .int .i64 x.d) rfl; have b5 := hS.2.1.cell 5 (v := .int .i64 x.e) rfl; have b6 := hS.2.1.cell 6 (v := .int .i64 x.s) rfl; have b7 := hS.2.1.cell 7 (v := .int .i64 x.p) rfl; have b8 := hS.2.1.cell 8 (v := .int .i64 x.q) rfl; have b9 := hS.2.1.cell 9 (v := .int .i64 x.t) rfl; have b10 := hS.2.1.cell 10 (v := .slice (some B) n k) rfl
                  have hA0 := Blk.new w40 #[.int .i64 u1, .int .i64 v1'] 34
                  have hS0 := hS.alloc (.cells #[.int .i64 u1, .int .i64 v1'] 34)
                  have hXlt := hS.1.lt
                  go_wp2
                  clear hXlt
                  clear hS a0 a7 b0 b1 b2 b3 b4 b5 b6 b7 b8 b9 b10 er pn wc
                  generalize w40.alloc (.cells #[.int .i64 u1, .int .i64 v1'] 34) = W40 at *
                  generalize w40.heap.size = GA at *
                  go_loopw [13] (fun i wr => ∃ (j : Int), 0 ≤ j ∧ j ≤ q0 % x.p + 1 ∧ i = .int .i64 (q0 - q0 % x.p + j) ∧ Blk wr GA #[.int .i64 u1, .int .i64 v1'] 34 ∧ St w wr w.heap.size G M T #[.int .i64 x.h, .int .i64 x.z, .int .i64 x.b, .int .i64 x.r, .int .i64 x.d, .int .i64 x.e, .int .i64 x.s, .int .i64 x.p, .int .i64 x.q, .int .i64 x.t, .slice A n c] #[.int .i64 x.h, .int .i64 x.z, .int .i64 x.b, .int .i64 x.r, .int .i64 x.d, .int .i64 x.e, .int .i64 x.s, .int .i64 x.p, .int .i64 x.q, .int .i64 x.t, .slice (some B) n k] (inI 2 T)) (fun i _ => (q0 + 2 - intOf i).toNat)
                  case atStart => exact ⟨0, by omega, by omega, by rw [Int.add_zero], hA0, hS0⟩
                  case round =>
                    obtain ⟨j, j0, j1, rfl, hA, hS⟩ := hrel
                    clear hA0 hS0
                    by_cases h3 : j ≤ q0 % x.p
                    · have hap := HAp.out j j0 h3
                      have cr2 := check_range hB.out (q0 - q0 % x.p + j)
                      have HKq := Lib.hid (fun w => HK.out (q0 - q0 % x.p + j) w (by omega) (by omega))
                      have hle : (q0 - q0 % x.p + j ≤ q0) = True := by rw [eq_iff_iff]; exact ⟨fun _ => trivial, fun _ => by omega⟩
                      have wq : IntKind.i64.wrap (q0 - q0 % x.p + j + 1) = q0 - q0 % x.p + j + 1 := IntWalk.i64_in _ (by omega)
                      have wq2 := Lib.hid (show q0 - q0 % x.p + j + 1 = q0 - q0 % x.p + (j + 1) by omega)
                      have wq3 := Lib.hid (show (q0 + 2 - (q0 - q0 % x.p + j + 1)).toNat < (q0 + 2 - (q0 - q0 % x.p + j)).toNat by omega)
                      generalize hQ : q0 - q0 % x.p + j = Q at *
                      have hQ := Lib.hid hQ
                      generalize (checkC x Q).1 = u2 at *
                      generalize (checkC x Q).2 = v2' at *
                      have we : IntKind.i64.wrap (u2 + v2') = u2 + v2' := IntWalk.i64_in _ (by omega)
                      have a0 := hS.1.cell 0 (v := .int .i64 x.h) rfl; have a7 := hS.1.cell 7 (v := .int .i64 x.p) rfl
                      have b0 := hS.2.1.cell 0 (v := .int .i64 x.h) rfl; have b1 := hS.2.1.cell 1 (v := .int .i64 x.z) rfl; have b2 := hS.2.1.cell 2 (v := .int .i64 x.b) rfl; have b3 := hS.2.1.cell 3 (v := .int .i64 x.r) rfl; have b4 := hS.2.1.cell 4 (v := .int .i64 x.d) rfl; have b5 := hS.2.1.cell 5 (v := .int .i64 x.e) rfl; have b6 := hS.2.1.cell 6 (v := .int .i64 x.s) rfl; have b7 := hS.2.1.cell 7 (v := .int .i64 x.p) rfl; have b8 := hS.2.1.cell 8 (v := .int .i64 x.q) rfl; have b9 := hS.2.1.cell 9 (v := .int .i64 x.t) rfl; have b10 := hS.2.1.cell 10 (v := .slice (some B) n k) rfl
                      go_wp2_with fail
                      refine (HKq.out _).mono ?_
                      rintro e w41 ⟨rfl, e1⟩
                      replace hS := hS.below e1
                      replace hA := hA.below e1 hA.lt
                      clear e1 HKq a0 a7 b0 b1 b2 b3 b4 b5 b6 b7 b8 b9 b10
                      have hS' := Lib.hid (hS.alloc (.cells #[.int .i64 u2, .int .i64 v2'] 34))
                      have hA' := Lib.hid (hA.alloc (.cells #[.int .i64 u2, .int .i64 v2'] 34))
                      have x0 := hA.cell 0 (v := .int .i64 u1) rfl
                      have x1 := hA.cell 1 (v := .int .i64 v1') rfl
                      have xlt := hA.lt
                      clear hS hA
                      by_cases h4 : u1 + v1' ≤ u2
                      · have f1 : (u2 < u1 + v1') = False := by rw [eq_iff_iff]; exact ⟨fun _ => by omega, False.elim⟩
                        clear hap
                        go_wp2
                        go_roundw
                        case rel => exact ⟨j + 1, by omega, by omega, by rw [wq2.out], hA'.out, hS'.out⟩
                        case measure => simp only [intOf]; exact wq3.out
                      · have f1 : (u2 < u1 + v1') = True := by rw [eq_iff_iff]; exact ⟨fun _ => trivial, fun _ => by omega⟩
                        have f2 : (u1 < u2 + v2') = False := by rw [eq_iff_iff]; exact ⟨fun _ => by omega, False.elim⟩
                        clear hap
                        go_wp2
                        go_roundw
                        case rel => exact ⟨j + 1, by omega, by omega, by rw [wq2.out], hA'.out, hS'.out⟩
                        case measure => simp only [intOf]; exact wq3.out
                    · have hj : j = q0 % x.p + 1 := by omega
                      subst hj
                      have hle : (q0 - q0 % x.p + (q0 % x.p + 1) ≤ q0) = False := by rw [eq_iff_iff]; exact ⟨fun _ => by omega, False.elim⟩
                      generalize q0 - q0 % x.p + (q0 % x.p + 1) = Q at *
                      have first_anyH := Lib.hid (fun w => first_any w)
                      have keep := fun {w' w'' : World} (h : St w w' w.heap.size G M T #[.int .i64 x.h, .int .i64 x.z, .int .i64 x.b, .int .i64 x.r, .int .i64 x.d, .int .i64 x.e, .int .i64 x.s, .int .i64 x.p, .int .i64 x.q, .int .i64 x.t, .slice A n c] #[.int .i64 x.h, .int .i64 x.z, .int .i64 x.b, .int .i64 x.r, .int .i64 x.d, .int .i64 x.e, .int .i64 x.s, .int .i64 x.p, .int .i64 x.q, .int .i64 x.t, .slice (some B) n k] (inI 2 T)) (hb : Below w'.heap.size w' w'') => h.below hb
                      go_wp2_with fail
                      have hS0 := hS
                      clear hS hA
                      refine Free.wp_facts (M := [0, 1, 3, 3, 15, 3, 3, 67, 255, 511, 1023, 2047, 4095, 4095, 16383, 4095, 4095, 69631, 262143, 524287, 1048575, 2097151]) (D := [[], [(0, 180)], [(1, 181)], [(1, 181)], [(2, 182), (3, 183), (1, 181)], [(1, 181)], [(1, 181)], [(6, 186), (1, 181)], [(5, 185), (7, 187), (1, 181)], [(4, 184), (8, 188), (1, 181)], [(1, 181), (9, 189)], [(10, 190)], [(11, 191)], [(11, 191)], [(12, 192), (13, 193), (11, 191)], [(11, 191)], [(11, 191)], [(16, 196), (11, 191)], [(15, 195), (17, 197), (11, 191)], [(14, 194), (18, 198), (11, 191)], [(11, 191), (19, 199)], [(20, 200)]]) (outs := [21]) (soles := []) (E := [(0, 180, false), (1, 181, false), (2, 182, false), (3, 183, false), (4, 184, false), (5, 185, false), (6, 186, false), (7, 187, false), (8, 188, false), (9, 189, false), (10, 190, false), (11, 191, false), (12, 192, false), (13, 193, false), (14, 194, false), (15, 195, false), (16, 196, false), (17, 197, false), (18, 198, false), (19, 199, false), (20, 200, false), (21, 4, true)]) (N := 201) (S := (fun w' => St w w' w.heap.size G M T #[.int .i64 x.h, .int .i64 x.z, .int .i64 x.b, .int .i64 x.r, .int .i64 x.d, .int .i64 x.e, .int .i64 x.s, .int .i64 x.p, .int .i64 x.q, .int .i64 x.t, .slice A n c] #[.int .i64 x.h, .int .i64 x.z, .int .i64 x.b, .int .i64 x.r, .int .i64 x.d, .int .i64 x.e, .int .i64 x.s, .int .i64 x.p, .int .i64 x.q, .int .i64 x.t, .slice (some B) n k] (inI 2 T))) [Free.Fact.is ?_, Free.Fact.is ?_, Free.Fact.is ?_, Free.Fact.is ?_, Free.Fact.is ?_, Free.Fact.is ?_, Free.Fact.is ?_, Free.Fact.is ?_, Free.Fact.is ?_, Free.Fact.is ?_, Free.Fact.is ?_, Free.Fact.is ?_, Free.Fact.is ?_, Free.Fact.is ?_, Free.Fact.is ?_, Free.Fact.is ?_, Free.Fact.is ?_, Free.Fact.is ?_, Free.Fact.is ?_, Free.Fact.is ?_, Free.Fact.is ?_, Free.Fact.is ?_] (by kernel_rfl) (by kernel_rfl) rfl (hS0.drew) ?_ ?_
                      rotate_left 22
                      refine Free.cons ?_ ?_
                      · intro w' hS; intro K hK; (try simp only [Act.put, List.setIfInBounds_toArray, List.set_cons_zero, List.set_cons_succ]); have b0 := hS.2.1.cell 0 (v := .int .i64 x.h) rfl; have b1 := hS.2.1.cell 1 (v := .int .i64 x.z) rfl; have b2 := hS.2.1.cell 2 (v := .int .i64 x.b) rfl; have b3 := hS.2.1.cell 3 (v := .int .i64 x.r) rfl; have b4 := hS.2.1.cell 4 (v := .int .i64 x.d) rfl; have b5 := hS.2.1.cell 5 (v := .int .i64 x.e) rfl; have b6 := hS.2.1.cell 6 (v := .int .i64 x.s) rfl; have b7 := hS.2.1.cell 7 (v := .int .i64 x.p) rfl; have b8 := hS.2.1.cell 8 (v := .int .i64 x.q) rfl; have b9 := hS.2.1.cell 9 (v := .int .i64 x.t) rfl; have b10 := hS.2.1.cell 10 (v := .slice (some B) n k) rfl; first | (refine Free.run_yes (by rfl) ?_; go_simp; ((go_at_call 10; refine (first_anyH.out _).mono ?_; rintro e w' ⟨rfl, hb⟩)); simp only [Free.valOf, Act.put, List.setIfInBounds_toArray, List.set_cons_zero, List.set_cons_succ, Array.getD_eq_getD_getElem?, List.getElem?_toArray, List.getElem?_cons_succ, List.getElem?_cons_zero, Option.getD_some]; refine hK.out _ _ ?_ (keep hS hb) (.inr hb); exact rfl) | (refine Free.run_no (by rfl) ?_; refine hK.out _ _ ?_ hS (.inr (Below.refl _ _)); exact rfl)
                      refine Free.cons ?_ ?_
                      · intro w' hS; (rintro _ rfl); intro K hK; (try simp only [Act.put, List.setIfInBounds_toArray, List.set_cons_zero, List.set_cons_succ]); have b0 := hS.2.1.cell 0 (v := .int .i64 x.h) rfl; have b1 := hS.2.1.cell 1 (v := .int .i64 x.z) rfl; have b2 := hS.2.1.cell 2 (v := .int .i64 x.b) rfl; have b3 := hS.2.1.cell 3 (v := .int .i64 x.r) rfl; have b4 := hS.2.1.cell 4 (v := .int .i64 x.d) rfl; have b5 := hS.2.1.cell 5 (v := .int .i64 x.e) rfl; have b6 := hS.2.1.cell 6 (v := .int .i64 x.s) rfl; have b7 := hS.2.1.cell 7 (v := .int .i64 x.p) rfl; have b8 := hS.2.1.cell 8 (v := .int .i64 x.q) rfl; have b9 := hS.2.1.cell 9 (v := .int .i64 x.t) rfl; have b10 := hS.2.1.cell 10 (v := .slice (some B) n k) rfl; first | (refine Free.run_yes (by rfl) ?_; go_simp; simp only [Free.valOf, Act.put, List.setIfInBounds_toArray, List.set_cons_zero, List.set_cons_succ, Array.getD_eq_getD_getElem?, List.getElem?_toArray, List.getElem?_cons_succ, List.getElem?_cons_zero, Option.getD_some]; refine hK.out _ _ ?_ hS (.inr (Below.refl _ _)); first | exact rfl | assumption) | (refine Free.run_no (by rfl) ?_; refine hK.out _ _ ?_ hS (.inr (Below.refl _ _)); exact rfl)
                      refine Free.cons ?_ ?_
                      · intro w' hS; (rintro _ rfl); intro K hK; (try simp only [Act.put, List.setIfInBounds_toArray, List.set_cons_zero, List.set_cons_succ]); have b0 := hS.2.1.cell 0 (v := .int .i64 x.h) rfl; have b1 := hS.2.1.cell 1 (v := .int .i64 x.z) rfl; have b2 := hS.2.1.cell 2 (v := .int .i64 x.b) rfl; have b3 := hS.2.1.cell 3 (v := .int .i64 x.r) rfl; have b4 := hS.2.1.cell 4 (v := .int .i64 x.d) rfl; have b5 := hS.2.1.cell 5 (v := .int .i64 x.e) rfl; have b6 := hS.2.1.cell 6 (v := .int .i64 x.s) rfl; have b7 := hS.2.1.cell 7 (v := .int .i64 x.p) rfl; have b8 := hS.2.1.cell 8 (v := .int .i64 x.q) rfl; have b9 := hS.2.1.cell 9 (v := .int .i64 x.t) rfl; have b10 := hS.2.1.cell 10 (v := .slice (some B) n k) rfl; first | (refine Free.run_yes (by rfl) ?_; go_simp; simp only [Free.valOf, Act.put, List.setIfInBounds_toArray, List.set_cons_zero, List.set_cons_succ, Array.getD_eq_getD_getElem?, List.getElem?_toArray, List.getElem?_cons_succ, List.getElem?_cons_zero, Option.getD_some]; refine hK.out _ _ ?_ hS (.inr (Below.refl _ _)); first | exact rfl | assumption) | (refine Free.run_no (by rfl) ?_; refine hK.out _ _ ?_ hS (.inr (Below.refl _ _)); exact rfl)
                      refine Free.cons ?_ ?_
                      · intro w' hS; (rintro _ rfl); intro K hK; (try simp only [Act.put, List.setIfInBounds_toArray, List.set_cons_zero, List.set_cons_succ]); have b0 := hS.2.1.cell 0 (v := .int .i64 x.h) rfl; have b1 := hS.2.1.cell 1 (v := .int .i64 x.z) rfl; have b2 := hS.2.1.cell 2 (v := .int .i64 x.b) rfl; have b3 := hS.2.1.cell 3 (v := .int .i64 x.r) rfl; have b4 := hS.2.1.cell 4 (v := .int .i64 x.d) rfl; have b5 := hS.2.1.cell 5 (v := .int .i64 x.e) rfl; have b6 := hS.2.1.cell 6 (v := .int .i64 x.s) rfl; have b7 := hS.2.1.cell 7 (v := .int .i64 x.p) rfl; have b8 := hS.2.1.cell 8 (v := .int .i64 x.q) rfl; have b9 := hS.2.1.cell 9 (v := .int .i64 x.t) rfl; have b10 := hS.2.1.cell 10 (v := .slice (some B) n k) rfl; first | (refine Free.run_yes (by rfl) ?_; go_simp; simp only [Free.valOf, Act.put, List.setIfInBounds_toArray, List.set_cons_zero, List.set_cons_succ, Array.getD_eq_getD_getElem?, List.getElem?_toArray, List.getElem?_cons_succ, List.getElem?_cons_zero, Option.getD_some]; refine hK.out _ _ ?_ hS (.inr (Below.refl _ _)); first | exact rfl | assumption) | (refine Free.run_no (by rfl) ?_; refine hK.out _ _ ?_ hS (.inr (Below.refl _ _)); exact rfl)
                      refine Free.cons ?_ ?_
                      · intro w' hS; (rintro _ rfl); (rintro _ rfl); (rintro _ rfl); intro K hK; (try simp only [Act.put, List.setIfInBounds_toArray, List.set_cons_zero, List.set_cons_succ]); have b0 := hS.2.1.cell 0 (v := .int .i64 x.h) rfl; have b1 := hS.2.1.cell 1 (v := .int .i64 x.z) rfl; have b2 := hS.2.1.cell 2 (v := .int .i64 x.b) rfl; have b3 := hS.2.1.cell 3 (v := .int .i64 x.r) rfl; have b4 := hS.2.1.cell 4 (v := .int .i64 x.d) rfl; have b5 := hS.2.1.cell 5 (v := .int .i64 x.e) rfl; have b6 := hS.2.1.cell 6 (v := .int .i64 x.s) rfl; have b7 := hS.2.1.cell 7 (v := .int .i64 x.p) rfl; have b8 := hS.2.1.cell 8 (v := .int .i64 x.q) rfl; have b9 := hS.2.1.cell 9 (v := .int .i64 x.t) rfl; have b10 := hS.2.1.cell 10 (v := .slice (some B) n k) rfl; refine Free.run_yes (by rfl) ?_; (go_simp; go_at_call 24; refine (HCg.out _).mono ?_; rintro e w' ⟨rfl, hb⟩; simp only [Free.valOf, Act.put, List.setIfInBounds_toArray, List.set_cons_zero, List.set_cons_succ, Array.getD_eq_getD_getElem?, List.getElem?_toArray, List.getElem?_cons_succ, List.getElem?_cons_zero, Option.getD_some]; refine hK.out _ _ ?_ (keep hS hb) (.inr hb); exact rfl)
                      refine Free.cons ?_ ?_
                      · intro w' hS; (rintro _ rfl); intro K hK; (try simp only [Act.put, List.setIfInBounds_toArray, List.set_cons_zero, List.set_cons_succ]); have b0 := hS.2.1.cell 0 (v := .int .i64 x.h) rfl; have b1 := hS.2.1.cell 1 (v := .int .i64 x.z) rfl; have b2 := hS.2.1.cell 2 (v := .int .i64 x.b) rfl; have b3 := hS.2.1.cell 3 (v := .int .i64 x.r) rfl; have b4 := hS.2.1.cell 4 (v := .int .i64 x.d) rfl; have b5 := hS.2.1.cell 5 (v := .int .i64 x.e) rfl; have b6 := hS.2.1.cell 6 (v := .int .i64 x.s) rfl; have b7 := hS.2.1.cell 7 (v := .int .i64 x.p) rfl; have b8 := hS.2.1.cell 8 (v := .int .i64 x.q) rfl; have b9 := hS.2.1.cell 9 (v := .int .i64 x.t) rfl; have b10 := hS.2.1.cell 10 (v := .slice (some B) n k) rfl; first | (refine Free.run_yes (by rfl) ?_; go_simp; simp only [Free.valOf, Act.put, List.setIfInBounds_toArray, List.set_cons_zero, List.set_cons_succ, Array.getD_eq_getD_getElem?, List.getElem?_toArray, List.getElem?_cons_succ, List.getElem?_cons_zero, Option.getD_some]; refine hK.out _ _ ?_ hS (.inr (Below.refl _ _)); first | exact rfl | assumption) | (refine Free.run_no (by rfl) ?_; refine hK.out _ _ ?_ hS (.inr (Below.refl _ _)); exact rfl)
                      refine Free.cons ?_ ?_
                      · intro w' hS; (rintro _ rfl); intro K hK; (try simp only [Act.put, List.setIfInBounds_toArray, List.set_cons_zero, List.set_cons_succ]); have b0 := hS.2.1.cell 0 (v := .int .i64 x.h) rfl; have b1 := hS.2.1.cell 1 (v := .int .i64 x.z) rfl; have b2 := hS.2.1.cell 2 (v := .int .i64 x.b) rfl; have b3 := hS.2.1.cell 3 (v := .int .i64 x.r) rfl; have b4 := hS.2.1.cell 4 (v := .int .i64 x.d) rfl; have b5 := hS.2.1.cell 5 (v := .int .i64 x.e) rfl; have b6 := hS.2.1.cell 6 (v := .int .i64 x.s) rfl; have b7 := hS.2.1.cell 7 (v := .int .i64 x.p) rfl; have b8 := hS.2.1.cell 8 (v := .int .i64 x.q) rfl; have b9 := hS.2.1.cell 9 (v := .int .i64 x.t) rfl; have b10 := hS.2.1.cell 10 (v := .slice (some B) n k) rfl; first | (refine Free.run_yes (by rfl) ?_; go_simp; simp only [Free.valOf, Act.put, List.setIfInBounds_toArray, List.set_cons_zero, List.set_cons_succ, Array.getD_eq_getD_getElem?, List.getElem?_toArray, List.getElem?_cons_succ, List.getElem?_cons_zero, Option.getD_some]; refine hK.out _ _ ?_ hS (.inr (Below.refl _ _)); first | exact rfl | assumption) | (refine Free.run_no (by rfl) ?_; refine hK.out _ _ ?_ hS (.inr (Below.refl _ _)); exact rfl)
                      refine Free.cons ?_ ?_
                      · intro w' hS; (rintro _ rfl); (rintro _ rfl); intro K hK; (try simp only [Act.put, List.setIfInBounds_toArray, List.set_cons_zero, List.set_cons_succ]); have b0 := hS.2.1.cell 0 (v := .int .i64 x.h) rfl; have b1 := hS.2.1.cell 1 (v := .int .i64 x.z) rfl; have b2 := hS.2.1.cell 2 (v := .int .i64 x.b) rfl; have b3 := hS.2.1.cell 3 (v := .int .i64 x.r) rfl; have b4 := hS.2.1.cell 4 (v := .int .i64 x.d) rfl; have b5 := hS.2.1.cell 5 (v := .int .i64 x.e) rfl; have b6 := hS.2.1.cell 6 (v := .int .i64 x.s) rfl; have b7 := hS.2.1.cell 7 (v := .int .i64 x.p) rfl; have b8 := hS.2.1.cell 8 (v := .int .i64 x.q) rfl; have b9 := hS.2.1.cell 9 (v := .int .i64 x.t) rfl; have b10 := hS.2.1.cell 10 (v := .slice (some B) n k) rfl; first | (refine Free.run_yes (by rfl) ?_; go_simp; simp only [Free.valOf, Act.put, List.setIfInBounds_toArray, List.set_cons_zero, List.set_cons_succ, Array.getD_eq_getD_getElem?, List.getElem?_toArray, List.getElem?_cons_succ, List.getElem?_cons_zero, Option.getD_some]; refine hK.out _ _ ?_ hS (.inr (Below.refl _ _)); first | exact rfl | assumption) | (refine Free.run_no (by rfl) ?_; refine hK.out _ _ ?_ hS (.inr (Below.refl _ _)); exact rfl)
                      refine Free.cons ?_ ?_
                      · intro w' hS; (rintro _ rfl); (rintro _ rfl); (rintro _ rfl); intro K hK; (try simp only [Act.put, List.setIfInBounds_toArray, List.set_cons_zero, List.set_cons_succ]); have b0 := hS.2.1.cell 0 (v := .int .i64 x.h) rfl; have b1 := hS.2.1.cell 1 (v := .int .i64 x.z) rfl; have b2 := hS.2.1.cell 2 (v := .int .i64 x.b) rfl; have b3 := hS.2.1.cell 3 (v := .int .i64 x.r) rfl; have b4 := hS.2.1.cell 4 (v := .int .i64 x.d) rfl; have b5 := hS.2.1.cell 5 (v := .int .i64 x.e) rfl; have b6 := hS.2.1.cell 6 (v := .int .i64 x.s) rfl; have b7 := hS.2.1.cell 7 (v := .int .i64 x.p) rfl; have b8 := hS.2.1.cell 8 (v := .int .i64 x.q) rfl; have b9 := hS.2.1.cell 9 (v := .int .i64 x.t) rfl; have b10 := hS.2.1.cell 10 (v := .slice (some B) n k) rfl; refine Free.run_yes (by rfl) ?_; (go_simp; go_at_call 24; refine (HCg1.out _).mono ?_; rintro e w' ⟨rfl, hb⟩; simp only [Free.valOf, Act.put, List.setIfInBounds_toArray, List.set_cons_zero, List.set_cons_succ, Array.getD_eq_getD_getElem?, List.getElem?_toArray, List.getElem?_cons_succ, List.getElem?_cons_zero, Option.getD_some]; refine hK.out _ _ ?_ (keep hS hb) (.inr hb); exact rfl)
                      refine Free.cons ?_ ?_
                      · intro w' hS; (rintro _ rfl); (rintro _ rfl); (rintro _ rfl); intro K hK; (try simp only [Act.put, List.setIfInBounds_toArray, List.set_cons_zero, List.set_cons_succ]); have b0 := hS.2.1.cell 0 (v := .int .i64 x.h) rfl; have b1 := hS.2.1.cell 1 (v := .int .i64 x.z) rfl; have b2 := hS.2.1.cell 2 (v := .int .i64 x.b) rfl; have b3 := hS.2.1.cell 3 (v := .int .i64 x.r) rfl; have b4 := hS.2.1.cell 4 (v := .int .i64 x.d) rfl; have b5 := hS.2.1.cell 5 (v := .int .i64 x.e) rfl; have b6 := hS.2.1.cell 6 (v := .int .i64 x.s) rfl; have b7 := hS.2.1.cell 7 (v := .int .i64 x.p) rfl; have b8 := hS.2.1.cell 8 (v := .int .i64 x.q) rfl; have b9 := hS.2.1.cell 9 (v := .int .i64 x.t) rfl; have b10 := hS.2.1.cell 10 (v := .slice (some B) n k) rfl; first | (refine Free.run_yes (by rfl) ?_; go_simp; simp only [Free.valOf, Act.put, List.setIfInBounds_toArray, List.set_cons_zero, List.set_cons_succ, Array.getD_eq_getD_getElem?, List.getElem?_toArray, List.getElem?_cons_succ, List.getElem?_cons_zero, Option.getD_some]; refine hK.out _ _ ?_ hS (.inr (Below.refl _ _)); first | exact rfl | assumption) | (refine Free.run_no (by rfl) ?_; refine hK.out _ _ ?_ hS (.inr (Below.refl _ _)); exact rfl)
                      refine Free.cons ?_ ?_
                      · intro w' hS; (rintro _ rfl); (rintro _ rfl); intro K hK; (try simp only [Act.put, List.setIfInBounds_toArray, List.set_cons_zero, List.set_cons_succ]); have b0 := hS.2.1.cell 0 (v := .int .i64 x.h) rfl; have b1 := hS.2.1.cell 1 (v := .int .i64 x.z) rfl; have b2 := hS.2.1.cell 2 (v := .int .i64 x.b) rfl; have b3 := hS.2.1.cell 3 (v := .int .i64 x.r) rfl; have b4 := hS.2.1.cell 4 (v := .int .i64 x.d) rfl; have b5 := hS.2.1.cell 5 (v := .int .i64 x.e) rfl; have b6 := hS.2.1.cell 6 (v := .int .i64 x.s) rfl; have b7 := hS.2.1.cell 7 (v := .int .i64 x.p) rfl; have b8 := hS.2.1.cell 8 (v := .int .i64 x.q) rfl; have b9 := hS.2.1.cell 9 (v := .int .i64 x.t) rfl; have b10 := hS.2.1.cell 10 (v := .slice (some B) n k) rfl; first | (refine Free.run_yes (by rfl) ?_; go_simp; simp only [Free.valOf, Act.put, List.setIfInBounds_toArray, List.set_cons_zero, List.set_cons_succ, Array.getD_eq_getD_getElem?, List.getElem?_toArray, List.getElem?_cons_succ, List.getElem?_cons_zero, Option.getD_some]; refine hK.out _ _ ?_ hS (.inr (Below.refl _ _)); first | exact rfl | assumption) | (refine Free.run_no (by rfl) ?_; refine hK.out _ _ ?_ hS (.inr (Below.refl _ _)); exact rfl)
                      refine Free.cons ?_ ?_
                      · intro w' hS; (rintro _ rfl); intro K hK; (try simp only [Act.put, List.setIfInBounds_toArray, List.set_cons_zero, List.set_cons_succ]); have b0 := hS.2.1.cell 0 (v := .int .i64 x.h) rfl; have b1 := hS.2.1.cell 1 (v := .int .i64 x.z) rfl; have b2 := hS.2.1.cell 2 (v := .int .i64 x.b) rfl; have b3 := hS.2.1.cell 3 (v := .int .i64 x.r) rfl; have b4 := hS.2.1.cell 4 (v := .int .i64 x.d) rfl; have b5 := hS.2.1.cell 5 (v := .int .i64 x.e) rfl; have b6 := hS.2.1.cell 6 (v := .int .i64 x.s) rfl; have b7 := hS.2.1.cell 7 (v := .int .i64 x.p) rfl; have b8 := hS.2.1.cell 8 (v := .int .i64 x.q) rfl; have b9 := hS.2.1.cell 9 (v := .int .i64 x.t) rfl; have b10 := hS.2.1.cell 10 (v := .slice (some B) n k) rfl; first | (refine Free.run_yes (by rfl) ?_; go_simp; simp only [Free.valOf, Act.put, List.setIfInBounds_toArray, List.set_cons_zero, List.set_cons_succ, Array.getD_eq_getD_getElem?, List.getElem?_toArray, List.getElem?_cons_succ, List.getElem?_cons_zero, Option.getD_some]; refine hK.out _ _ ?_ hS (.inr (Below.refl _ _)); first | exact rfl | assumption) | (refine Free.run_no (by rfl) ?_; refine hK.out _ _ ?_ hS (.inr (Below.refl _ _)); exact rfl)
                      refine Free.cons ?_ ?_
                      · intro w' hS; (rintro _ rfl); intro K hK; (try simp only [Act.put, List.setIfInBounds_toArray, List.set_cons_zero, List.set_cons_succ]); have b0 := hS.2.1.cell 0 (v := .int .i64 x.h) rfl; have b1 := hS.2.1.cell 1 (v := .int .i64 x.z) rfl; have b2 := hS.2.1.cell 2 (v := .int .i64 x.b) rfl; have b3 := hS.2.1.cell 3 (v := .int .i64 x.r) rfl; have b4 := hS.2.1.cell 4 (v := .int .i64 x.d) rfl; have b5 := hS.2.1.cell 5 (v := .int .i64 x.e) rfl; have b6 := hS.2.1.cell 6 (v := .int .i64 x.s) rfl; have b7 := hS.2.1.cell 7 (v := .int .i64 x.p) rfl; have b8 := hS.2.1.cell 8 (v := .int .i64 x.q) rfl; have b9 := hS.2.1.cell 9 (v := .int .i64 x.t) rfl; have b10 := hS.2.1.cell 10 (v := .slice (some B) n k) rfl; first | (refine Free.run_yes (by rfl) ?_; go_simp; simp only [Free.valOf, Act.put, List.setIfInBounds_toArray, List.set_cons_zero, List.set_cons_succ, Array.getD_eq_getD_getElem?, List.getElem?_toArray, List.getElem?_cons_succ, List.getElem?_cons_zero, Option.getD_some]; refine hK.out _ _ ?_ hS (.inr (Below.refl _ _)); first | exact rfl | assumption) | (refine Free.run_no (by rfl) ?_; refine hK.out _ _ ?_ hS (.inr (Below.refl _ _)); exact rfl)
                      refine Free.cons ?_ ?_
                      · intro w' hS; (rintro _ rfl); intro K hK; (try simp only [Act.put, List.setIfInBounds_toArray, List.set_cons_zero, List.set_cons_succ]); have b0 := hS.2.1.cell 0 (v := .int .i64 x.h) rfl; have b1 := hS.2.1.cell 1 (v := .int .i64 x.z) rfl; have b2 := hS.2.1.cell 2 (v := .int .i64 x.b) rfl; have b3 := hS.2.1.cell 3 (v := .int .i64 x.r) rfl; have b4 := hS.2.1.cell 4 (v := .int .i64 x.d) rfl; have b5 := hS.2.1.cell 5 (v := .int .i64 x.e) rfl; have b6 := hS.2.1.cell 6 (v := .int .i64 x.s) rfl; have b7 := hS.2.1.cell 7 (v := .int .i64 x.p) rfl; have b8 := hS.2.1.cell 8 (v := .int .i64 x.q) rfl; have b9 := hS.2.1.cell 9 (v := .int .i64 x.t) rfl; have b10 := hS.2.1.cell 10 (v := .slice (some B) n k) rfl; first | (refine Free.run_yes (by rfl) ?_; go_simp; simp only [Free.valOf, Act.put, List.setIfInBounds_toArray, List.set_cons_zero, List.set_cons_succ, Array.getD_eq_getD_getElem?, List.getElem?_toArray, List.getElem?_cons_succ, List.getElem?_cons_zero, Option.getD_some]; refine hK.out _ _ ?_ hS (.inr (Below.refl _ _)); first | exact rfl | assumption) | (refine Free.run_no (by rfl) ?_; refine hK.out _ _ ?_ hS (.inr (Below.refl _ _)); exact rfl)
                      refine Free.cons ?_ ?_
                      · intro w' hS; (rintro _ rfl); (rintro _ rfl); (rintro _ rfl); intro K hK; (try simp only [Act.put, List.setIfInBounds_toArray, List.set_cons_zero, List.set_cons_succ]); have b0 := hS.2.1.cell 0 (v := .int .i64 x.h) rfl; have b1 := hS.2.1.cell 1 (v := .int .i64 x.z) rfl; have b2 := hS.2.1.cell 2 (v := .int .i64 x.b) rfl; have b3 := hS.2.1.cell 3 (v := .int .i64 x.r) rfl; have b4 := hS.2.1.cell 4 (v := .int .i64 x.d) rfl; have b5 := hS.2.1.cell 5 (v := .int .i64 x.e) rfl; have b6 := hS.2.1.cell 6 (v := .int .i64 x.s) rfl; have b7 := hS.2.1.cell 7 (v := .int .i64 x.p) rfl; have b8 := hS.2.1.cell 8 (v := .int .i64 x.q) rfl; have b9 := hS.2.1.cell 9 (v := .int .i64 x.t) rfl; have b10 := hS.2.1.cell 10 (v := .slice (some B) n k) rfl; refine Free.run_yes (by rfl) ?_; (go_simp; go_at_call 24; refine (HCg.out _).mono ?_; rintro e w' ⟨rfl, hb⟩; simp only [Free.valOf, Act.put, List.setIfInBounds_toArray, List.set_cons_zero, List.set_cons_succ, Array.getD_eq_getD_getElem?, List.getElem?_toArray, List.getElem?_cons_succ, List.getElem?_cons_zero, Option.getD_some]; refine hK.out _ _ ?_ (keep hS hb) (.inr hb); exact rfl)
                      refine Free.cons ?_ ?_
                      · intro w' hS; (rintro _ rfl); intro K hK; (try simp only [Act.put, List.setIfInBounds_toArray, List.set_cons_zero, List.set_cons_succ]); have b0 := hS.2.1.cell 0 (v := .int .i64 x.h) rfl; have b1 := hS.2.1.cell 1 (v := .int .i64 x.z) rfl; have b2 := hS.2.1.cell 2 (v := .int .i64 x.b) rfl; have b3 := hS.2.1.cell 3 (v := .int .i64 x.r) rfl; have b4 := hS.2.1.cell 4 (v := .int .i64 x.d) rfl; have b5 := hS.2.1.cell 5 (v := .int .i64 x.e) rfl; have b6 := hS.2.1.cell 6 (v := .int .i64 x.s) rfl; have b7 := hS.2.1.cell 7 (v := .int .i64 x.p) rfl; have b8 := hS.2.1.cell 8 (v := .int .i64 x.q) rfl; have b9 := hS.2.1.cell 9 (v := .int .i64 x.t) rfl; have b10 := hS.2.1.cell 10 (v := .slice (some B) n k) rfl; first | (refine Free.run_yes (by rfl) ?_; go_simp; simp only [Free.valOf, Act.put, List.setIfInBounds_toArray, List.set_cons_zero, List.set_cons_succ, Array.getD_eq_getD_getElem?, List.getElem?_toArray, List.getElem?_cons_succ, List.getElem?_cons_zero, Option.getD_some]; refine hK.out _ _ ?_ hS (.inr (Below.refl _ _)); first | exact rfl | assumption) | (refine Free.run_no (by rfl) ?_; refine hK.out _ _ ?_ hS (.inr (Below.refl _ _)); exact rfl)
                      refine Free.cons ?_ ?_
                      · intro w' hS; (rintro _ rfl); intro K hK; (try simp only [Act.put, List.setIfInBounds_toArray, List.set_cons_zero, List.set_cons_succ]); have b0 := hS.2.1.cell 0 (v := .int .i64 x.h) rfl; have b1 := hS.2.1.cell 1 (v := .int .i64 x.z) rfl; have b2 := hS.2.1.cell 2 (v := .int .i64 x.b) rfl; have b3 := hS.2.1.cell 3 (v := .int .i64 x.r) rfl; have b4 := hS.2.1.cell 4 (v := .int .i64 x.d) rfl; have b5 := hS.2.1.cell 5 (v := .int .i64 x.e) rfl; have b6 := hS.2.1.cell 6 (v := .int .i64 x.s) rfl; have b7 := hS.2.1.cell 7 (v := .int .i64 x.p) rfl; have b8 := hS.2.1.cell 8 (v := .int .i64 x.q) rfl; have b9 := hS.2.1.cell 9 (v := .int .i64 x.t) rfl; have b10 := hS.2.1.cell 10 (v := .slice (some B) n k) rfl; first | (refine Free.run_yes (by rfl) ?_; go_simp; simp only [Free.valOf, Act.put, List.setIfInBounds_toArray, List.set_cons_zero, List.set_cons_succ, Array.getD_eq_getD_getElem?, List.getElem?_toArray, List.getElem?_cons_succ, List.getElem?_cons_zero, Option.getD_some]; refine hK.out _ _ ?_ hS (.inr (Below.refl _ _)); first | exact rfl | assumption) | (refine Free.run_no (by rfl) ?_; refine hK.out _ _ ?_ hS (.inr (Below.refl _ _)); exact rfl)
                      refine Free.cons ?_ ?_
                      · intro w' hS; (rintro _ rfl); (rintro _ rfl); intro K hK; (try simp only [Act.put, List.setIfInBounds_toArray, List.set_cons_zero, List.set_cons_succ]); have b0 := hS.2.1.cell 0 (v := .int .i64 x.h) rfl; have b1 := hS.2.1.cell 1 (v := .int .i64 x.z) rfl; have b2 := hS.2.1.cell 2 (v := .int .i64 x.b) rfl; have b3 := hS.2.1.cell 3 (v := .int .i64 x.r) rfl; have b4 := hS.2.1.cell 4 (v := .int .i64 x.d) rfl; have b5 := hS.2.1.cell 5 (v := .int .i64 x.e) rfl; have b6 := hS.2.1.cell 6 (v := .int .i64 x.s) rfl; have b7 := hS.2.1.cell 7 (v := .int .i64 x.p) rfl; have b8 := hS.2.1.cell 8 (v := .int .i64 x.q) rfl; have b9 := hS.2.1.cell 9 (v := .int .i64 x.t) rfl; have b10 := hS.2.1.cell 10 (v := .slice (some B) n k) rfl; first | (refine Free.run_yes (by rfl) ?_; go_simp; simp only [Free.valOf, Act.put, List.setIfInBounds_toArray, List.set_cons_zero, List.set_cons_succ, Array.getD_eq_getD_getElem?, List.getElem?_toArray, List.getElem?_cons_succ, List.getElem?_cons_zero, Option.getD_some]; refine hK.out _ _ ?_ hS (.inr (Below.refl _ _)); first | exact rfl | assumption) | (refine Free.run_no (by rfl) ?_; refine hK.out _ _ ?_ hS (.inr (Below.refl _ _)); exact rfl)
                      refine Free.cons ?_ ?_
                      · intro w' hS; (rintro _ rfl); (rintro _ rfl); (rintro _ rfl); intro K hK; (try simp only [Act.put, List.setIfInBounds_toArray, List.set_cons_zero, List.set_cons_succ]); have b0 := hS.2.1.cell 0 (v := .int .i64 x.h) rfl; have b1 := hS.2.1.cell 1 (v := .int .i64 x.z) rfl; have b2 := hS.2.1.cell 2 (v := .int .i64 x.b) rfl; have b3 := hS.2.1.cell 3 (v := .int .i64 x.r) rfl; have b4 := hS.2.1.cell 4 (v := .int .i64 x.d) rfl; have b5 := hS.2.1.cell 5 (v := .int .i64 x.e) rfl; have b6 := hS.2.1.cell 6 (v := .int .i64 x.s) rfl; have b7 := hS.2.1.cell 7 (v := .int .i64 x.p) rfl; have b8 := hS.2.1.cell 8 (v := .int .i64 x.q) rfl; have b9 := hS.2.1.cell 9 (v := .int .i64 x.t) rfl; have b10 := hS.2.1.cell 10 (v := .slice (some B) n k) rfl; refine Free.run_yes (by rfl) ?_; (go_simp; go_at_call 24; refine (HCg2.out _).mono ?_; rintro e w' ⟨rfl, hb⟩; simp only [Free.valOf, Act.put, List.setIfInBounds_toArray, List.set_cons_zero, List.set_cons_succ, Array.getD_eq_getD_getElem?, List.getElem?_toArray, List.getElem?_cons_succ, List.getElem?_cons_zero, Option.getD_some]; refine hK.out _ _ ?_ (keep hS hb) (.inr hb); exact rfl)
                      refine Free.cons ?_ ?_
                      · intro w' hS; (rintro _ rfl); (rintro _ rfl); (rintro _ rfl); intro K hK; (try simp only [Act.put, List.setIfInBounds_toArray, List.set_cons_zero, List.set_cons_succ]); have b0 := hS.2.1.cell 0 (v := .int .i64 x.h) rfl; have b1 := hS.2.1.cell 1 (v := .int .i64 x.z) rfl; have b2 := hS.2.1.cell 2 (v := .int .i64 x.b) rfl; have b3 := hS.2.1.cell 3 (v := .int .i64 x.r) rfl; have b4 := hS.2.1.cell 4 (v := .int .i64 x.d) rfl; have b5 := hS.2.1.cell 5 (v := .int .i64 x.e) rfl; have b6 := hS.2.1.cell 6 (v := .int .i64 x.s) rfl; have b7 := hS.2.1.cell 7 (v := .int .i64 x.p) rfl; have b8 := hS.2.1.cell 8 (v := .int .i64 x.q) rfl; have b9 := hS.2.1.cell 9 (v := .int .i64 x.t) rfl; have b10 := hS.2.1.cell 10 (v := .slice (some B) n k) rfl; first | (refine Free.run_yes (by rfl) ?_; go_simp; simp only [Free.valOf, Act.put, List.setIfInBounds_toArray, List.set_cons_zero, List.set_cons_succ, Array.getD_eq_getD_getElem?, List.getElem?_toArray, List.getElem?_cons_succ, List.getElem?_cons_zero, Option.getD_some]; refine hK.out _ _ ?_ hS (.inr (Below.refl _ _)); first | exact rfl | assumption) | (refine Free.run_no (by rfl) ?_; refine hK.out _ _ ?_ hS (.inr (Below.refl _ _)); exact rfl)
                      refine Free.cons ?_ ?_
                      · intro w' hS; (rintro _ rfl); (rintro _ rfl); intro K hK; (try simp only [Act.put, List.setIfInBounds_toArray, List.set_cons_zero, List.set_cons_succ]); have b0 := hS.2.1.cell 0 (v := .int .i64 x.h) rfl; have b1 := hS.2.1.cell 1 (v := .int .i64 x.z) rfl; have b2 := hS.2.1.cell 2 (v := .int .i64 x.b) rfl; have b3 := hS.2.1.cell 3 (v := .int .i64 x.r) rfl; have b4 := hS.2.1.cell 4 (v := .int .i64 x.d) rfl; have b5 := hS.2.1.cell 5 (v := .int .i64 x.e) rfl; have b6 := hS.2.1.cell 6 (v := .int .i64 x.s) rfl; have b7 := hS.2.1.cell 7 (v := .int .i64 x.p) rfl; have b8 := hS.2.1.cell 8 (v := .int .i64 x.q) rfl; have b9 := hS.2.1.cell 9 (v := .int .i64 x.t) rfl; have b10 := hS.2.1.cell 10 (v := .slice (some B) n k) rfl; first | (refine Free.run_yes (by rfl) ?_; go_simp; simp only [Free.valOf, Act.put, List.setIfInBounds_toArray, List.set_cons_zero, List.set_cons_succ, Array.getD_eq_getD_getElem?, List.getElem?_toArray, List.getElem?_cons_succ, List.getElem?_cons_zero, Option.getD_some]; refine hK.out _ _ ?_ hS (.inr (Below.refl _ _)); first | exact rfl | assumption) | (refine Free.run_no (by rfl) ?_; refine hK.out _ _ ?_ hS (.inr (Below.refl _ _)); exact rfl)
                      refine Free.cons ?_ ?_
                      · intro w' hS; (rintro _ rfl); intro K hK; (try simp only [Act.put, List.setIfInBounds_toArray, List.set_cons_zero, List.set_cons_succ]); have b0 := hS.2.1.cell 0 (v := .int .i64 x.h) rfl; have b1 := hS.2.1.cell 1 (v := .int .i64 x.z) rfl; have b2 := hS.2.1.cell 2 (v := .int .i64 x.b) rfl; have b3 := hS.2.1.cell 3 (v := .int .i64 x.r) rfl; have b4 := hS.2.1.cell 4 (v := .int .i64 x.d) rfl; have b5 := hS.2.1.cell 5 (v := .int .i64 x.e) rfl; have b6 := hS.2.1.cell 6 (v := .int .i64 x.s) rfl; have b7 := hS.2.1.cell 7 (v := .int .i64 x.p) rfl; have b8 := hS.2.1.cell 8 (v := .int .i64 x.q) rfl; have b9 := hS.2.1.cell 9 (v := .int .i64 x.t) rfl; have b10 := hS.2.1.cell 10 (v := .slice (some B) n k) rfl; first | (refine Free.run_yes (by rfl) ?_; go_simp; simp only [Free.valOf, Act.put, List.setIfInBounds_toArray, List.set_cons_zero, List.set_cons_succ, Array.getD_eq_getD_getElem?, List.getElem?_toArray, List.getElem?_cons_succ, List.getElem?_cons_zero, Option.getD_some]; refine hK.out _ _ ?_ hS (.inr (Below.refl _ _)); first | exact rfl | assumption) | (refine Free.run_no (by rfl) ?_; refine hK.out _ _ ?_ hS (.inr (Below.refl _ _)); exact rfl)
                      exact Free.nil
                      intro w' hS; intro v0; intro v1; intro v2; intro v3; intro v4; intro v5; intro v6; intro v7; intro v8; intro v9; intro v10; intro v11; intro v12; intro v13; intro v14; intro v15; intro v16; intro v17; intro v18; intro v19; intro v20; (rintro _ rfl); (try simp only [Act.put, List.setIfInBounds_toArray, List.set_cons_zero, List.set_cons_succ]); refine Free.toldE_nil ?_
                      go_wp2
                      go_ret
                      exact ⟨rfl, hS.2.2.2⟩
end Go.Proofs.Ytdmjiaicgbcodaa
