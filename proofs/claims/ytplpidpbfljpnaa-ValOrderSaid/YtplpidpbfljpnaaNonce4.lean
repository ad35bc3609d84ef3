/- Contracts of nonce.Parse and nonce.Less. -/
import Derived.Test.YtplpidpbfljpnaaNonce3
import Derived.StillTailTactics
namespace Go.Proofs.Ytplpidpbfljpnaa
open Go.ChangeShapes Go.WideShapes Go.ChangeAt Go.RowKit
open Go.ChangeMaps (open_string shut_string)
set_option linter.unusedVariables false
set_option linter.unusedSimpArgs false

def parseE (l : List UInt8) : Int := if parseOk l then 0 else 2
theorem parseE_yes {l : List UInt8} (h : parseOk l = true) : parseE l = 0 := by simp [parseE, h]
theorem parseE_no {l : List UInt8} (h : parseOk l = false) : parseE l = 2 := by simp [parseE, h]

theorem rnumR_six (l : List UInt8) (h : 6 ≤ l.length) : rnumR l 0 6 = (rnumV (l.take 6), l.drop 6, 0) := by
  have e : rnumE l 0 6 = 0 := by
    unfold rnumE
    rw [if_pos (by decide)]
    unfold rawE
    rw [if_neg (by omega), if_neg (by omega)]
  unfold rnumR
  rw [if_pos e]
  rfl

set_option maxHeartbeats 1000000 in
theorem nonce_parse (A : Option Addr) (n c : Nat) (l : List UInt8) (w : World) (h : RB w A n c l) (hn : n ≤ 70368744177664) :
    Calls Try.prog 40 #[.slice A n c] w fun e w' => e = .returned (.tuple #[parseV l, .int .i64 (parseE l)]) ∧ Below w.heap.size w w' := by
  have hln := h.len
  obtain ⟨R1, hR1⟩ : ∃ r, rnumR l 0 6 = r := ⟨_, rfl⟩
  obtain ⟨R2, hR2⟩ : ∃ r, rnumR R1.2.1 R1.2.2 6 = r := ⟨_, rfl⟩
  have hl1 : R1.2.1.length ≤ n := by
    rw [← hR1, ← hln]
    unfold rnumR
    split
    · simp
    · exact Nat.le_refl _
  have HR1 := Lib.hid hR1
  have HR2 := Lib.hid hR2
  have Hln := Lib.hid hln
  clear hR1 hR2 hln
  by_cases h12 : n = 12
  · subst h12
    have hf1 : R1 = (rnumV (l.take 6), l.drop 6, 0) := by rw [← HR1.out, rnumR_six l (by rw [Hln.out]; omega)]
    have hf2 : R2 = (rnumV (l.drop 6), (l.drop 6).drop 6, 0) := by
      rw [← HR2.out, hf1]
      show rnumR (l.drop 6) 0 6 = _
      rw [rnumR_six _ (by rw [List.length_drop, Hln.out]; omega), List.take_of_length_le (by rw [List.length_drop, Hln.out]; omega)]
    have H1 := Lib.hid (show R1.1 = rnumV (l.take 6) by rw [hf1])
    have H2 := Lib.hid (show R2.1 = rnumV (l.drop 6) by rw [hf2])
    have He : R2.2.2 = 0 := by rw [hf2]
    clear hf1 hf2
    rcases hp : (amongB R1.1 && amongB R2.1) with _ | _
    · have HO := Lib.hid (show parseOk l = false by unfold parseOk; rw [← H1.out, ← H2.out, hp]; simp)
      go_enter Try.func40, Try.ntmps40
      go_wp2_with fail
      refine (newReader A _ c l _ (h.alloc _) hn).mono ?_
      rintro e w1 ⟨p, rfl, hp1, hr1, b1⟩
      have bb1 : Below w.heap.size w w1 := Below.trans (by repeat (first | exact Below.refl _ _ | assumption | apply below_drewN' | apply Below.drew | refine Below.alloc ?_ (by first | omega | (simp; done) | (simp; omega)) _ | refine Below.setCell ?_ (by first | omega | (simp; done) | (simp; omega)) _)) (b1.mono (by simp))
      have q1 := bb1.size
      have hb1 := (Blk.new w #[.int .i64 0, .int .i64 0] 27).below b1 (by simp)
      go_wp2_with fail
      refine (rnum_any p _ l 0 6 _ hr1 (by rw [Hln.out]; exact hn)).mono ?_
      rintro e w2 ⟨rfl, hr2, k2⟩
      rw [HR1.out] at hr2 ⊢
      have bb2 := bb1.keeps k2 (by simp at hp1; omega) (Nat.le_refl _)
      have hb2 := hb1.keeps k2 (by simp at hp1; omega)
      go_wp2_with fail
      refine (rnum_any p _ R1.2.1 R1.2.2 6 _ hr2 (by omega)).mono ?_
      rintro e w3 ⟨rfl, hr3, k3⟩
      rw [HR2.out] at hr3 ⊢
      have bb3 := bb2.keeps k3 (by simp at hp1; omega) (Nat.le_refl _)
      have q3 := bb3.size
      have hb3 := hb2.keeps k3 (by simp at hp1; omega)
      have hlt3 := hb3.lt
      have hr4 := hr3.keeps (S := fun _ => False) ((Keeps.refl _ w3).alloc (.cells #[.int .i64 R1.1, .int .i64 R2.1] 27)) (fun _ _ => id)
      rw [He] at hr4
      go_wp2_with fail
      refine (rerr_calls p _ R2.2.1 0 _ hr4).mono ?_
      rintro e w' ⟨rfl, rfl⟩
      go_wp2_with fail
      refine (may_is _ _ false _ hp).mono ?_
      rintro e w4 ⟨rfl, b4⟩
      have bb4 : Below w.heap.size w w4 := (bb3.alloc q3 _).trans (b4.mono (by simp; omega))
      have q4 := bb4.size
      have hb4 := (hb3.alloc (.cells #[.int .i64 R1.1, .int .i64 R2.1] 27)).below b4 (by simp; omega)
      have hc4 := (Blk.new w3 #[.int .i64 R1.1, .int .i64 R2.1] 27).below b4 (by simp)
      have z0 := hb4.cell 0 (v := .int .i64 0) rfl
      have z1 := hb4.cell 1 (v := .int .i64 0) rfl
      have y0 := hc4.cell 0 (v := .int .i64 R1.1) rfl
      have y1 := hc4.cell 1 (v := .int .i64 R2.1) rfl
      have f0 := hb4.fz 0
      have f1 := hb4.fz 1
      go_wp2
      refine bodyPost_ret (v := .tuple #[.agg #[.int .i64 0, .int .i64 0], .int .i64 2]) (by simp [results, Try.results40, go_sem, z0, z1]) rfl ⟨by rw [parseV_no HO.out, parseE_no HO.out], (by repeat (first | exact Below.refl _ _ | assumption | apply below_drewN' | apply Below.drew | refine Below.alloc ?_ (by first | omega | (simp; done) | (simp; omega)) _ | refine Below.setCell ?_ (by first | omega | (simp; done) | (simp; omega)) _))⟩
    · have HO := Lib.hid (show parseOk l = true by unfold parseOk; rw [← H1.out, ← H2.out, hp, Hln.out]; rfl)
      go_enter Try.func40, Try.ntmps40
      go_wp2_with fail
      refine (newReader A _ c l _ (h.alloc _) hn).mono ?_
      rintro e w1 ⟨p, rfl, hp1, hr1, b1⟩
      have bb1 : Below w.heap.size w w1 := Below.trans (by repeat (first | exact Below.refl _ _ | assumption | apply below_drewN' | apply Below.drew | refine Below.alloc ?_ (by first | omega | (simp; done) | (simp; omega)) _ | refine Below.setCell ?_ (by first | omega | (simp; done) | (simp; omega)) _)) (b1.mono (by simp))
      have q1 := bb1.size
      have hb1 := (Blk.new w #[.int .i64 0, .int .i64 0] 27).below b1 (by simp)
      go_wp2_with fail
      refine (rnum_any p _ l 0 6 _ hr1 (by rw [Hln.out]; exact hn)).mono ?_
      rintro e w2 ⟨rfl, hr2, k2⟩
      rw [HR1.out] at hr2 ⊢
      have bb2 := bb1.keeps k2 (by simp at hp1; omega) (Nat.le_refl _)
      have hb2 := hb1.keeps k2 (by simp at hp1; omega)
      go_wp2_with fail
      refine (rnum_any p _ R1.2.1 R1.2.2 6 _ hr2 (by omega)).mono ?_
      rintro e w3 ⟨rfl, hr3, k3⟩
      rw [HR2.out] at hr3 ⊢
      have bb3 := bb2.keeps k3 (by simp at hp1; omega) (Nat.le_refl _)
      have q3 := bb3.size
      have hb3 := hb2.keeps k3 (by simp at hp1; omega)
      have hlt3 := hb3.lt
      have hr4 := hr3.keeps (S := fun _ => False) ((Keeps.refl _ w3).alloc (.cells #[.int .i64 R1.1, .int .i64 R2.1] 27)) (fun _ _ => id)
      rw [He] at hr4
      go_wp2_with fail
      refine (rerr_calls p _ R2.2.1 0 _ hr4).mono ?_
      rintro e w' ⟨rfl, rfl⟩
      go_wp2_with fail
      refine (may_is _ _ true _ hp).mono ?_
      rintro e w4 ⟨rfl, b4⟩
      have bb4 : Below w.heap.size w w4 := (bb3.alloc q3 _).trans (b4.mono (by simp; omega))
      have q4 := bb4.size
      have hb4 := (hb3.alloc (.cells #[.int .i64 R1.1, .int .i64 R2.1] 27)).below b4 (by simp; omega)
      have hc4 := (Blk.new w3 #[.int .i64 R1.1, .int .i64 R2.1] 27).below b4 (by simp)
      have z0 := hb4.cell 0 (v := .int .i64 0) rfl
      have z1 := hb4.cell 1 (v := .int .i64 0) rfl
      have y0 := hc4.cell 0 (v := .int .i64 R1.1) rfl
      have y1 := hc4.cell 1 (v := .int .i64 R2.1) rfl
      have f0 := hb4.fz 0
      have f1 := hb4.fz 1
      go_wp2
      refine bodyPost_ret (v := .tuple #[.agg #[.int .i64 R1.1, .int .i64 R2.1], .int .i64 0]) (by simp [results, Try.results40, go_sem, z0, z1]) rfl ⟨by rw [parseV_yes HO.out, parseE_yes HO.out, H1.out, H2.out], (by repeat (first | exact Below.refl _ _ | assumption | apply below_drewN' | apply Below.drew | refine Below.alloc ?_ (by first | omega | (simp; done) | (simp; omega)) _ | refine Below.setCell ?_ (by first | omega | (simp; done) | (simp; omega)) _))⟩
  · have HO := Lib.hid (show parseOk l = false by unfold parseOk; rw [Hln.out]; simp [h12])
    have hne : ((n : Int) == 12) = false := by rw [beq_eq_false_iff_ne]; omega
    have hne2 : ((n : Int) != 12) = true := by rw [bne_iff_ne]; omega
    go_enter Try.func40, Try.ntmps40
    go_wp2_with fail
    refine (newReader A _ c l _ (h.alloc _) hn).mono ?_
    rintro e w1 ⟨p, rfl, hp1, hr1, b1⟩
    have bb1 : Below w.heap.size w w1 := Below.trans (by repeat (first | exact Below.refl _ _ | assumption | apply below_drewN' | apply Below.drew | refine Below.alloc ?_ (by first | omega | (simp; done) | (simp; omega)) _ | refine Below.setCell ?_ (by first | omega | (simp; done) | (simp; omega)) _)) (b1.mono (by simp))
    have q1 := bb1.size
    have hb1 := (Blk.new w #[.int .i64 0, .int .i64 0] 27).below b1 (by simp)
    go_wp2_with fail
    refine (rnum_any p _ l 0 6 _ hr1 (by rw [Hln.out]; exact hn)).mono ?_
    rintro e w2 ⟨rfl, hr2, k2⟩
    rw [HR1.out] at hr2 ⊢
    have bb2 := bb1.keeps k2 (by simp at hp1; omega) (Nat.le_refl _)
    have hb2 := hb1.keeps k2 (by simp at hp1; omega)
    go_wp2_with fail
    refine (rnum_any p _ R1.2.1 R1.2.2 6 _ hr2 (by omega)).mono ?_
    rintro e w3 ⟨rfl, hr3, k3⟩
    rw [HR2.out] at hr3 ⊢
    have bb3 := bb2.keeps k3 (by simp at hp1; omega) (Nat.le_refl _)
    have q3 := bb3.size
    have hb3 := hb2.keeps k3 (by simp at hp1; omega)
    have hlt3 := hb3.lt
    have z0 := hb3.cell 0 (v := .int .i64 0) rfl
    have z1 := hb3.cell 1 (v := .int .i64 0) rfl
    have f0 := hb3.fz 0
    have f1 := hb3.fz 1
    go_wp2
    refine bodyPost_ret (v := .tuple #[.agg #[.int .i64 0, .int .i64 0], .int .i64 2]) (by simp [results, Try.results40, go_sem, z0, z1, hlt3]) rfl ⟨by rw [parseV_no HO.out, parseE_no HO.out], (by repeat (first | exact Below.refl _ _ | assumption | apply below_drewN' | apply Below.drew | refine Below.alloc ?_ (by first | omega | (simp; done) | (simp; omega)) _ | refine Below.setCell ?_ (by first | omega | (simp; done) | (simp; omega)) _))⟩

/-! ### Less -/
theorem isNaN_calls (x : Int) (w : World) : Calls Try.prog 70 #[.int .i64 x] w fun e w' => e = .returned (.bool false) ∧ w = w' := by
  go_enter Try.func70, Try.ntmps70
  go_wp2
  go_ret
  exact ⟨ret_bool (by simp), rfl⟩

def cmpI (x y : Int) : Int := if x < y then -1 else if y < x then 1 else 0

theorem compare_calls (x y : Int) (w : World) : Calls Try.prog 61 #[.int .i64 x, .int .i64 y] w fun e w' => e = .returned (.int .i64 (cmpI x y)) ∧ w = w' := by
  by_cases h : x < y
  · have e : cmpI x y = -1 := by simp [cmpI, h]
    rw [e]
    go_enter Try.func61, Try.ntmps61
    go_wp2_with (go_at_call 70; refine (isNaN_calls _ _).mono ?_; rintro e w' ⟨rfl, rfl⟩)
    go_ret
    exact ⟨rfl, rfl⟩
  · by_cases h2 : y < x
    · have e : cmpI x y = 1 := by simp [cmpI, h, h2]
      rw [e]
      go_enter Try.func61, Try.ntmps61
      go_wp2_with (go_at_call 70; refine (isNaN_calls _ _).mono ?_; rintro e w' ⟨rfl, rfl⟩)
      go_ret
      exact ⟨rfl, rfl⟩
    · have e : cmpI x y = 0 := by simp [cmpI, h, h2]
      rw [e]
      go_enter Try.func61, Try.ntmps61
      go_wp2_with (go_at_call 70; refine (isNaN_calls _ _).mono ?_; rintro e w' ⟨rfl, rfl⟩)
      go_ret
      exact ⟨rfl, rfl⟩

def orI (x y : Int) : Int := if x = 0 then y else x

theorem or_calls (g : Nat) (x y : Int) (w : World) (h : Blk w g #[.int .i64 x, .int .i64 y] 3) : Calls Try.prog 60 #[.slice (some ⟨g, 0, none⟩) 2 2] w fun e w' => e = .returned (.int .i64 (orI x y)) ∧ w = w' := by
  have c0 := h.cell 0 (v := .int .i64 x) rfl
  have c1 := h.cell 1 (v := .int .i64 y) rfl
  by_cases hx : x = 0
  · subst hx
    have e : orI 0 y = y := by simp [orI]
    rw [e]
    by_cases hy : y = 0
    · subst hy
      go_enter Try.func60, Try.ntmps60
      go_wp2
      refine wp_loop_rounds 3 ?_
      rw [rounds_succ]
      go_wp2
      rw [rounds_succ]
      go_wp2
      rw [rounds_succ]
      go_wp2
      go_ret
      exact ⟨rfl, rfl⟩
    · have hy2 : (y != 0) = true := by rw [bne_iff_ne]; exact hy
      go_enter Try.func60, Try.ntmps60
      go_wp2
      refine wp_loop_rounds 2 ?_
      rw [rounds_succ]
      go_wp2
      rw [rounds_succ]
      go_wp2
      go_ret
      exact ⟨rfl, rfl⟩
  · have e : orI x y = x := by simp [orI, hx]
    rw [e]
    have hx2 : (x != 0) = true := by rw [bne_iff_ne]; exact hx
    go_enter Try.func60, Try.ntmps60
    go_wp2
    refine wp_loop_rounds 1 ?_
    rw [rounds_succ]
    go_wp2
    go_ret
    exact ⟨rfl, rfl⟩

/-- Does one stand ahead of the other? -/
def lessB (g c g' c' : Int) : Bool := decide (orI (cmpI g g') (cmpI c c') < 0)

set_option maxHeartbeats 1000000 in
set_option maxRecDepth 100000 in
theorem less_calls (g c g' c' : Int) (w : World) : Calls Try.prog 43 #[.agg #[.int .i64 g, .int .i64 c], .agg #[.int .i64 g', .int .i64 c']] w fun e w' => e = .returned (.bool (lessB g c g' c')) ∧ Below w.heap.size w w' := by
  have hor := (Blk.new2 (w.alloc (.cells #[.int .i64 g, .int .i64 c] 27)) (.cells #[.int .i64 g', .int .i64 c'] 27) #[.int .i64 (cmpI g g'), .int .i64 (cmpI c c')] 3).drew
  rw [World.size_alloc] at hor
  go_enter Try.func43, Try.ntmps43
  go_wp2_with fail
  refine wp_region_still_tail 10 (by kernel_rfl) (by kernel_rfl) ?_
  simp only [List.take_succ_cons, List.take_zero, List.drop_succ_cons, List.drop_zero]
  change wpStill _ _ (World.drew _) _ _ _
  repeat (first | still_step | still_call ((compare_calls _ _ _).mono fun _ _ h => ⟨h.1, h.2.symm⟩))
  refine wpStill_nil ?_
  change wpList _ _ _ _ _ (World.drew _)
  go_wp2_with (go_at_call 60; refine (or_calls _ (cmpI g g') (cmpI c c') _ hor).mono ?_; rintro e w' ⟨rfl, rfl⟩)
  go_ret
  exact ⟨rfl, (by repeat (first | exact Below.refl _ _ | assumption | apply below_drewN' | apply Below.drew | refine Below.alloc ?_ (by first | omega | (simp; done) | (simp; omega)) _ | refine Below.setCell ?_ (by first | omega | (simp; done) | (simp; omega)) _))⟩
end Go.Proofs.Ytplpidpbfljpnaa
