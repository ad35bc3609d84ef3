/- The statement NonceOnce: each nonce that is told is greater than all before it. -/
import Derived.Test.YtplpidpbfljpnaaNoncePure
import Derived.Test.YtplpidpbfljpnaaFirst5
import Derived.Deep.RegionHeld3
namespace Go.Proofs.Ytplpidpbfljpnaa
open Go.ChangeShapes Go.WideShapes Go.ChangeAt Go.RowKit
open Go.ChangeMaps (open_string shut_string)
set_option linter.unusedVariables false
set_option linter.unusedSimpArgs false

theorem Below.next {N : Nat} {a w w' : World} (hb : Below w.heap.size w w') (h : Below N a w) (hN : N ≤ a.heap.size) : Below N a w' := h.trans (hb.mono (Nat.le_trans hN h.size))

theorem less_is' (g c g' c' : Int) (b : Bool) (w : World) (h : lessB g c g' c' = b) : Calls Try.prog 43 #[.agg #[.int .i64 g, .int .i64 c], .agg #[.int .i64 g', .int .i64 c']] w fun e w' => e = .returned (.bool b) ∧ Below w.heap.size w w' := by
  have := less_calls g c g' c' w
  rw [h] at this
  exact this

set_option maxHeartbeats 4000000 in
set_option maxRecDepth 100000 in
theorem nonceOnce_main (gen more : Int) (l : Nat) (w : World) (hg : 1 ≤ gen) (hg2 : gen ≤ 1073741824) (hm : 1 ≤ more) (hm2 : more ≤ 1000) (hl1 : 1 ≤ l) (hl : l ≤ 200) :
    Calls Try.prog 11 #[.int .i64 gen, .int .i64 more, .int .i64 l] w fun e w' => e = .returned (.bool true) ∧ Below w.heap.size w w' := by
  go_enter Try.func11, Try.ntmps11
  go_wp2_with fail
  refine (first5_calls _).mono ?_
  rintro e w1 ⟨rfl, b1⟩
  have q1 := b1.size
  go_wp2_with fail
  refine (from_some gen _ (by omega) (by omega)).mono ?_
  rintro e w' ⟨rfl, rfl⟩
  go_wp2_with fail
  refine (from_some (gen + more) _ (by omega) (by omega)).mono ?_
  rintro e w' ⟨rfl, rfl⟩
  have hA := (Blk.new w1 (src gen 0 1099511627776) 32).alloc (.cells (src (gen + more) 0 1099511627776) 32)
  have hB := Blk.new2 w1 (.cells (src gen 0 1099511627776) 32) (src (gen + more) 0 1099511627776) 32
  go_wp2_with fail
  refine (next_some _ (gen + more) 0 1099511627776 _ hB (by omega) (by omega) (by omega)).mono ?_
  rintro e w2 ⟨rfl, hB2, k2⟩
  have hA2 := hA.keeps k2 (by omega)
  have b2 : Below w.heap.size w w2 := ((b1.alloc q1 _).alloc (by simp; omega) _).keeps k2 (by omega) (Nat.le_refl _)
  have q2 := b2.size
  have hA3 := (hA2.alloc (.cells #[.int .i64 (gen + more), .int .i64 0] 27)).alloc (.cells #[.int .i64 0, .int .i64 0] 27)
  have hZ3 := (Blk.new w2 #[.int .i64 (gen + more), .int .i64 0] 27).alloc (.cells #[.int .i64 0, .int .i64 0] 27)
  have hL3 := Blk.new2 w2 (.cells #[.int .i64 (gen + more), .int .i64 0] 27) #[.int .i64 0, .int .i64 0] 27
  have b3 : Below w.heap.size w ((w2.alloc (.cells #[.int .i64 (gen + more), .int .i64 0] 27)).alloc (.cells #[.int .i64 0, .int .i64 0] 27)) := (by repeat (first | exact Below.refl _ _ | assumption | apply below_drewN' | apply Below.drew | refine Below.alloc ?_ (by first | omega | (simp; done) | (simp; omega)) _ | refine Below.setCell ?_ (by first | omega | (simp; done) | (simp; omega)) _))
  have s2 : w1.heap.size + 1 + 1 ≤ w2.heap.size := by have := k2.size; simp at this; exact this
  clear k2 hB2 hA2 hA hB b2
  go_wp2_with fail
  go_loopw [12] (fun i wr => ∃ (k : Nat) (gl cl : Int), k ≤ l ∧ i = .int .i64 k ∧ Blk wr w1.heap.size (src gen k 1099511627776) 32 ∧ Blk wr w2.heap.size #[.int .i64 (gen + more), .int .i64 0] 27 ∧ Blk wr (w2.heap.size + 1) #[.int .i64 gl, .int .i64 cl] 27 ∧ Below w.heap.size w wr ∧ Hid ((k = 0 ∧ gl = 0 ∧ cl = 0) ∨ (gl = gen ∧ cl + 1 = k ∧ 0 ≤ cl))) (fun i _ => l - (intOf i).toNat)
  case atStart => exact ⟨0, 0, 0, by omega, rfl, hA3, hZ3, hL3, b3, Lib.hid (.inl ⟨rfl, rfl, rfl⟩)⟩
  case round =>
    obtain ⟨k, gl, cl, hk, rfl, hA4, hZ4, hL4, b4, hgc⟩ := hrel
    have q4 := b4.size
    have g4 := hA4.lt
    clear hA3 hZ3 hL3 b3
    by_cases hlt : k < l
    · have hsp : amongB gl = true ∧ amongB cl = true ∧ lessB gl cl gen k = true ∧ lessB gen k gl cl = false ∧ lessB gen k (gen + more) 0 = true ∧ amongB gen = true ∧ amongB k = true := by
        have := hgc.out
        refine ⟨by simp [amongB]; omega, by simp [amongB]; omega, by rw [lessB_spec, decide_eq_true_eq]; omega, by rw [lessB_spec, decide_eq_false_iff_not]; omega, by rw [lessB_spec, decide_eq_true_eq]; omega, by simp [amongB]; omega, by simp [amongB]; omega⟩
      obtain ⟨m1, m2, L1, L2, L3, m3, m4⟩ := hsp
      have LB := less_bytes m1 m2 m3 m4
      rw [L1] at LB
      have P1 := parse_back m3 m4
      have T1 := str_list (nonceB gl cl)
      have T2 := str_list (nonceB gen k)
      clear hgc
      go_wp2_with fail
      refine (next_some _ gen _ _ _ hA4 (by omega) (by omega) (by omega)).mono ?_
      rintro e w5 ⟨rfl, hA5, k5⟩
      have hZ5 := hZ4.keeps k5 (by omega)
      have hL5 := hL4.keeps k5 (by omega)
      have b5 := b4.keeps k5 (by omega) (by omega)
      have q5 := b5.size
      clear hA4 hZ4 hL4 b4 k5
      go_wp2_with fail
      refine (nonce_bytes gen k _).mono ?_
      rintro e w6 ⟨v6, rfl, ho6, hb6⟩
      obtain ⟨A6, n6, rfl, _, _⟩ := ho6.form
      have hr6 := ho6.reads
      go_wp2_with fail
      refine (nonce_parse A6 _ n6 _ _ hr6 (by rw [nonceB_length]; omega)).mono ?_
      rw [P1.2.1, P1.2.2]
      rintro e w7 ⟨rfl, hb7⟩
      have b7 := Below.next hb7 hb6 (Nat.le_refl _)
      have q7 := b7.size
      simp at q7
      have hA7 := ((hA5.alloc (.cells #[.int .i64 gen, .int .i64 k] 27)).below b7 (by have := hA5.lt; simp; omega)).alloc (.cells #[.int .i64 gen, .int .i64 k] 27)
      have hZ7 := ((hZ5.alloc (.cells #[.int .i64 gen, .int .i64 k] 27)).below b7 (by have := hZ5.lt; simp; omega)).alloc (.cells #[.int .i64 gen, .int .i64 k] 27)
      have hL7 := ((hL5.alloc (.cells #[.int .i64 gen, .int .i64 k] 27)).below b7 (by have := hL5.lt; simp; omega)).alloc (.cells #[.int .i64 gen, .int .i64 k] 27)
      have hN7 := ((Blk.new w5 #[.int .i64 gen, .int .i64 k] 27).below b7 (by simp)).alloc (.cells #[.int .i64 gen, .int .i64 k] 27)
      have hM7 := Blk.new w7 #[.int .i64 gen, .int .i64 k] 27
      have b8 : Below w.heap.size w (w7.alloc (.cells #[.int .i64 gen, .int .i64 k] 27)) := (Below.next b7 (b5.alloc q5 _) (Nat.le_refl _)).alloc (by omega) _
      clear ho6 hr6 hb6 hb7 b7 hA5 hZ5 hL5 b5 q5 g4 q4 P1
      go_wp2_with fail
      generalize hW9 : w7.alloc (.cells #[.int .i64 gen, .int .i64 k] 27) = W9 at *
      have s7 : w7.heap.size + 1 = W9.heap.size := by rw [← hW9]; simp
      clear hW9
      have b9 := Below.refl W9.heap.size W9
      have b9d := b9.drew
      have HLlt := hL7.lt
      have HZlt := hZ7.lt
      have HNlt := hN7.lt
      have HMlt := hM7.lt
      have a0 := (hL7.below b9 HLlt).cell 0 (v := .int .i64 gl) rfl; have a1 := (hL7.below b9 HLlt).cell 1 (v := .int .i64 cl) rfl; have a2 := (hZ7.below b9 HZlt).cell 0 (v := .int .i64 (gen + more)) rfl; have a3 := (hZ7.below b9 HZlt).cell 1 (v := .int .i64 0) rfl; have a4 := (hN7.below b9 HNlt).cell 0 (v := .int .i64 gen) rfl; have a5 := (hN7.below b9 HNlt).cell 1 (v := .int .i64 k) rfl; have a6 := (hM7.below b9 HMlt).cell 0 (v := .int .i64 gen) rfl; have a7 := (hM7.below b9 HMlt).cell 1 (v := .int .i64 k) rfl
      go_region_held3 (fun w' => Below W9.heap.size W9 w' ∧ w'.cell? ⟨w2.heap.size + 1, 0, none⟩ = some (.int .i64 gl) ∧ w'.cell? ⟨w2.heap.size + 1, 1, none⟩ = some (.int .i64 cl) ∧ w'.cell? ⟨w2.heap.size, 0, none⟩ = some (.int .i64 (gen + more)) ∧ w'.cell? ⟨w2.heap.size, 1, none⟩ = some (.int .i64 0) ∧ w'.cell? ⟨w5.heap.size, 0, none⟩ = some (.int .i64 gen) ∧ w'.cell? ⟨w5.heap.size, 1, none⟩ = some (.int .i64 k) ∧ w'.cell? ⟨w7.heap.size, 0, none⟩ = some (.int .i64 gen) ∧ w'.cell? ⟨w7.heap.size, 1, none⟩ = some (.int .i64 k))
        (first | exact ⟨by assumption, a0, a1, a2, a3, a4, a5, a6, a7⟩ | go_keep)
        (first
          | (go_at_call 43; first
              | ((with_reducible refine (less_is' gl cl gen k true _ L1).mono ?_); rintro e w' ⟨rfl, hb⟩; have b9 := Below.next hb (show Below W9.heap.size W9 _ from by assumption) (Nat.le_refl _); have a0 := (hL7.below b9 HLlt).cell 0 (v := .int .i64 gl) rfl; have a1 := (hL7.below b9 HLlt).cell 1 (v := .int .i64 cl) rfl; have a2 := (hZ7.below b9 HZlt).cell 0 (v := .int .i64 (gen + more)) rfl; have a3 := (hZ7.below b9 HZlt).cell 1 (v := .int .i64 0) rfl; have a4 := (hN7.below b9 HNlt).cell 0 (v := .int .i64 gen) rfl; have a5 := (hN7.below b9 HNlt).cell 1 (v := .int .i64 k) rfl; have a6 := (hM7.below b9 HMlt).cell 0 (v := .int .i64 gen) rfl; have a7 := (hM7.below b9 HMlt).cell 1 (v := .int .i64 k) rfl)
              | ((with_reducible refine (less_is' gen k gl cl false _ L2).mono ?_); rintro e w' ⟨rfl, hb⟩; have b9 := Below.next hb (show Below W9.heap.size W9 _ from by assumption) (Nat.le_refl _); have a0 := (hL7.below b9 HLlt).cell 0 (v := .int .i64 gl) rfl; have a1 := (hL7.below b9 HLlt).cell 1 (v := .int .i64 cl) rfl; have a2 := (hZ7.below b9 HZlt).cell 0 (v := .int .i64 (gen + more)) rfl; have a3 := (hZ7.below b9 HZlt).cell 1 (v := .int .i64 0) rfl; have a4 := (hN7.below b9 HNlt).cell 0 (v := .int .i64 gen) rfl; have a5 := (hN7.below b9 HNlt).cell 1 (v := .int .i64 k) rfl; have a6 := (hM7.below b9 HMlt).cell 0 (v := .int .i64 gen) rfl; have a7 := (hM7.below b9 HMlt).cell 1 (v := .int .i64 k) rfl)
              | ((with_reducible refine (less_is' gen k (gen + more) 0 true _ L3).mono ?_); rintro e w' ⟨rfl, hb⟩; have b9 := Below.next hb (show Below W9.heap.size W9 _ from by assumption) (Nat.le_refl _); have a0 := (hL7.below b9 HLlt).cell 0 (v := .int .i64 gl) rfl; have a1 := (hL7.below b9 HLlt).cell 1 (v := .int .i64 cl) rfl; have a2 := (hZ7.below b9 HZlt).cell 0 (v := .int .i64 (gen + more)) rfl; have a3 := (hZ7.below b9 HZlt).cell 1 (v := .int .i64 0) rfl; have a4 := (hN7.below b9 HNlt).cell 0 (v := .int .i64 gen) rfl; have a5 := (hN7.below b9 HNlt).cell 1 (v := .int .i64 k) rfl; have a6 := (hM7.below b9 HMlt).cell 0 (v := .int .i64 gen) rfl; have a7 := (hM7.below b9 HMlt).cell 1 (v := .int .i64 k) rfl))
          | (go_at_call 34; first
              | ((with_reducible refine (nonce_bytes gl cl _).mono ?_); rintro e w' ⟨v5, rfl, ho5, hb⟩; obtain ⟨A5, n5, rfl, _, _⟩ := ho5.form; have e5 := ho5.reads.conv; have b9 := Below.next hb (show Below W9.heap.size W9 _ from by assumption) (Nat.le_refl _); have a0 := (hL7.below b9 HLlt).cell 0 (v := .int .i64 gl) rfl; have a1 := (hL7.below b9 HLlt).cell 1 (v := .int .i64 cl) rfl; have a2 := (hZ7.below b9 HZlt).cell 0 (v := .int .i64 (gen + more)) rfl; have a3 := (hZ7.below b9 HZlt).cell 1 (v := .int .i64 0) rfl; have a4 := (hN7.below b9 HNlt).cell 0 (v := .int .i64 gen) rfl; have a5 := (hN7.below b9 HNlt).cell 1 (v := .int .i64 k) rfl; have a6 := (hM7.below b9 HMlt).cell 0 (v := .int .i64 gen) rfl; have a7 := (hM7.below b9 HMlt).cell 1 (v := .int .i64 k) rfl)
              | ((with_reducible refine (nonce_bytes gen k _).mono ?_); rintro e w' ⟨v6, rfl, ho6, hb⟩; obtain ⟨A6, n6, rfl, _, _⟩ := ho6.form; have e6 := ho6.reads.conv; have e7 := (ho5.reads.below hb).conv; have b9 := Below.next hb (show Below W9.heap.size W9 _ from by assumption) (Nat.le_refl _); have a0 := (hL7.below b9 HLlt).cell 0 (v := .int .i64 gl) rfl; have a1 := (hL7.below b9 HLlt).cell 1 (v := .int .i64 cl) rfl; have a2 := (hZ7.below b9 HZlt).cell 0 (v := .int .i64 (gen + more)) rfl; have a3 := (hZ7.below b9 HZlt).cell 1 (v := .int .i64 0) rfl; have a4 := (hN7.below b9 HNlt).cell 0 (v := .int .i64 gen) rfl; have a5 := (hN7.below b9 HNlt).cell 1 (v := .int .i64 k) rfl; have a6 := (hM7.below b9 HMlt).cell 0 (v := .int .i64 gen) rfl; have a7 := (hM7.below b9 HMlt).cell 1 (v := .int .i64 k) rfl)))
      all_goals
        clear a2 a3 a6 a7
        have f0 := (hL7.below b9 HLlt).fz 0
        have f1 := (hL7.below b9 HLlt).fz 1
        have hA9 := hA7.below b9 (by have := hA7.lt; exact this)
        have hZ9 := hZ7.below b9 HZlt
        have hL9 := hL7.below b9 HLlt
        have b10 := Below.next b9 b8 (Nat.le_refl _)
        have hne : w1.heap.size ≠ w2.heap.size + 1 := by omega
        go_wp2
        go_roundw
        case rel => exact ⟨k + 1, gen, k, by omega, by go_num, by have := (hA9.other (p := ⟨w2.heap.size + 1, 0, none⟩) (by simpa using hne) (.int .i64 gen)).other (p := ⟨w2.heap.size + 1, 1, none⟩) (by simpa using hne) (.int .i64 k); simpa using this, (hZ9.other (by simp) _).other (by simp) _, (hL9.set 0 _).set 1 _, (by repeat (first | exact Below.refl _ _ | assumption | apply below_drewN' | apply Below.drew | refine Below.alloc ?_ (by first | omega | (simp; done) | (simp; omega)) _ | refine Below.setCell ?_ (by first | omega | (simp; done) | (simp; omega)) _)), Lib.hid (.inr ⟨rfl, by omega, by omega⟩)⟩
        case measure => simp [intOf]; omega
    · obtain rfl : k = l := by omega
      have hcl : cl = (k : Int) - 1 := by have := hgc.out; omega
      subst hcl
      clear hgc hA4 hZ4
      go_wp2_with fail
      refine (first5_calls _).mono ?_
      rintro e w5 ⟨rfl, hb⟩
      have b5 := Below.next hb b4 (Nat.le_refl _)
      have hL5 := hL4.below hb hL4.lt
      have c1 := hL5.cell 1 (v := .int .i64 ((k : Int) - 1)) rfl
      have g5 := hL5.lt
      go_wp2
      go_ret
      exact ⟨rfl, b5⟩

theorem nonceOnce_skip (gen more steps : Int) (w : World) (h : ¬ (1 ≤ gen ∧ gen ≤ 1073741824 ∧ 1 ≤ more ∧ more ≤ 1000 ∧ 1 ≤ steps ∧ steps ≤ 200)) :
    Calls Try.prog 11 #[.int .i64 gen, .int .i64 more, .int .i64 steps] w fun e w' => e = .returned (.bool true) ∧ Below w.heap.size w w' := by
  by_cases h1 : gen < 1
  case neg =>
    by_cases h2 : 1073741824 < gen
    case neg =>
      by_cases h3 : more < 1
      case neg =>
        by_cases h4 : 1000 < more
        case neg =>
          by_cases h5 : steps < 1
          case neg =>
            have h6 : 200 < steps := by omega
            go_enter Try.func11, Try.ntmps11; go_wp2_with fail; refine (first5_calls _).mono ?_; rintro e w1 ⟨rfl, b1⟩; have q1 := b1.size; go_wp2_with fail; refine (first5_calls _).mono ?_; rintro e w2 ⟨rfl, b2⟩; go_wp2; go_ret; exact ⟨rfl, b1.trans (b2.mono q1)⟩
          go_enter Try.func11, Try.ntmps11; go_wp2_with fail; refine (first5_calls _).mono ?_; rintro e w1 ⟨rfl, b1⟩; have q1 := b1.size; go_wp2_with fail; refine (first5_calls _).mono ?_; rintro e w2 ⟨rfl, b2⟩; go_wp2; go_ret; exact ⟨rfl, b1.trans (b2.mono q1)⟩
        go_enter Try.func11, Try.ntmps11; go_wp2_with fail; refine (first5_calls _).mono ?_; rintro e w1 ⟨rfl, b1⟩; have q1 := b1.size; go_wp2_with fail; refine (first5_calls _).mono ?_; rintro e w2 ⟨rfl, b2⟩; go_wp2; go_ret; exact ⟨rfl, b1.trans (b2.mono q1)⟩
      go_enter Try.func11, Try.ntmps11; go_wp2_with fail; refine (first5_calls _).mono ?_; rintro e w1 ⟨rfl, b1⟩; have q1 := b1.size; go_wp2_with fail; refine (first5_calls _).mono ?_; rintro e w2 ⟨rfl, b2⟩; go_wp2; go_ret; exact ⟨rfl, b1.trans (b2.mono q1)⟩
    go_enter Try.func11, Try.ntmps11; go_wp2_with fail; refine (first5_calls _).mono ?_; rintro e w1 ⟨rfl, b1⟩; have q1 := b1.size; go_wp2_with fail; refine (first5_calls _).mono ?_; rintro e w2 ⟨rfl, b2⟩; go_wp2; go_ret; exact ⟨rfl, b1.trans (b2.mono q1)⟩
  go_enter Try.func11, Try.ntmps11; go_wp2_with fail; refine (first5_calls _).mono ?_; rintro e w1 ⟨rfl, b1⟩; have q1 := b1.size; go_wp2_with fail; refine (first5_calls _).mono ?_; rintro e w2 ⟨rfl, b2⟩; go_wp2; go_ret; exact ⟨rfl, b1.trans (b2.mono q1)⟩

theorem nonceOnce_all (gen more steps : Int) (w : World) :
    Calls Try.prog 11 #[.int .i64 gen, .int .i64 more, .int .i64 steps] w fun e w' => e = .returned (.bool true) ∧ Below w.heap.size w w' := by
  by_cases h : 1 ≤ gen ∧ gen ≤ 1073741824 ∧ 1 ≤ more ∧ more ≤ 1000 ∧ 1 ≤ steps ∧ steps ≤ 200
  · obtain ⟨l, rfl⟩ := Int.eq_ofNat_of_zero_le (show 0 ≤ steps by omega)
    exact nonceOnce_main gen more l w h.1 h.2.1 h.2.2.1 h.2.2.2.1 (by omega) (by omega)
  · exact nonceOnce_skip gen more steps w h

set_option linter.unusedVariables false
namespace nonceOnce
theorem own : ownKnob Try.prog.godebug = none := by kernel_rfl
theorem laidOut : laidOutB Try.prog = true := by kernel_rfl
set_option maxRecDepth 100000 in
theorem lifted (os : Os) (started : os.Started) (H : Type) (enc : TypeId × Value → H) :
    ReturnsInHanded {} Try.checked os 11 .any (Rows.nonceOnceSpec.pre6 enc Try.prog Try.f11 Rows.nonceOnceRow.domain false) (Rows.nonceOnceSpec.post enc Try.prog Try.f11 false true false false) := by
  refine returnsInHanded_of_change_sized (C := Try.checked) own started (by kernel_rfl) Try.func11
    (ChangeSpec.witness6 (enc := enc) (C := Try.checked) false ⟨#[], #[.int .i64 0, .int .i64 0, .int .i64 0], []⟩ 8 (by kernel_rfl) (by kernel_rfl) (by kernel_rfl) (by kernel_rfl)) ?_
  intro W base args ds gs before hval0 hW hcnd hsz0 _
  have hsz : (DataW.weightsEach Try.prog (Try.f11.params.toList ++ Rows.nonceOnceSpec.plain.varTypes Try.prog) (ds ++ gs)).all (· ≤ reachBytes) = true := hsz0
  have hval : ∀ (j : Nat) t v, Try.f11.params[j]? = some t → args[j]? = some v → Value.okWide Try.prog W .any base t v := hval0
  have hW' := hW
  obtain ⟨p, q, hA0, hV, rfl, hfz, hnd⟩ := hW
  have hA : DataW.TrodAll enc Try.prog W 0 (fun _ => true) true Try.f11.params.toList args.toList ds p := hA0
  rw [Try.params11] at hA hval hsz
  obtain ⟨v0, vs0, d0, ds0, p0, q0, hargs, rfl, rfl, h0, r0⟩ := trodAll_cons hA
  obtain ⟨v1, vs1, d1, ds1, p1, q1, rfl, rfl, rfl, h1, r1⟩ := trodAll_cons r0
  obtain ⟨v2, vs2, d2, ds2, p2, q2, rfl, rfl, rfl, h2, r2⟩ := trodAll_cons r1
  obtain ⟨rfl, rfl, rfl⟩ := trodAll_nil r2
  obtain rfl : args = #[v0, v1, v2] := by cases args; simp_all
  obtain ⟨rfl, rfl⟩ := trodVars_none hV
  obtain ⟨a0, rfl, rfl, rfl, w0⟩ := open_int Try.underlying3 (hval 0 3 v0 rfl rfl) h0
  obtain ⟨a1, rfl, rfl, rfl, w1⟩ := open_int Try.underlying3 (hval 1 3 v1 rfl rfl) h1
  obtain ⟨a2, rfl, rfl, rfl, w2⟩ := open_int Try.underlying3 (hval 2 3 v2 rfl rfl) h2
  refine (nonceOnce_all a0 a1 a2 W).mono fun e W' ⟨he, bel⟩ => ?_
  subst he
  exact ⟨_, rfl, _, _, _, [], _, [], hW', trodAll_mk1 (shut_bool Try.underlying4 _), (trodAll_cons_mk (shut_int Try.underlying3 w0) (trodAll_cons_mk (shut_int Try.underlying3 w1) (trodAll_cons_mk (shut_int Try.underlying3 w2) trodAll_mk0))), rfl, bel.frame _, fun h => by cases h⟩
theorem over : Rows.nonceOnceRow.holds Try.pinned (OpenSpec.ofChange Rows.nonceOnceSpec) :=
  OpenClaim.holds_of_wide 11 Try.f11 rfl rfl rfl rfl rfl rfl rfl ⟨rfl, rfl, rfl, rfl, rfl⟩ rfl rfl rfl rfl rfl (by kernel_rfl) Try.func11 (by kernel_rfl)
    (of_decide_eq_true (by kernel_rfl)) (by unfold Func.isWrapper; first | (rw [if_pos (by decide +kernel)]; kernel_rfl) | (rw [if_neg (by decide +kernel)]; exact ⟨rfl, rfl⟩))
    (fun os started H enc _ => lifted os started H enc)
end nonceOnce
/-- The statement. -/
theorem nonceOnce_holds : Rows.NonceOnceSaid := nonceOnce.over
#print axioms nonceOnce_holds
end Go.Proofs.Ytplpidpbfljpnaa
