/- Contracts of nonces: Parse, Less, and the document's May, Bytes, ParseNonce. -/
import Derived.Test.YtplpidpbfljpnaaNonce2
namespace Go.Proofs.Ytplpidpbfljpnaa
open Go.ChangeShapes Go.WideShapes Go.ChangeAt Go.RowKit
open Go.ChangeMaps (open_string shut_string)
set_option linter.unusedVariables false
set_option linter.unusedSimpArgs false

theorem ref_Most (w : World) : Calls Try.prog 59 #[] w fun e w' => e = .returned (.int .i64 1099511627776) ∧ w' = w := by
  go_enter Try.func59, Try.ntmps59
  go_wp2
  go_ret
  exact ⟨rfl, rfl⟩

theorem ref_may (gen count : Int) (w : World) : Calls Try.prog 42 #[.agg #[.int .i64 gen, .int .i64 count]] w fun e w' => e = .returned (.bool (amongB gen && amongB count)) ∧ Below w.heap.size w w' := by
  by_cases h1 : 0 ≤ gen
  · by_cases h2 : gen ≤ 1099511627776
    · by_cases h3 : 0 ≤ count
      · go_enter Try.func42, Try.ntmps42
        go_wp2_with fail
        go_quiet ((go_at_call 59; exact Calls.quiet_of_same (ref_Most _)))
        go_wp2
        go_ret
        exact ⟨by simp [amongB, h1, h2, h3], (by repeat (first | exact Below.refl _ _ | assumption | apply below_drewN' | apply Below.drew | refine Below.alloc ?_ (by first | omega | (simp; done) | (simp; omega)) _ | refine Below.setCell ?_ (by first | omega | (simp; done) | (simp; omega)) _))⟩
      · go_enter Try.func42, Try.ntmps42
        go_wp2_with fail
        have hd : decide (0 ≤ count) = false := by simpa using h3
        go_quiet ((go_at_call 59; exact Calls.quiet_of_same (ref_Most _)))
        go_wp2
        go_ret
        exact ⟨by simp [amongB]; omega, (by repeat (first | exact Below.refl _ _ | assumption | apply below_drewN' | apply Below.drew | refine Below.alloc ?_ (by first | omega | (simp; done) | (simp; omega)) _ | refine Below.setCell ?_ (by first | omega | (simp; done) | (simp; omega)) _))⟩
    · go_enter Try.func42, Try.ntmps42
      go_wp2_with fail
      have hd : decide (gen ≤ 1099511627776) = false := by simpa using h2
      go_quiet ((go_at_call 59; exact Calls.quiet_of_same (ref_Most _)))
      go_wp2
      go_ret
      exact ⟨by simp [amongB]; omega, (by repeat (first | exact Below.refl _ _ | assumption | apply below_drewN' | apply Below.drew | refine Below.alloc ?_ (by first | omega | (simp; done) | (simp; omega)) _ | refine Below.setCell ?_ (by first | omega | (simp; done) | (simp; omega)) _))⟩
  · go_enter Try.func42, Try.ntmps42
    go_wp2_with fail
    have hd : decide (0 ≤ gen) = false := by simpa using h1
    go_quiet ((go_at_call 59; exact Calls.quiet_of_same (ref_Most _)))
    go_wp2
    go_ret
    exact ⟨by simp [amongB]; omega, (by repeat (first | exact Below.refl _ _ | assumption | apply below_drewN' | apply Below.drew | refine Below.alloc ?_ (by first | omega | (simp; done) | (simp; omega)) _ | refine Below.setCell ?_ (by first | omega | (simp; done) | (simp; omega)) _))⟩
theorem ref_may_is (gen count : Int) (b : Bool) (w : World) (h : (amongB gen && amongB count) = b) : Calls Try.prog 42 #[.agg #[.int .i64 gen, .int .i64 count]] w fun e w' => e = .returned (.bool b) ∧ Below w.heap.size w w' := by
  have := ref_may gen count w
  rw [h] at this
  exact this

set_option maxRecDepth 100000 in
theorem ref_nonce_bytes (gen count : Int) (w : World) : Calls Try.prog 35 #[.agg #[.int .i64 gen, .int .i64 count]] w fun e w' => ∃ v, e = .returned v ∧ OB w' w.heap.size v (nonceB gen count) ∧ Below w.heap.size w w' := by
  rcases h : (amongB gen && amongB count) with _ | _
  · have hB : nonceB gen count = List.replicate 12 0 := by simp only [nonceB, h]; rfl
    rw [hB]
    have hmk : ∀ w, (Instr.makeSlice 41 (.int .i64 12) (.int .i64 12)).run Try.prog w = .ok (.slice (some ⟨w.heap.size, 0, none⟩) 12 12) (w.alloc (.cells (bcells (List.replicate 12 0)) 5)) := fun w => run_mk w 12 (by omega)
    go_enter Try.func35, Try.ntmps35
    go_wp2_with fail
    refine (ref_may_is _ _ false _ h).mono ?_
    rintro e w1 ⟨rfl, b1⟩
    have b2 : Below w.heap.size w w1 := ((Below.refl w.heap.size w).alloc (Nat.le_refl _) _).trans (b1.mono (by simp))
    have q2 := b2.size
    go_wp2
    go_ret
    exact ⟨_, rfl, OB.of_row (l := List.replicate 12 0) (Blk.new w1 _ _) (by unfold maxLen; simp) q2, (by repeat (first | exact Below.refl _ _ | assumption | apply below_drewN' | apply Below.drew | refine Below.alloc ?_ (by first | omega | (simp; done) | (simp; omega)) _ | refine Below.setCell ?_ (by first | omega | (simp; done) | (simp; omega)) _))⟩
  · have hB : nonceB gen count = be 6 gen ++ be 6 count := by simp only [nonceB, h]; rfl
    rw [hB]
    have h1 : amongB gen = true := by simp at h; exact h.1
    have h2 : amongB count = true := by simp at h; exact h.2
    have HN := Lib.hid (numsP_nonce gen count h1 h2)
    go_enter Try.func35, Try.ntmps35
    go_wp2_with fail
    refine (ref_may_is _ _ true _ h).mono ?_
    rintro e w1 ⟨rfl, b1⟩
    have b2 : Below w.heap.size w w1 := ((Below.refl w.heap.size w).alloc (Nat.le_refl _) _).trans (b1.mono (by simp))
    have q2 := b2.size
    have hn1 := (Blk.new w #[.int .i64 gen, .int .i64 count] 49).below b1 (by simp)
    have d0 := hn1.cell 0 (v := .int .i64 gen) rfl
    have d1 := hn1.cell 1 (v := .int .i64 count) rfl
    have g1 := hn1.lt
    go_wp2_with fail
    have hi := RI.of_blk (l := [gen, count]) (n := 2) (Blk.new w1 #[.int .i64 gen, .int .i64 count] 3) rfl rfl (by unfold maxLen; omega)
    refine (nums_any w.heap.size (.slice none 0 0) [] 6 [gen, count] (some ⟨w1.heap.size, 0, none⟩) 2 2 _ (OB.nil _ _) (by simp; omega) hi (fun _ a ha => by injection ha with ha; subst ha; simp [Value.ownBlock]) (by simp)).mono ?_
    rintro e w3 ⟨v3, rfl, ho3, hg3⟩
    rw [HN.out] at ho3
    obtain ⟨A3, c3, rfl, _, _⟩ := ho3.form
    have b3 := ((b2.alloc q2 _).trans (hg3.below (B := w.heap.size) (by simp [Value.ownBlock]) (by simp; omega)).1)
    go_wp2
    go_ret
    exact ⟨_, rfl, ho3, b3⟩

theorem ref_Num (A : Option Addr) (k c : Nat) (D : List UInt8) (w : World) (h : RB w A k c D) (h1 : 1 ≤ k) (h7 : k ≤ 7) :
    Calls Try.prog 58 #[.slice A k c] w fun r w' => r = .returned (.int .i64 (rnumV D)) ∧ w = w' := by
  have HDl := Lib.hid h.len
  obtain ⟨g, o, rfl, hc⟩ := h.at_ (by omega)
  go_enter Try.func58, Try.ntmps58
  go_wp2
  go_loop [3, 4] (fun n i => ∃ j : Nat, j ≤ k ∧ i = .int .i64 j ∧ n = .int .i64 (numB (D.take j))) (fun _ i => k - (intOf i).toNat)
  case atStart => exact ⟨0, by omega, rfl, rfl⟩
  case round =>
    obtain ⟨j, hj, rfl, rfl⟩ := hrel
    by_cases hlt : j < k
    · have hjD : j < D.length := by rw [HDl.out]; exact hlt
      have hcell := hc j D[j] (List.getElem?_eq_getElem hjD)
      obtain ⟨b, hb⟩ : ∃ b, D[j] = b := ⟨_, rfl⟩
      rw [hb] at hcell
      have htk : D.take (j + 1) = D.take j ++ [b] := by rw [List.take_succ_eq_append_getElem hjD, hb]
      have Hn := Lib.hid (numB_snoc (D.take j) b)
      rw [← htk] at Hn
      have n0 := numB_nonneg (D.take j)
      clear htk hb hc
      unfold bv at hcell
      have bl := b.toNat_lt
      have n1 := numB_lt (D.take j)
      have hlen : (D.take j).length = j := by rw [List.length_take]; omega
      have p2 : (256 : Int) ^ (D.take j).length ≤ 281474976710656 := by
        have : j = 0 ∨ j = 1 ∨ j = 2 ∨ j = 3 ∨ j = 4 ∨ j = 5 ∨ j = 6 := by omega
        rw [hlen]
        rcases this with rfl | rfl | rfl | rfl | rfl | rfl | rfl <;> decide
      have Ho := Lib.hid (or_byte (numB (D.take j)) b n0 (by omega))
      clear n1 p2 hlen
      go_wp2
      exact ⟨⟨j + 1, by omega, by go_num, by rw [Ho.out, Hn.out]⟩, by simp [intOf]; omega⟩
    · obtain rfl : j = k := by omega
      have hd : D.take j = D := List.take_of_length_le (by rw [HDl.out]; exact Nat.le_refl _)
      rw [hd]
      have n0 := numB_nonneg D
      by_cases ht : numB D = topW j
      · have ht2 : (numB D == topW j) = true := by rw [beq_iff_eq]; exact ht
        have e1 : rnumV D = -1 := by unfold rnumV; rw [HDl.out, if_pos ht]
        have E1 := Lib.hid e1
        clear ht hc hd e1
        go_wp2_with (go_at_call 69; refine (ref_most _ _ h1 h7).mono ?_; rintro e w' ⟨rfl, rfl⟩)
        go_ret
        exact ⟨ret_int E1.out.symm, rfl⟩
      · have ht2 : (numB D == topW j) = false := by rw [beq_eq_false_iff_ne]; exact ht
        have e1 : rnumV D = numB D := by unfold rnumV; rw [HDl.out, if_neg ht]
        have E1 := Lib.hid e1
        clear ht hc hd e1
        go_wp2_with (go_at_call 69; refine (ref_most _ _ h1 h7).mono ?_; rintro e w' ⟨rfl, rfl⟩)
        go_ret
        exact ⟨ret_int E1.out.symm, rfl⟩

/-- The document's reading of twelve bytes. -/
def parseOk (l : List UInt8) : Bool := l.length == 12 && (amongB (rnumV (l.take 6)) && amongB (rnumV (l.drop 6)))

/-- The nonce that is read. -/
def parseV (l : List UInt8) : Value := if parseOk l then .agg #[.int .i64 (rnumV (l.take 6)), .int .i64 (rnumV (l.drop 6))] else .agg #[.int .i64 0, .int .i64 0]
theorem parseV_yes {l : List UInt8} (h : parseOk l = true) : parseV l = .agg #[.int .i64 (rnumV (l.take 6)), .int .i64 (rnumV (l.drop 6))] := by simp [parseV, h]
theorem parseV_no {l : List UInt8} (h : parseOk l = false) : parseV l = .agg #[.int .i64 0, .int .i64 0] := by simp [parseV, h]

set_option maxHeartbeats 8000000 in
theorem ref_parse (A : Option Addr) (n c : Nat) (l : List UInt8) (w : World) (h : RB w A n c l) :
    Calls Try.prog 41 #[.slice A n c] w fun e w' => e = .returned (.tuple #[parseV l, .bool (parseOk l)]) ∧ Below w.heap.size w w' := by
  have hcap := h.cap
  have hmax := h.max
  unfold maxLen at hmax
  by_cases hn : n = 12
  · subst hn
    obtain ⟨g, o, rfl, hc⟩ := h.at_ (by omega)
    clear hc
    have r1 := h.take 6 (by omega)
    have r2 := h.drop 6 (by omega)
    have hl : (l.length == 12) = true := by rw [h.len]; rfl
    go_enter Try.func41, Try.ntmps41
    go_wp2_with fail
    go_region_with (go_at_call 58; first | ((with_reducible refine (ref_Num (some ⟨g, o, none⟩) 6 c (l.take 6) _ (by repeat (first | assumption | apply RB.drewN | apply RB.drew | apply RB.alloc)) (by omega) (by omega)).mono ?_); rintro e w' ⟨rfl, rfl⟩) | ((with_reducible refine (ref_Num (some ⟨g, o + 6, none⟩) 6 (c - 6) (l.drop 6) _ (by repeat (first | assumption | apply RB.drewN | apply RB.drew | apply RB.alloc)) (by omega) (by omega)).mono ?_); rintro e w' ⟨rfl, rfl⟩))
    all_goals
      rcases hp : (amongB (rnumV (l.take 6)) && amongB (rnumV (l.drop 6))) with _ | _
      · have e0 := Lib.hid (show parseOk l = false by simp only [parseOk, hl, hp]; rfl)
        go_wp2_with fail
        refine (ref_may_is _ _ false _ hp).mono ?_
        rintro e w1 ⟨rfl, b1⟩
        have q1 := b1.size
        simp at q1
        have hb1 := (Blk.new w #[.int .i64 0, .int .i64 0] 49).alloc (.cells #[.int .i64 (rnumV (l.take 6)), .int .i64 (rnumV (l.drop 6))] 49)
        have hb2 := hb1.drew.below b1 (by simp; omega)
        have z0 := hb2.cell 0 (v := .int .i64 0) rfl
        have z1 := hb2.cell 1 (v := .int .i64 0) rfl
        have f0 := hb2.fz 0
        have f1 := hb2.fz 1
        have g2 := hb2.lt
        have b2 : Below w.heap.size w w1 := Below.trans (by repeat (first | exact Below.refl _ _ | assumption | apply below_drewN' | apply Below.drew | refine Below.alloc ?_ (by first | omega | (simp; done) | (simp; omega)) _ | refine Below.setCell ?_ (by first | omega | (simp; done) | (simp; omega)) _)) (b1.mono (by simp; omega))
        go_wp2
        refine bodyPost_ret (v := .tuple #[.agg #[.int .i64 0, .int .i64 0], .bool false]) (by simp [results, Try.results41, go_sem, z0, z1]) rfl ⟨by rw [parseV_no e0.out, e0.out], (by repeat (first | exact Below.refl _ _ | assumption | apply below_drewN' | apply Below.drew | refine Below.alloc ?_ (by first | omega | (simp; done) | (simp; omega)) _ | refine Below.setCell ?_ (by first | omega | (simp; done) | (simp; omega)) _))⟩
      · have e0 := Lib.hid (show parseOk l = true by simp only [parseOk, hl, hp]; rfl)
        go_wp2_with fail
        refine (ref_may_is _ _ true _ hp).mono ?_
        rintro e w1 ⟨rfl, b1⟩
        have q1 := b1.size
        simp at q1
        have hb1 := (Blk.new w #[.int .i64 0, .int .i64 0] 49).alloc (.cells #[.int .i64 (rnumV (l.take 6)), .int .i64 (rnumV (l.drop 6))] 49)
        have hb2 := hb1.drew.below b1 (by simp; omega)
        have hb3 := (Blk.new2 w (.cells #[.int .i64 0, .int .i64 0] 49) #[.int .i64 (rnumV (l.take 6)), .int .i64 (rnumV (l.drop 6))] 49).drew.below b1 (by simp)
        have z0 := hb2.cell 0 (v := .int .i64 0) rfl
        have z1 := hb2.cell 1 (v := .int .i64 0) rfl
        have y0 := hb3.cell 0 (v := .int .i64 (rnumV (l.take 6))) rfl
        have y1 := hb3.cell 1 (v := .int .i64 (rnumV (l.drop 6))) rfl
        have f0 := hb2.fz 0
        have f1 := hb2.fz 1
        have g2 := hb2.lt
        have b2 : Below w.heap.size w w1 := Below.trans (by repeat (first | exact Below.refl _ _ | assumption | apply below_drewN' | apply Below.drew | refine Below.alloc ?_ (by first | omega | (simp; done) | (simp; omega)) _ | refine Below.setCell ?_ (by first | omega | (simp; done) | (simp; omega)) _)) (b1.mono (by simp; omega))
        go_wp2
        refine bodyPost_ret (v := .tuple #[.agg #[.int .i64 (rnumV (l.take 6)), .int .i64 (rnumV (l.drop 6))], .bool true]) (by simp [results, Try.results41, go_sem, z0, z1]) rfl ⟨by rw [parseV_yes e0.out, e0.out], (by repeat (first | exact Below.refl _ _ | assumption | apply below_drewN' | apply Below.drew | refine Below.alloc ?_ (by first | omega | (simp; done) | (simp; omega)) _ | refine Below.setCell ?_ (by first | omega | (simp; done) | (simp; omega)) _))⟩
  · have hl : (l.length == 12) = false := by rw [h.len, beq_eq_false_iff_ne]; exact hn
    have e0 : parseOk l = false := by simp only [parseOk, hl]; rfl
    rw [parseV_no e0, e0]
    have hne : ((n : Int) == 12) = false := by rw [beq_eq_false_iff_ne]; omega
    have hne2 : ((n : Int) != 12) = true := by rw [bne_iff_ne]; omega
    go_enter Try.func41, Try.ntmps41
    go_wp2
    refine bodyPost_ret (v := .tuple #[.agg #[.int .i64 0, .int .i64 0], .bool false]) (by simp [results, Try.results41, go_sem]) rfl ⟨rfl, (by repeat (first | exact Below.refl _ _ | assumption | apply below_drewN' | apply Below.drew | refine Below.alloc ?_ (by first | omega | (simp; done) | (simp; omega)) _ | refine Below.setCell ?_ (by first | omega | (simp; done) | (simp; omega)) _))⟩
end Go.Proofs.Ytplpidpbfljpnaa
