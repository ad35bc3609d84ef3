/- Contracts of nonces: Bytes, Parse, Less, and the document's. -/
import Derived.Test.YtplpidpbfljpnaaRef2
import Derived.Test.YtplpidpbfljpnaaSlab2
import Derived.Test.YtplpidpbfljpnaaNonce
namespace Go.Proofs.Ytplpidpbfljpnaa
open Go.ChangeShapes Go.WideShapes Go.ChangeAt Go.RowKit
open Go.ChangeMaps (open_string shut_string)
set_option linter.unusedVariables false
set_option linter.unusedSimpArgs false

/-- Several numbers, one behind the other; those that may not be are passed over. -/
def numsP (width : Int) : List UInt8 → List Int → List UInt8
  | l, [] => l
  | l, n :: ns => numsP width (numL l false width n) ns

set_option maxHeartbeats 1000000 in
theorem nums_any (B : Nat) (v : Value) (l : List UInt8) (width : Int) (ns : List Int) (A : Option Addr) (m c : Nat) (w : World) (h : OB w B v l) (hB : B ≤ w.heap.size) (hr : RI w A m c ns)
    (hsep : 0 < m → ∀ a, A = some a → v.ownBlock ≠ some a.block ∧ a.block < w.heap.size) (hl : l.length + 7 * m ≤ 1099511627776) :
    Calls Try.prog 51 #[v, .int .i64 width, .slice A m c] w fun e w' => ∃ v', e = .returned v' ∧ OB w' B v' (numsP width l ns) ∧ Gr w w' v v' := by
  obtain ⟨A0, c0, rfl, hc0, hm0⟩ := h.form
  have hm := hr.max
  have hmc := hr.cap
  unfold maxLen at hm
  have hlen := Lib.hid hr.len
  go_enter Try.func51, Try.ntmps51
  go_wp2
  go_loopw [0, 7] (fun b i wr => ∃ (j : Nat) (l' : List UInt8), j ≤ m ∧ i = .int .i64 j ∧ OB wr B b l' ∧ Gr w wr (.slice A0 l.length c0) b ∧ l'.length ≤ l.length + 7 * j ∧ Hid (numsP width l' (ns.drop j) = numsP width l ns)) (fun _ i _ => m - (intOf i).toNat)
  case atStart => exact ⟨0, l, by omega, rfl, h, Gr.refl _ _, by omega, rfl⟩
  case round =>
    obtain ⟨j, l', hj, rfl, hob, hgr, hll, hns⟩ := hrel
    obtain ⟨A1, c1, rfl, hc1, hm1⟩ := hob.form
    by_cases hlt : j < m
    · obtain ⟨g, o, rfl, hc⟩ := hr.at_ (by omega)
      have hs := hsep (by omega) _ rfl
      have hjn : j < ns.length := by rw [hlen.out]; exact hlt
      have hcell : wr.cell? ⟨g, o + j, none⟩ = some (.int .i64 ns[j]) := (World.cell?_of_block (w := w) (hgr.keeps.block g hs.2 hs.1)).trans (hc j _ (List.getElem?_eq_getElem hjn))
      have hdrop := Lib.hid (List.drop_eq_getElem_cons hjn)
      obtain ⟨x, hx⟩ : ∃ x, x = ns[j] := ⟨_, rfl⟩
      rw [← hx] at hcell
      have Hx := Lib.hid hx
      clear hx hc
      go_wp2_with fail
      refine (put_any B _ l' width x _ hob (Nat.le_trans hB hgr.keeps.size) (by omega)).mono ?_
      rintro e w2 ⟨v2, rfl, ho2, hg2⟩
      have hl2 := numL_length l' false width x
      have hgr2 := hgr.trans hg2
      go_wp2
      go_roundw
      case rel => exact ⟨j + 1, _, by omega, by go_num, ho2, hgr2, by omega, by have := hns.out; rw [hdrop.out, ← Hx.out] at this; exact this⟩
      case measure => simp [intOf]; omega
    · obtain rfl : j = m := by omega
      have hd : ns.drop j = [] := List.drop_eq_nil_of_le (by rw [hlen.out]; exact Nat.le_refl _)
      have hns' := hns.out
      rw [hd] at hns'
      have HN := Lib.hid hns'
      clear hd hns hns'
      go_wp2
      go_ret
      refine ⟨_, rfl, ?_, hgr⟩
      rw [← HN.out]
      exact hob

/-- A nonce's twelve bytes. -/
def nonceB (gen count : Int) : List UInt8 := if amongB gen && amongB count then be 6 gen ++ be 6 count else List.replicate 12 0

theorem good6 (n : Int) (h : amongB n = true) : badNum 6 n = false := by
  simp [amongB] at h
  have e : topW (Int.toNat 6) = 281474976710655 := by simp [topW]
  simp only [badNum, e, mayW]
  simp
  omega

theorem numsL_nonce (gen count : Int) (h1 : amongB gen = true) (h2 : amongB count = true) : numsL [] false 6 [gen, count] = (be 6 gen ++ be 6 count, false) := by
  simp [numsL, numL, good6 _ h1, good6 _ h2]
theorem numsP_nonce (gen count : Int) (h1 : amongB gen = true) (h2 : amongB count = true) : numsP 6 [] [gen, count] = be 6 gen ++ be 6 count := by
  simp [numsP, numL, good6 _ h1, good6 _ h2]
theorem nonceB_length (gen count : Int) : (nonceB gen count).length = 12 := by
  unfold nonceB; split <;> simp [be_length]

theorem may_calls (gen count : Int) (w : World) : Calls Try.prog 17 #[.agg #[.int .i64 gen, .int .i64 count]] w fun e w' => e = .returned (.bool (amongB gen && amongB count)) ∧ Below w.heap.size w w' := by
  rcases h : amongB gen with _ | _
  all_goals
    go_enter Try.func17, Try.ntmps17
    go_wp2_with (go_at_call 44; refine (among_calls _ _).mono ?_; rintro e w' ⟨rfl, rfl⟩)
    go_ret
    exact ⟨by simp, (by repeat (first | exact Below.refl _ _ | assumption | apply below_drewN' | apply Below.drew | refine Below.alloc ?_ (by first | omega | (simp; done) | (simp; omega)) _ | refine Below.setCell ?_ (by first | omega | (simp; done) | (simp; omega)) _))⟩
theorem may_is (gen count : Int) (b : Bool) (w : World) (h : (amongB gen && amongB count) = b) : Calls Try.prog 17 #[.agg #[.int .i64 gen, .int .i64 count]] w fun e w' => e = .returned (.bool b) ∧ Below w.heap.size w w' := by
  have := may_calls gen count w
  rw [h] at this
  exact this

set_option maxRecDepth 100000 in
theorem nonce_bytes (gen count : Int) (w : World) : Calls Try.prog 34 #[.agg #[.int .i64 gen, .int .i64 count]] w fun e w' => ∃ v, e = .returned v ∧ OB w' w.heap.size v (nonceB gen count) ∧ Below w.heap.size w w' := by
  rcases h : (amongB gen && amongB count) with _ | _
  · have hB : nonceB gen count = List.replicate 12 0 := by simp only [nonceB, h]; rfl
    rw [hB]
    have hmk : ∀ w, (Instr.makeSlice 41 (.int .i64 12) (.int .i64 12)).run Try.prog w = .ok (.slice (some ⟨w.heap.size, 0, none⟩) 12 12) (w.alloc (.cells (bcells (List.replicate 12 0)) 5)) := fun w => run_mk w 12 (by omega)
    go_enter Try.func34, Try.ntmps34
    go_wp2_with fail
    refine (may_is _ _ false _ h).mono ?_
    rintro e w1 ⟨rfl, b1⟩
    have b2 : Below w.heap.size w w1 := ((Below.refl w.heap.size w).alloc (Nat.le_refl _) _).trans (b1.mono (by simp))
    have q2 := b2.size
    go_wp2
    go_ret
    exact ⟨_, rfl, OB.of_row (l := List.replicate 12 0) (Blk.new w1 _ _) (by unfold maxLen; simp) q2, (by repeat (first | exact Below.refl _ _ | assumption | apply below_drewN' | apply Below.drew | refine Below.alloc ?_ (by first | omega | (simp; done) | (simp; omega)) _ | refine Below.setCell ?_ (by first | omega | (simp; done) | (simp; omega)) _))⟩
  · have hB : nonceB gen count = be 6 gen ++ be 6 count := by simp only [nonceB, h]; rfl
    rw [hB]
    have h1 : amongB gen = true := by simp at h; exact h.1
    have h2 : amongB count = true := by simp at h; exact h.2
    have hn := numsL_nonce gen count h1 h2
    have hl : (be 6 gen ++ be 6 count).length = 12 := by simp [be_length]
    have hf : fill (be 6 gen ++ be 6 count) 12 = be 6 gen ++ be 6 count := by simp [fill, hl]; exact List.take_of_length_le (by rw [hl]; exact Nat.le_refl _)
    obtain ⟨l, hl0⟩ : ∃ l, be 6 gen ++ be 6 count = l := ⟨_, rfl⟩
    rw [hl0] at hn hl hf ⊢
    have HN := Lib.hid hn
    have HL := Lib.hid hl
    have HF := Lib.hid hf
    clear hB hn hl hf hl0 h1 h2
    go_enter Try.func34, Try.ntmps34
    go_wp2_with fail
    refine (may_is _ _ true _ h).mono ?_
    rintro e w1 ⟨rfl, b1⟩
    have b2 : Below w.heap.size w w1 := ((Below.refl w.heap.size w).alloc (Nat.le_refl _) _).trans (b1.mono (by simp))
    have q2 := b2.size
    have hn1 := (Blk.new w #[.int .i64 gen, .int .i64 count] 27).below b1 (by simp)
    have d0 := hn1.cell 0 (v := .int .i64 gen) rfl
    have d1 := hn1.cell 1 (v := .int .i64 count) rfl
    have g1 := hn1.lt
    go_wp2_with fail
    have hw : Wr (w1.alloc (.cells #[.slice none 0 0, .bool false] 76)) w1.heap.size (.slice none 0 0) [] false := ⟨Blk.new _ _ _, OB.nil _ _, by simp [Value.ownBlock]⟩
    have hi := RI.of_blk (l := [gen, count]) (n := 2) (Blk.new2 w1 (.cells #[.slice none 0 0, .bool false] 76) #[.int .i64 gen, .int .i64 count] 3) rfl rfl (by unfold maxLen; omega)
    refine (Num_any w1.heap.size (.slice none 0 0) [] false 6 [gen, count] (some ⟨w1.heap.size + 1, 0, none⟩) 2 2 _ (hw.alloc _) hi (fun _ a ha => by injection ha with ha; subst ha; simp [Value.ownBlock]) (by simp)).mono ?_
    rintro e w3 ⟨rfl, v3, hw3, hs3⟩
    have e3 : (false || !mayW 6) = false := by decide
    rw [e3, HN.out] at hw3
    have b3 : Below w.heap.size w w3 := ((b2.alloc q2 _).alloc (by simp; omega) _).keeps hs3.keeps (by rintro i hi (h | h); omega; simp [Value.ownBlock] at h) (Nat.le_refl _)
    have q3 := b3.size
    go_wp2_with fail
    refine (sealed_ok _ _ l 12 _ hw3 (by omega) (by rw [HL.out]; exact Nat.le_refl _)).mono ?_
    rintro e w4 ⟨rfl, hb4, b4⟩
    rw [HF.out] at hb4
    have b5 := b3.trans (b4.mono q3)
    go_wp2
    go_ret
    refine ⟨_, rfl, ?_, b5⟩
    have := OB.of_row (B := w.heap.size) hb4 (by rw [HL.out]; unfold maxLen; omega) q3
    rw [HL.out] at this
    exact this
end Go.Proofs.Ytplpidpbfljpnaa
