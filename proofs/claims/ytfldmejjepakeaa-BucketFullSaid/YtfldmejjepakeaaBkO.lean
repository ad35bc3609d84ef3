/- BucketReads, BucketBack: the walks. -/
import Derived.Test.YtfldmejjepakeaaBkM
import Derived.Test.YtfldmejjepakeaaBkJ
namespace Go.Proofs.Ytfldmejjepakeaa
open Go.ChangeShapes Go.WideShapes Go.ChangeAt Go.RowKit
open Go.ChangeMaps (open_string shut_string)
set_option linter.unusedVariables false
set_option linter.unusedSimpArgs false
set_option maxRecDepth 100000

theorem IsK.facts {z : Int} {b : List UInt8} {L : List BlkR} (h : IsK z b L) : mayB L = true ∧ (L.length : Int) ≤ z ∧ L.length ≤ 4 ∧ lenZ z = (b.length : Int) ∧ b.length ≤ 152 := by
  obtain ⟨h1, h2, h3⟩ := encKE_zero h.1
  have hz := mayZ_true h1
  have h4 := encK_len h.1
  rw [h.2] at h4
  exact ⟨h2, h3, by omega, by rw [h4.2, h4.1], by rw [h4.1]; omega⟩
theorem decK_len (z : Int) (b : List UInt8) : (decK z b).1.length ≤ 4 := by
  rcases decK_cases z b with ⟨L, h, e⟩ | ⟨_, e⟩
  · rw [e]; exact h.facts.2.2.1
  · rw [e]; simp
set_option maxHeartbeats 4000000 in
theorem reads9 (z : Int) (A : Option Addr) (n c : Nat) (b : List UInt8) (w : World) (h : RB w A n c b) :
    Calls Try.prog 10 #[.int .i64 z, .slice A n c] w fun e w' => e = .returned (.bool true) ∧ Below w.heap.size w w' := by
  have hnm : n ≤ maxLen := Nat.le_trans h.cap h.max
  unfold maxLen at hnm
  go_enter Try.func10, Try.ntmps10
  go_wp2_with fail
  refine (first9_any _).mono ?_
  rintro e w2 ⟨rfl, bl⟩
  by_cases hn : 2000 < n
  · have hn2 : (2000 : Int) < (n : Int) := by omega
    (go_wp2_with fail; refine (first9_any _).mono ?_; rintro e w9 ⟨rfl, b9⟩; go_wp2; go_ret; exact ⟨rfl, Below.next bl b9 (Nat.le_refl _)⟩)
  have hn2 : ¬ (2000 : Int) < (n : Int) := by omega
  have H1 := Lib.hid (fun w h => bucket_decode z A n c b w h (by omega))
  have H2 := Lib.hid (fun w h => ref_decodeB z A n c b w h (by omega))
  have hdl := decK_len z b
  generalize (decK z b).1 = L at *
  generalize (decK z b).2 = E at *
  obtain ⟨m, hm⟩ : ∃ m, L.length = m := ⟨_, rfl⟩
  have hdl2 := Lib.hid (show m ≤ 200 by omega)
  have hm := Lib.hid hm
  clear hdl
  go_wp2_with fail
  refine (H1.out _ (h.below bl)).mono ?_
  rintro e w5 ⟨v1, rfl, ho1, e3⟩
  replace bl := Below.next bl e3 (Nat.le_refl _)
  obtain ⟨A1, c1, rfl, hR1⟩ := ho1.sl m hm.out
  clear ho1
  clear e3
  go_wp2_with fail
  refine (H2.out _ (h.below bl)).mono ?_
  rintro e w6 ⟨v2, rfl, ho2, e3⟩
  replace bl := Below.next bl e3 (Nat.le_refl _)
  replace hR1 := hR1.below e3
  obtain ⟨A2, c2, rfl, hR2⟩ := ho2.sl m hm.out
  clear ho2
  clear e3
  have H3 := Lib.hid (fun w h => plain9 A1 m c1 L w h hdl2.out)
  have H4 := Lib.hid (fun P k w (h : RK w P m k L) (h2 : RK w A2 m c2 L) => (show Calls Try.prog 31 #[.slice P m k, .slice A2 m c2] w fun e w' => e = .returned (.bool true) ∧ Below w.heap.size w w' from by have := ref_SameB P m k L A2 m c2 L w h h2; rw [sameK_iff.2 rfl] at this; exact this))
  go_wp2_with fail
  refine (first9_any _).mono ?_
  rintro e w7 ⟨rfl, e3⟩
  replace bl := Below.next bl e3 (Nat.le_refl _)
  replace hR1 := hR1.below e3
  replace hR2 := hR2.below e3
  clear e3
  go_wp2_with fail
  refine (H3.out _ hR1).mono ?_
  rintro e w8 ⟨P, k, rfl, hp, e3⟩
  replace bl := Below.next bl e3 (Nat.le_refl _)
  replace hR2 := hR2.below e3
  clear e3
  go_wp2_with fail
  refine (H4.out _ _ _ hp hR2).mono ?_
  rintro e w9 ⟨rfl, e3⟩
  replace bl := Below.next bl e3 (Nat.le_refl _)
  clear e3
  go_wp2
  go_ret
  exact ⟨rfl, bl⟩
set_option maxHeartbeats 8000000 in
theorem back9 (z : Int) (A : Option Addr) (n c : Nat) (L : List BlkR) (A2 : Option Addr) (n2 c2 : Nat) (b : List UInt8) (w : World) (h : RK w A n c L) (h2 : RB w A2 n2 c2 b) :
    Calls Try.prog 11 #[.int .i64 z, .slice A n c, .slice A2 n2 c2] w fun e w' => e = .returned (.bool true) ∧ Below w.heap.size w w' := by
  have hnm : n2 ≤ maxLen := Nat.le_trans h2.cap h2.max
  unfold maxLen at hnm
  go_enter Try.func11, Try.ntmps11
  go_wp2_with fail
  refine (first9_any _).mono ?_
  rintro e w2 ⟨rfl, bl⟩
  go_wp2_with fail
  refine (few9_any A n c L _ (h.below bl)).mono ?_
  rintro e w3 ⟨⟨f, rfl, hf⟩, e3⟩
  replace bl := Below.next bl e3 (Nat.le_refl _)
  clear e3 hf
  cases f with
  | false => (go_wp2_with fail; refine (first9_any _).mono ?_; rintro e w9 ⟨rfl, b9⟩; go_wp2; go_ret; exact ⟨rfl, Below.next bl b9 (Nat.le_refl _)⟩)
  | true =>
  by_cases hn : 2000 < n2
  · have hn2 : (2000 : Int) < (n2 : Int) := by omega
    (go_wp2_with fail; refine (first9_any _).mono ?_; rintro e w9 ⟨rfl, b9⟩; go_wp2; go_ret; exact ⟨rfl, Below.next bl b9 (Nat.le_refl _)⟩)
  have hn2 : ¬ (2000 : Int) < (n2 : Int) := by omega
  have hb2 := Lib.hid h2.len
  have H1 := Lib.hid (fun w h => bucket_encode z A n c L w h)
  have H2 := Lib.hid (fun w h => bucket_decode z A2 n2 c2 b w h (by omega))
  have hLz := Lib.hid (fun (e : encKE z L = 0) => IsK.facts (⟨e, rfl⟩ : IsK z (encKT z L) L))
  have hLd := Lib.hid (fun (e : encKE z L = 0) => decK_yes (⟨e, rfl⟩ : IsK z (encKT z L) L))
  generalize encKE z L = E at *
  generalize encKT z L = T at *
  obtain ⟨t, ht⟩ : ∃ t, T.length = t := ⟨_, rfl⟩
  have ht := Lib.hid ht
  go_wp2_with fail
  refine (H1.out _ (h.below bl)).mono ?_
  rintro e w5 ⟨v1, rfl, ho1, e3⟩
  replace bl := Below.next bl e3 (Nat.le_refl _)
  obtain ⟨A1, c1, rfl, hR1⟩ := OB.sl ho1 t ht.out
  clear ho1 H1
  clear e3
  by_cases e0 : E = 0
  rotate_left
  · have f0 : (E == 0) = false := by rw [beq_eq_false_iff_ne]; exact e0
    clear hLz hLd
    go_wp2_with fail
    refine (H2.out _ (h2.below bl)).mono ?_
    rintro e w6 ⟨v2, rfl, ho2, e3⟩
    replace bl := Below.next bl e3 (Nat.le_refl _)
    clear e3
    rcases decK_cases z b with ⟨M, hM, hd⟩ | ⟨_, hd⟩
    rotate_left
    · rw [hd] at ho2 ⊢
      obtain ⟨A5, c5, rfl, _⟩ := ho2.sl 0 rfl
      clear hd ho2
      obtain ⟨q, hq, hq1⟩ : ∃ q : Int, (if mayZ z = true then (2 : Int) else 1) = q ∧ q ≠ 0 := ⟨_, rfl, by split <;> decide⟩
      simp only [hq]
      have hq2 : (q != 0) = true := by rw [bne_iff_ne]; exact hq1
      clear hq
      (go_wp2_with fail; refine (first9_any _).mono ?_; rintro e w9 ⟨rfl, b9⟩; go_wp2; go_ret; exact ⟨rfl, Below.next bl b9 (Nat.le_refl _)⟩)
    rw [hd] at ho2 ⊢
    simp only at ho2 ⊢
    obtain ⟨hf1, hf2, hf3, hf4, _⟩ := hM.facts
    obtain ⟨m, hm⟩ : ∃ m, M.length = m := ⟨_, rfl⟩
    rw [hm] at hf2 hf3
    obtain ⟨A5, c5, rfl, hR5⟩ := ho2.sl m hm
    have H5 := Lib.hid (fun w (h : RK w A5 m c5 M) => (show Calls Try.prog 23 #[.int .i64 z, .slice A5 m c5] w fun e w' => ∃ v, e = .returned (.tuple #[v, .int .i64 0]) ∧ OB w' w.heap.size v b ∧ Below w.heap.size w w' from by have := bucket_encode z A5 m c5 M w h; rw [hM.1, hM.2] at this; exact this))
    have H6 := Lib.hid (fun w (h : RK w A5 m c5 M) => hf1 ▸ bucket_May A5 m c5 M w h)
    have hmH := Lib.hid hm
    clear hd ho2 hf1 hf4 hm H2
    go_wp2_with fail
    refine (H5.out _ hR5).mono ?_
    rintro e w7 ⟨v7, rfl, ho7, e3⟩
    replace bl := Below.next bl e3 (Nat.le_refl _)
    replace hR5 := hR5.below e3
    obtain ⟨A7, c7, rfl, hR7⟩ := OB.sl ho7 n2 hb2.out
    clear ho7
    clear e3
    go_wp2_with fail
    refine (first9_any _).mono ?_
    rintro e w8 ⟨rfl, e3⟩
    replace bl := Below.next bl e3 (Nat.le_refl _)
    replace hR5 := hR5.below e3
    replace hR7 := hR7.below e3
    clear e3
    have hB := ref_Bytes A7 A2 n2 c7 n2 c2 b b _ hR7 (h2.below bl)
    rw [beq_self_eq_true] at hB
    go_wp2_with fail
    refine hB.mono ?_
    rintro e w9 ⟨rfl, rfl⟩
    clear hB hR7
    go_wp2_with fail
    refine (H6.out _ hR5).mono ?_
    rintro e w10 ⟨rfl, e3⟩
    replace bl := Below.next bl e3 (Nat.le_refl _)
    clear e3
    go_wp2
    go_ret
    exact ⟨rfl, bl⟩
  subst e0
  replace hLz := Lib.hid (hLz.out rfl)
  replace hLd := Lib.hid (hLd.out rfl)
  have H3 := Lib.hid (fun w (h : RB w A1 t c1 T) => (show Calls Try.prog 43 #[.int .i64 z, .slice A1 t c1] w fun e w' => ∃ v, e = .returned (.tuple #[v, .int .i64 0]) ∧ OK 70 w.heap.size w' v L ∧ Below w.heap.size w w' from by have := bucket_decode z A1 t c1 T w h (by rw [← ht.out]; have := hLz.out.2.2.2.2; omega); rw [hLd.out] at this; exact this))
  have hln := h.len
  go_wp2_with fail
  refine (H3.out _ hR1).mono ?_
  rintro e w6 ⟨v6, rfl, ho6, e3⟩
  replace bl := Below.next bl e3 (Nat.le_refl _)
  replace hR1 := hR1.below e3
  obtain ⟨A6, c6, rfl, hR6⟩ := ho6.sl n hln
  clear ho6
  clear e3
  have H4 := Lib.hid (fun w (h : RK w A n c L) (h2 : RK w A6 n c6 L) => (show Calls Try.prog 30 #[.slice A n c, .slice A6 n c6] w fun e w' => e = .returned (.bool true) ∧ Below w.heap.size w w' from by have := bucket_Same A n c L A6 n c6 L w h h2; rw [sameK_iff.2 rfl] at this; exact this))
  have H9 := Lib.hid (fun w => bucket_length z (t : Int) w (by rw [← ht.out]; exact hLz.out.2.2.2.1))
  go_wp2_with fail
  refine (H4.out _ (h.below bl) hR6).mono ?_
  rintro e w7 ⟨rfl, e3⟩
  replace bl := Below.next bl e3 (Nat.le_refl _)
  clear e3
  go_wp2_with fail
  refine (H9.out _).mono ?_
  rintro e w8 ⟨rfl, e3⟩
  replace bl := Below.next bl e3 (Nat.le_refl _)
  clear e3
  clear hR1 hR6 H3 H4 H9
  go_wp2_with fail
  refine (H2.out _ (h2.below bl)).mono ?_
  rintro e w6 ⟨v2, rfl, ho2, e3⟩
  replace bl := Below.next bl e3 (Nat.le_refl _)
  clear e3
  rcases decK_cases z b with ⟨M, hM, hd⟩ | ⟨_, hd⟩
  rotate_left
  · rw [hd] at ho2 ⊢
    obtain ⟨A5, c5, rfl, _⟩ := ho2.sl 0 rfl
    clear hd ho2
    obtain ⟨q, hq, hq1⟩ : ∃ q : Int, (if mayZ z = true then (2 : Int) else 1) = q ∧ q ≠ 0 := ⟨_, rfl, by split <;> decide⟩
    simp only [hq]
    have hq2 : (q != 0) = true := by rw [bne_iff_ne]; exact hq1
    clear hq
    (go_wp2_with fail; refine (first9_any _).mono ?_; rintro e w9 ⟨rfl, b9⟩; go_wp2; go_ret; exact ⟨rfl, Below.next bl b9 (Nat.le_refl _)⟩)
  rw [hd] at ho2 ⊢
  simp only at ho2 ⊢
  obtain ⟨hf1, hf2, hf3, hf4, _⟩ := hM.facts
  obtain ⟨m, hm⟩ : ∃ m, M.length = m := ⟨_, rfl⟩
  rw [hm] at hf2 hf3
  obtain ⟨A5, c5, rfl, hR5⟩ := ho2.sl m hm
  have H5 := Lib.hid (fun w (h : RK w A5 m c5 M) => (show Calls Try.prog 23 #[.int .i64 z, .slice A5 m c5] w fun e w' => ∃ v, e = .returned (.tuple #[v, .int .i64 0]) ∧ OB w' w.heap.size v b ∧ Below w.heap.size w w' from by have := bucket_encode z A5 m c5 M w h; rw [hM.1, hM.2] at this; exact this))
  have H6 := Lib.hid (fun w (h : RK w A5 m c5 M) => hf1 ▸ bucket_May A5 m c5 M w h)
  have hmH := Lib.hid hm
  clear hd ho2 hf1 hf4 hm H2
  go_wp2_with fail
  refine (H5.out _ hR5).mono ?_
  rintro e w7 ⟨v7, rfl, ho7, e3⟩
  replace bl := Below.next bl e3 (Nat.le_refl _)
  replace hR5 := hR5.below e3
  obtain ⟨A7, c7, rfl, hR7⟩ := OB.sl ho7 n2 hb2.out
  clear ho7
  clear e3
  go_wp2_with fail
  refine (first9_any _).mono ?_
  rintro e w8 ⟨rfl, e3⟩
  replace bl := Below.next bl e3 (Nat.le_refl _)
  replace hR5 := hR5.below e3
  replace hR7 := hR7.below e3
  clear e3
  have hB := ref_Bytes A7 A2 n2 c7 n2 c2 b b _ hR7 (h2.below bl)
  rw [beq_self_eq_true] at hB
  go_wp2_with fail
  refine hB.mono ?_
  rintro e w9 ⟨rfl, rfl⟩
  clear hB hR7
  go_wp2_with fail
  refine (H6.out _ hR5).mono ?_
  rintro e w10 ⟨rfl, e3⟩
  replace bl := Below.next bl e3 (Nat.le_refl _)
  clear e3
  go_wp2
  go_ret
  exact ⟨rfl, bl⟩
end Go.Proofs.Ytfldmejjepakeaa
