/- BucketWrites, BucketApart: the walks. -/
import Derived.Test.YtfldmejjepakeaaBkI
namespace Go.Proofs.Ytfldmejjepakeaa
open Go.ChangeShapes Go.WideShapes Go.ChangeAt Go.RowKit
open Go.ChangeMaps (open_string shut_string)
set_option linter.unusedVariables false
set_option linter.unusedSimpArgs false
set_option maxRecDepth 100000

set_option maxHeartbeats 4000000 in
theorem writes9 (z : Int) (A : Option Addr) (n c : Nat) (L : List BlkR) (A2 : Option Addr) (n2 c2 : Nat) (M : List BlkR) (w : World) (h : RK w A n c L) (h2 : RK w A2 n2 c2 M) :
    Calls Try.prog 5 #[.int .i64 z, .slice A n c, .slice A2 n2 c2] w fun e w' => e = .returned (.bool true) ∧ Below w.heap.size w w' := by
  go_enter Try.func5, Try.ntmps5
  go_wp2_with fail
  refine (first9_any _).mono ?_
  rintro e w2 ⟨rfl, bl⟩
  go_wp2_with fail
  refine (few9_any A n c L _ (h.below bl)).mono ?_
  rintro e w3 ⟨⟨b, rfl, hf⟩, e3⟩
  replace bl := Below.next bl e3 (Nat.le_refl _)
  clear e3
  cases b with
  | false => (go_wp2_with fail; refine (first9_any _).mono ?_; rintro e w9 ⟨rfl, b9⟩; go_wp2; go_ret; exact ⟨rfl, Below.next bl b9 (Nat.le_refl _)⟩)
  | true =>
  go_wp2_with fail
  refine (few9_any A2 n2 c2 M _ (h2.below bl)).mono ?_
  rintro e w4 ⟨⟨b, rfl, hf2⟩, e3⟩
  replace bl := Below.next bl e3 (Nat.le_refl _)
  clear e3
  cases b with
  | false => (go_wp2_with fail; refine (first9_any _).mono ?_; rintro e w9 ⟨rfl, b9⟩; go_wp2; go_ret; exact ⟨rfl, Below.next bl b9 (Nat.le_refl _)⟩)
  | true =>
  have hn := hf (by first | exact rfl | trivial)
  have hn2 := hf2 (by first | exact rfl | trivial)
  have hnH := Lib.hid hn
  have hn2H := Lib.hid hn2
  clear hf hf2 hn hn2
  have H1 := Lib.hid (fun w h => bucket_encode z A n c L w h)
  have H2 := Lib.hid (fun A c w (h : RK w A n c L) => ref_encodeB z A n c L w h)
  have H3 := Lib.hid (fun w h => plain9 A n c L w h hnH.out)
  have H4 := Lib.hid (fun w h => plain9 A2 n2 c2 M w h hn2H.out)
  have H5 := Lib.hid (fun w h => bucket_May A n c L w h)
  have H6 := Lib.hid (fun A c w (h : RK w A n c L) => ref_MayB A n c L w h)
  have H7 := Lib.hid (fun w h h2 => bucket_Same A n c L A2 n2 c2 M w h h2)
  have H8 := Lib.hid (fun A c A2 c2 w (h : RK w A n c L) (h2 : RK w A2 n2 c2 M) => ref_SameB A n c L A2 n2 c2 M w h h2)
  have H9 := Lib.hid (fun w => bucket_length z _ w rfl)
  have H10 := Lib.hid (fun w => ref_length z _ w rfl)
  generalize encKE z L = E at *
  generalize encKT z L = T at *
  generalize mayB L = Y at *
  generalize sameK L M = s at *
  generalize lenZ z = r at *
  obtain ⟨t, ht⟩ : ∃ t, T.length = t := ⟨_, rfl⟩
  have ht := Lib.hid ht
  go_wp2_with fail
  refine (H1.out _ (h.below bl)).mono ?_
  rintro e w5 ⟨v1, rfl, ho1, e3⟩
  replace bl := Below.next bl e3 (Nat.le_refl _)
  obtain ⟨A1, c1, rfl, hR1⟩ := OB.sl ho1 t ht.out
  clear ho1
  clear e3
  go_wp2_with fail
  refine (H3.out _ (h.below bl)).mono ?_
  rintro e w6 ⟨P1, k1, rfl, hp1, e3⟩
  replace bl := Below.next bl e3 (Nat.le_refl _)
  replace hR1 := hR1.below e3
  clear e3
  go_wp2_with fail
  refine (H2.out _ _ _ hp1).mono ?_
  rintro e w7 ⟨v2, rfl, ho2, e3⟩
  replace bl := Below.next bl e3 (Nat.le_refl _)
  replace hR1 := hR1.below e3
  obtain ⟨A3, c3, rfl, hR3⟩ := OB.sl ho2 t ht.out
  clear ho2 hp1
  clear e3
  go_wp2_with fail
  refine (first9_any _).mono ?_
  rintro e w8 ⟨rfl, e3⟩
  replace bl := Below.next bl e3 (Nat.le_refl _)
  replace hR1 := hR1.below e3
  replace hR3 := hR3.below e3
  clear e3
  have hb := ref_Bytes A1 A3 t c1 t c3 T T _ hR1 hR3
  rw [beq_self_eq_true] at hb
  go_wp2_with fail
  refine hb.mono ?_
  rintro e w9 ⟨rfl, rfl⟩
  clear hb hR1 hR3
  go_wp2_with fail
  refine (H5.out _ (h.below bl)).mono ?_
  rintro e w10 ⟨rfl, e3⟩
  replace bl := Below.next bl e3 (Nat.le_refl _)
  clear e3
  go_wp2_with fail
  refine (H3.out _ (h.below bl)).mono ?_
  rintro e w11 ⟨P2, k2, rfl, hp2, e3⟩
  replace bl := Below.next bl e3 (Nat.le_refl _)
  clear e3
  go_wp2_with fail
  refine (H6.out _ _ _ hp2).mono ?_
  rintro e w12 ⟨rfl, e3⟩
  replace bl := Below.next bl e3 (Nat.le_refl _)
  clear e3
  go_wp2_with fail
  refine (H9.out _).mono ?_
  rintro e w13 ⟨rfl, e3⟩
  replace bl := Below.next bl e3 (Nat.le_refl _)
  clear e3
  go_wp2_with fail
  refine (H10.out _).mono ?_
  rintro e w14 ⟨rfl, e3⟩
  replace bl := Below.next bl e3 (Nat.le_refl _)
  clear e3
  go_wp2_with fail
  refine (H7.out _ (h.below bl) (h2.below bl)).mono ?_
  rintro e w15 ⟨rfl, e3⟩
  replace bl := Below.next bl e3 (Nat.le_refl _)
  clear e3
  go_wp2_with fail
  refine (H3.out _ (h.below bl)).mono ?_
  rintro e w16 ⟨P3, k3, rfl, hp3, e3⟩
  replace bl := Below.next bl e3 (Nat.le_refl _)
  clear e3
  go_wp2_with fail
  refine (H4.out _ (h2.below bl)).mono ?_
  rintro e w17 ⟨P4, k4, rfl, hp4, e3⟩
  replace bl := Below.next bl e3 (Nat.le_refl _)
  replace hp3 := hp3.below e3
  clear e3
  go_wp2_with fail
  refine (H8.out _ _ _ _ _ hp3 hp4).mono ?_
  rintro e w18 ⟨rfl, e3⟩
  replace bl := Below.next bl e3 (Nat.le_refl _)
  clear e3
  go_wp2
  go_ret
  exact ⟨rfl, bl⟩
set_option maxHeartbeats 4000000 in
theorem apart9 (z : Int) (A : Option Addr) (n c : Nat) (L : List BlkR) (A2 : Option Addr) (n2 c2 : Nat) (M : List BlkR) (w : World) (h : RK w A n c L) (h2 : RK w A2 n2 c2 M) :
    Calls Try.prog 6 #[.int .i64 z, .slice A n c, .slice A2 n2 c2] w fun e w' => e = .returned (.bool true) ∧ Below w.heap.size w w' := by
  go_enter Try.func6, Try.ntmps6
  go_wp2_with fail
  refine (first9_any _).mono ?_
  rintro e w2 ⟨rfl, bl⟩
  go_wp2_with fail
  refine (few9_any A n c L _ (h.below bl)).mono ?_
  rintro e w3 ⟨⟨b, rfl, hf⟩, e3⟩
  replace bl := Below.next bl e3 (Nat.le_refl _)
  clear e3 hf
  cases b with
  | false => (go_wp2_with fail; refine (first9_any _).mono ?_; rintro e w9 ⟨rfl, b9⟩; go_wp2; go_ret; exact ⟨rfl, Below.next bl b9 (Nat.le_refl _)⟩)
  | true =>
  go_wp2_with fail
  refine (few9_any A2 n2 c2 M _ (h2.below bl)).mono ?_
  rintro e w4 ⟨⟨b, rfl, hf2⟩, e3⟩
  replace bl := Below.next bl e3 (Nat.le_refl _)
  clear e3 hf2
  cases b with
  | false => (go_wp2_with fail; refine (first9_any _).mono ?_; rintro e w9 ⟨rfl, b9⟩; go_wp2; go_ret; exact ⟨rfl, Below.next bl b9 (Nat.le_refl _)⟩)
  | true =>
  have H1 := Lib.hid (fun w h => bucket_encode z A n c L w h)
  have H2 := Lib.hid (fun w h => bucket_encode z A2 n2 c2 M w h)
  have H7 := Lib.hid (fun w h h2 => bucket_Same A n c L A2 n2 c2 M w h h2)
  have H9 := Lib.hid (fun w => bucket_length z _ w rfl)
  have P1 := Lib.hid (fun (e : encKE z L = 0) => encK_len e)
  have P2 := Lib.hid (fun (e : encKE z M = 0) => encK_len e)
  have P3 := Lib.hid (fun (e : encKE z L = 0) (e' : encKE z M = 0) => encK_inj e e')
  generalize encKE z L = E at *
  generalize encKT z L = T at *
  generalize encKE z M = E2 at *
  generalize encKT z M = T2 at *
  generalize sameK L M = s at *
  generalize lenZ z = r at *
  obtain ⟨t, ht⟩ : ∃ t, T.length = t := ⟨_, rfl⟩
  have ht := Lib.hid ht
  obtain ⟨t2, ht2⟩ : ∃ t, T2.length = t := ⟨_, rfl⟩
  have ht2 := Lib.hid ht2
  go_wp2_with fail
  refine (H1.out _ (h.below bl)).mono ?_
  rintro e w5 ⟨v1, rfl, ho1, e3⟩
  replace bl := Below.next bl e3 (Nat.le_refl _)
  obtain ⟨A1, c1, rfl, hR1⟩ := OB.sl ho1 t ht.out
  clear ho1
  clear e3
  go_wp2_with fail
  refine (H2.out _ (h2.below bl)).mono ?_
  rintro e w6 ⟨v2, rfl, ho2, e3⟩
  replace bl := Below.next bl e3 (Nat.le_refl _)
  replace hR1 := hR1.below e3
  obtain ⟨A3, c3, rfl, hR3⟩ := OB.sl ho2 t2 ht2.out
  clear ho2
  clear e3
  by_cases e0 : E = 0
  rotate_left
  · have f0 : (E != 0) = true := by rw [bne_iff_ne]; exact e0
    (go_wp2_with fail; refine (first9_any _).mono ?_; rintro e w9 ⟨rfl, b9⟩; go_wp2; go_ret; exact ⟨rfl, Below.next bl b9 (Nat.le_refl _)⟩)
  subst e0
  by_cases e0 : E2 = 0
  rotate_left
  · have f0 : (E2 != 0) = true := by rw [bne_iff_ne]; exact e0
    (go_wp2_with fail; refine (first9_any _).mono ?_; rintro e w9 ⟨rfl, b9⟩; go_wp2; go_ret; exact ⟨rfl, Below.next bl b9 (Nat.le_refl _)⟩)
  subst e0
  obtain ⟨q1, q2⟩ := P1.out rfl
  obtain ⟨q3, _⟩ := P2.out rfl
  have q4 := Lib.hid (P3.out rfl rfl)
  obtain rfl : t = t2 := by rw [← ht.out, ← ht2.out, q1, q3]
  obtain rfl : r = (t : Int) := by rw [q2, ← ht.out, q1]
  clear q1 q2 q3
  have hb := Lib.hid (fun w h h' => q4.out ▸ ref_Bytes A1 A3 t c1 t c3 T T2 w h h')
  go_wp2_with fail
  refine (first9_any _).mono ?_
  rintro e w8 ⟨rfl, e3⟩
  replace bl := Below.next bl e3 (Nat.le_refl _)
  replace hR1 := hR1.below e3
  replace hR3 := hR3.below e3
  clear e3
  go_wp2_with fail
  refine (H9.out _).mono ?_
  rintro e w13 ⟨rfl, e3⟩
  replace bl := Below.next bl e3 (Nat.le_refl _)
  replace hR1 := hR1.below e3
  replace hR3 := hR3.below e3
  clear e3
  go_wp2_with fail
  refine (hb.out _ hR1 hR3).mono ?_
  rintro e w9 ⟨rfl, rfl⟩
  go_wp2_with fail
  refine (H7.out _ (h.below bl) (h2.below bl)).mono ?_
  rintro e w15 ⟨rfl, e3⟩
  replace bl := Below.next bl e3 (Nat.le_refl _)
  clear e3
  go_wp2
  go_ret
  exact ⟨rfl, bl⟩
end Go.Proofs.Ytfldmejjepakeaa
