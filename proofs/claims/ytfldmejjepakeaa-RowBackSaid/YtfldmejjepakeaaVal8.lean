/- Contracts of values: the document's Key. -/
import Derived.Test.YtfldmejjepakeaaVal7
namespace Go.Proofs.Ytfldmejjepakeaa
open Go.ChangeShapes Go.WideShapes Go.ChangeAt Go.RowKit
open Go.ChangeMaps (open_string shut_string)
set_option linter.unusedVariables false
set_option linter.unusedSimpArgs false
set_option maxRecDepth 100000

set_option maxRecDepth 100000 in
theorem rkey_no (t k n : Int) (l : List UInt8) (w : World) (hm : (tabB t && mayV k n l) = false) :
    Calls Try.prog 62 #[.int .i64 t, .agg #[.int .i64 (k), .int .i64 (n), .string (str (l))]] w fun e w' => e = .returned (.tuple #[.string (str []), .int .i64 (keyE t k n l)]) ∧ Below w.heap.size w w' := by
  by_cases h0 : t < 0
  · have hE : keyE t k n l = 1 := by have : tabB t = false := by (simp [tabB]; omega)
                                     simp [keyE, this]
    rw [hE]
    go_enter Try.func62, Try.ntmps62
    go_wp2
    go_ret2
    exact ⟨rfl, (by repeat (first | exact Below.refl _ _ | assumption | apply below_drewN' | apply Below.drew | refine Below.alloc ?_ (by first | omega | (simp; done) | (simp; omega)) _ | refine Below.setCell ?_ (by first | omega | (simp; done) | (simp; omega)) _))⟩
  · by_cases h1 : 4 ≤ t
    · have hE : keyE t k n l = 1 := by have : tabB t = false := by (simp [tabB]; omega)
                                       simp [keyE, this]
      rw [hE]
      go_enter Try.func62, Try.ntmps62
      go_wp2
      go_ret2
      exact ⟨rfl, (by repeat (first | exact Below.refl _ _ | assumption | apply below_drewN' | apply Below.drew | refine Below.alloc ?_ (by first | omega | (simp; done) | (simp; omega)) _ | refine Below.setCell ?_ (by first | omega | (simp; done) | (simp; omega)) _))⟩
    · have ht : tabB t = true := by simp [tabB]; omega
      have hm2 : mayV k n l = false := by rw [ht] at hm; simpa using hm
      have hE : keyE t k n l = 12 := by simp [keyE, ht, hm2]
      rw [hE]
      go_enter Try.func62, Try.ntmps62
      go_wp2_with (go_at_call 66; refine (refmay_is _ _ _ _ _ hm2).mono ?_; rintro e w1 ⟨rfl, hb⟩)
      go_ret2
      exact ⟨rfl, ((Below.refl w.heap.size w).alloc (Nat.le_refl _) _).trans (hb.mono (by simp))⟩

set_option maxHeartbeats 2000000 in
set_option maxRecDepth 100000 in
theorem rkey_int (m : Nat) (n : Int) (l : List UInt8) (w : World) (hm4 : m < 4) (hm : mayV 1 n l = true) :
    Calls Try.prog 62 #[.int .i64 m, .agg #[.int .i64 (1), .int .i64 (n), .string (str (l))]] w fun e w' => e = .returned (.tuple #[.string (str (keyB m 1 n l)), .int .i64 0]) ∧ Below w.heap.size w w' := by
  have hbx := Blk.new w #[.int .i64 (1), .int .i64 (n), .string (str (l))] 51
  have hbl : Below w.heap.size w (w.alloc (.cells #[.int .i64 (1), .int .i64 (n), .string (str (l))] 51)) := (by repeat (first | exact Below.refl _ _ | assumption | apply below_drewN' | apply Below.drew | refine Below.alloc ?_ (by first | omega | (simp; done) | (simp; omega)) _ | refine Below.setCell ?_ (by first | omega | (simp; done) | (simp; omega)) _))
  go_enter Try.func62, Try.ntmps62
  go_wp2_with fail
  refine (refmay_is _ _ _ _ _ hm).mono ?_
  rintro e w1 ⟨rfl, hb⟩
  have hb1 := hbx.below hb (by simp)
  have c0 := hb1.cell 0 (v := .int .i64 1) rfl
  have c1 := hb1.cell 1 (v := .int .i64 n) rfl
  have hbl1 := hbl.trans (hb.mono (by simp))
  have hlt1 := hb1.lt
  obtain ⟨y, hy0⟩ : ∃ y, y = UInt8.ofNat m := ⟨_, rfl⟩
  have hy : (m : Int) = (y.toNat : Int) := by rw [hy0, UInt8.toNat_ofNat']; omega
  have hy8 : IntKind.u8.wrap (m : Int) = (y.toNat : Int) := by rw [IntKind.wrap_u8]; omega
  have hB : Hid (keyB m 1 n l = [y] ++ be 8 (sgn n) ++ [0]) := by show keyB _ _ _ _ = _; unfold keyB; rw [hy0]; simp [keyM, keyL]
  have Hy := Lib.hid hy
  clear hy0 hb hbx hbl hm hy
  have hsg := sgn_range n
  have hq : bits .xor .u64 (IntKind.u64.wrap n) 9223372036854775808 = sgn n := by unfold sgn u64; rfl
  go_wp2_with fail
  refine (ref_eight (sgn n) _ hsg.1 hsg.2).mono ?_
  rintro e w2 ⟨v2, rfl, hb2, hbe2⟩
  simp only [World.size_alloc] at hb2 hbe2
  obtain ⟨A2, c2, rfl, hrb⟩ := hb2.sl 8 (be_length 8 _)
  have hob : RB w2 (some ⟨w1.heap.size, 0, none⟩) 1 1 [y] := RB.of_row (l := [y]) ((Blk.new w1 (bcells [y]) 5).below hbe2 (by simp)) (by unfold maxLen; simp)
  have hbl2 := (hbl1.alloc (by omega) (.cells #[.int .u8 y.toNat] 5)).trans (hbe2.mono (by omega))
  have hsz := hbl2.size
  go_wp2_with (first
    | (refine wpList_appg rfl (.tmp 23) (.tmp 28) rfl w1.heap.size 0 1 1 [y] (be 8 (sgn n)) A2 8 c2 rfl rfl hob hrb (by omega) (by omega) (by omega) ?_; intro v3 w3 ho3 hb3; obtain ⟨A3, c3, rfl, _⟩ := ho3.sl 9 (by simp [be_length]); have hbl3 := hbl2.trans (hb3.mono hsz); have hz3 := hb3.size)
    | (refine wpList_app rfl (.tmp 29) (.tmp 30) rfl w2.heap.size (.slice A3 9 c3) ([y] ++ be 8 (sgn n)) [0] _ 1 1 rfl rfl (ho3.alloc _) (RB.one w3 0) (by simp [be_length]) (by simp; omega) ?_; intro v4 w4 ha; obtain ⟨A4, c4, rfl, hr4⟩ := ha.own.sl 10 (by simp [be_length]); have e4 := hr4.conv; have hbl4 := (hbl3.alloc (by omega) (.cells #[bv 0] 5)).keeps ha.keeps (fun i hi e => by have := (ho3.lt i e).1; omega) (Nat.le_refl _)))
  go_wp2
  go_ret2
  refine ⟨?_, hbl4⟩
  rw [hB.out]
  rfl

set_option maxHeartbeats 2000000 in
set_option maxRecDepth 100000 in
theorem rkey_text (m : Nat) (n : Int) (l : List UInt8) (w : World) (hm4 : m < 4) (hm : mayV 2 n l = true) :
    Calls Try.prog 62 #[.int .i64 m, .agg #[.int .i64 (2), .int .i64 (n), .string (str (l))]] w fun e w' => e = .returned (.tuple #[.string (str (keyB m 2 n l)), .int .i64 0]) ∧ Below w.heap.size w w' := by
  have hl : l.length ≤ 8 := by simp [mayV] at hm; exact hm.2
  have hz := str_size l
  have hcv := fun w => conv_str w l
  have hbx := Blk.new w #[.int .i64 (2), .int .i64 (n), .string (str (l))] 51
  have hbl : Below w.heap.size w (w.alloc (.cells #[.int .i64 (2), .int .i64 (n), .string (str (l))] 51)) := (by repeat (first | exact Below.refl _ _ | assumption | apply below_drewN' | apply Below.drew | refine Below.alloc ?_ (by first | omega | (simp; done) | (simp; omega)) _ | refine Below.setCell ?_ (by first | omega | (simp; done) | (simp; omega)) _))
  go_enter Try.func62, Try.ntmps62
  go_wp2_with fail
  refine (refmay_is _ _ _ _ _ hm).mono ?_
  rintro e w1 ⟨rfl, hb⟩
  have hb1 := hbx.below hb (by simp)
  have c0 := hb1.cell 0 (v := .int .i64 2) rfl
  have hbl1 := hbl.trans (hb.mono (by simp))
  have hlt1 := hb1.lt
  obtain ⟨y, hy0⟩ : ∃ y, y = UInt8.ofNat m := ⟨_, rfl⟩
  have hy8 : IntKind.u8.wrap (m : Int) = (y.toNat : Int) := by rw [hy0, UInt8.toNat_ofNat', IntKind.wrap_u8]; omega
  obtain ⟨x, hx⟩ : ∃ x, x = UInt8.ofNat (l.length + 1) := ⟨_, rfl⟩
  have hx8 : ((l.length : Int) + 1) % 256 = (x.toNat : Int) := by
    rw [hx, UInt8.toNat_ofNat']; omega
  have hx9 : IntKind.u8.wrap (IntKind.i64.wrap ((l.length : Int) + 1)) = (x.toNat : Int) := by
    have hw : IntKind.i64.wrap ((l.length : Int) + 1) = (l.length : Int) + 1 := IntWalk.i64_in _ (by omega)
    rw [hw, IntKind.wrap_u8]; exact hx8
  have HB : Hid (keyB m 2 n l = [y] ++ fill l 8 ++ [x]) := by show keyB _ _ _ _ = _; unfold keyB; rw [hy0, hx]; simp [keyM, keyL]
  have hfl := fill_length l 8
  have keep := fun {w' w'' : World} (h : Below w1.heap.size w1 w') (hb : Below w'.heap.size w' w'') => h.next hb (Nat.le_refl _)
  clear hy0 hx hb hbx hbl hm
  go_wp2_with fail
  have hvo := Free.val
  refine Free.wp_facts (M := [0, 1, 3, 0, 8, 24, 56, 127, 0, 256, 768, 1792, 3840, 7936, 16383, 32767, 65535, 131071]) (D := [[], [(0, 33)], [(1, 34)], [], [(3, 36)], [(4, 37)], [(5, 38)], [(2, 35), (6, 39)], [], [(8, 41)], [(9, 42)], [(10, 43)], [(11, 44)], [(12, 45)], [(7, 40), (13, 46)], [(14, 47)], [(15, 48)], []]) (outs := [16, 17]) (soles := [14]) (E := [(0, 33, false), (1, 34, false), (2, 35, false), (3, 36, false), (4, 37, false), (5, 38, false), (6, 39, false), (7, 40, false), (8, 41, false), (9, 42, false), (10, 43, false), (11, 44, false), (12, 45, false), (13, 46, false), (14, 47, false), (15, 48, false), (16, 4, true), (17, 5, true)]) (N := 49) (S := (fun w' => Below w1.heap.size w1 w')) [Free.Fact.is ?_, Free.Fact.is ?_, Free.Fact.one y, Free.Fact.is ?_, Free.Fact.is ?_, Free.Fact.sl l.length l, Free.Fact.sl 8 (fill l 8), Free.Fact.own w1.heap.size ([y] ++ fill l 8), Free.Fact.is ?_, Free.Fact.is ?_, Free.Fact.is ?_, Free.Fact.is ?_, Free.Fact.is ?_, Free.Fact.one x, Free.Fact.sl 10 ([y] ++ fill l 8 ++ [x]), Free.Fact.is ?_, Free.Fact.is ?_, Free.Fact.is ?_] (by kernel_rfl) (by kernel_rfl) rfl ((Below.refl _ _).drew) ?_ ?_
  rotate_left 12
  refine Free.cons ?_ ?_
  · intro w' hS; intro K hK; have c2 := (hb1.below hS hlt1).cell 2 (v := .string (str l)) rfl; first | (refine Free.run_yes (by rfl) ?_; go_simp; refine Free.o hK hS ?_; exact rfl) | (refine Free.run_no (by rfl) (Free.o hK hS ?_); exact rfl)
  refine Free.cons ?_ ?_
  · intro w' hS; (rintro _ rfl); intro K hK; have c2 := (hb1.below hS hlt1).cell 2 (v := .string (str l)) rfl; first | (refine Free.run_yes (by rfl) ?_; go_simp; refine Free.o hK hS ?_; exact rfl) | (refine Free.run_no (by rfl) (Free.o hK hS ?_); exact rfl)
  refine Free.cons ?_ ?_
  · intro w' hS; (rintro _ rfl); intro K hK; have c2 := (hb1.below hS hlt1).cell 2 (v := .string (str l)) rfl; refine Free.run_yes (by rfl) ?_; (go_simp; (try simp only [Free.valOf, Act.put, List.setIfInBounds_toArray, List.set_cons_zero, List.set_cons_succ, Array.getD_eq_getD_getElem?, List.getElem?_toArray, List.getElem?_cons_succ, List.getElem?_cons_zero, Option.getD_some]); refine hK.out _ _ ⟨_, rfl, RB.of_row (l := [y]) (Blk.new w' (bcells [y]) 5) (by unfold maxLen; simp)⟩ (hS.alloc hS.size _) (.inr ((Below.refl _ _).alloc (Nat.le_refl _) _)))
  refine Free.cons ?_ ?_
  · intro w' hS; intro K hK; have c2 := (hb1.below hS hlt1).cell 2 (v := .string (str l)) rfl; first | (refine Free.run_yes (by rfl) ?_; go_simp; refine Free.o hK hS ?_; exact rfl) | (refine Free.run_no (by rfl) (Free.o hK hS ?_); exact rfl)
  refine Free.cons ?_ ?_
  · intro w' hS; (rintro _ rfl); intro K hK; have c2 := (hb1.below hS hlt1).cell 2 (v := .string (str l)) rfl; first | (refine Free.run_yes (by rfl) ?_; go_simp; refine Free.o hK hS ?_; exact rfl) | (refine Free.run_no (by rfl) (Free.o hK hS ?_); exact rfl)
  refine Free.cons ?_ ?_
  · intro w' hS; (rintro _ rfl); intro K hK; have c2 := (hb1.below hS hlt1).cell 2 (v := .string (str l)) rfl; refine Free.run_yes (by rfl) ?_; (go_simp; (try simp only [Free.valOf, Act.put, List.setIfInBounds_toArray, List.set_cons_zero, List.set_cons_succ, Array.getD_eq_getD_getElem?, List.getElem?_toArray, List.getElem?_cons_succ, List.getElem?_cons_zero, Option.getD_some]); refine hK.out _ _ ⟨_, _, rfl, bytesWorld_rb w' l (by omega)⟩ (keep hS (bytesWorld_below w' l)) (.inr (bytesWorld_below w' l)))
  refine Free.cons ?_ ?_
  · intro w' hS; (intro v5 h5); intro K hK; have c2 := (hb1.below hS hlt1).cell 2 (v := .string (str l)) rfl; refine Free.run_yes (by rfl) ?_; (obtain ⟨A, c, rfl, hrb⟩ := h5; go_simp; refine (ref_Fill A l.length c 8 l _ hrb (by omega)).mono ?_; rintro e w2 ⟨rfl, hbk, hb⟩; (try simp only [Free.valOf, Act.put, List.setIfInBounds_toArray, List.set_cons_zero, List.set_cons_succ, Array.getD_eq_getD_getElem?, List.getElem?_toArray, List.getElem?_cons_succ, List.getElem?_cons_zero, Option.getD_some]); refine hK.out _ _ (hbk.sl 8 hfl (by unfold maxLen; omega)) (keep hS hb) (.inr hb))
  refine Free.cons ?_ ?_
  · intro w' hS; (intro v2 h2); (intro v6 h6); intro K hK; have c2 := (hb1.below hS hlt1).cell 2 (v := .string (str l)) rfl; refine Free.run_yes (by rfl) ?_; (obtain ⟨g, rfl, hr1⟩ := h2; obtain ⟨A, c, rfl, hrb⟩ := h6; refine wp_appg (.tmp 35) (.tmp 39) rfl g 0 1 1 [y] (fill l 8) A 8 c rfl rfl hr1 hrb (by omega) (by omega) (by omega) ?_; intro v3 w3 ho hb; refine ⟨rfl, ?_⟩; (try simp only [Free.valOf, Act.put, List.setIfInBounds_toArray, List.set_cons_zero, List.set_cons_succ, Array.getD_eq_getD_getElem?, List.getElem?_toArray, List.getElem?_cons_succ, List.getElem?_cons_zero, Option.getD_some]); refine hK.out _ _ (ho.mono (fun k hk => by have := (ho.lt k hk).1; have := hS.size; omega)) (keep hS hb) (.inr hb))
  refine Free.cons ?_ ?_
  · intro w' hS; intro K hK; have c2 := (hb1.below hS hlt1).cell 2 (v := .string (str l)) rfl; first | (refine Free.run_yes (by rfl) ?_; go_simp; refine Free.o hK hS ?_; exact rfl) | (refine Free.run_no (by rfl) (Free.o hK hS ?_); exact rfl)
  refine Free.cons ?_ ?_
  · intro w' hS; (rintro _ rfl); intro K hK; have c2 := (hb1.below hS hlt1).cell 2 (v := .string (str l)) rfl; first | (refine Free.run_yes (by rfl) ?_; go_simp; refine Free.o hK hS ?_; exact rfl) | (refine Free.run_no (by rfl) (Free.o hK hS ?_); exact rfl)
  refine Free.cons ?_ ?_
  · intro w' hS; (rintro _ rfl); intro K hK; have c2 := (hb1.below hS hlt1).cell 2 (v := .string (str l)) rfl; first | (refine Free.run_yes (by rfl) ?_; go_simp; refine Free.o hK hS ?_; exact rfl) | (refine Free.run_no (by rfl) (Free.o hK hS ?_); exact rfl)
  refine Free.cons ?_ ?_
  · intro w' hS; (rintro _ rfl); intro K hK; have c2 := (hb1.below hS hlt1).cell 2 (v := .string (str l)) rfl; first | (refine Free.run_yes (by rfl) ?_; go_simp; refine Free.o hK hS ?_; exact rfl) | (refine Free.run_no (by rfl) (Free.o hK hS ?_); exact rfl)
  refine Free.cons ?_ ?_
  · intro w' hS; (rintro _ rfl); intro K hK; have c2 := (hb1.below hS hlt1).cell 2 (v := .string (str l)) rfl; first | (refine Free.run_yes (by rfl) ?_; go_simp; refine Free.o hK hS ?_; exact rfl) | (refine Free.run_no (by rfl) (Free.o hK hS ?_); exact rfl)
  refine Free.cons ?_ ?_
  · intro w' hS; (rintro _ rfl); intro K hK; have c2 := (hb1.below hS hlt1).cell 2 (v := .string (str l)) rfl; refine Free.run_yes (by rfl) ?_; (go_simp; (try simp only [Free.valOf, Act.put, List.setIfInBounds_toArray, List.set_cons_zero, List.set_cons_succ, Array.getD_eq_getD_getElem?, List.getElem?_toArray, List.getElem?_cons_succ, List.getElem?_cons_zero, Option.getD_some]); refine hK.out _ _ ⟨_, rfl, RB.of_row (l := [x]) (Blk.new w' (bcells [x]) 5) (by unfold maxLen; simp)⟩ (hS.alloc hS.size _) (.inr ((Below.refl _ _).alloc (Nat.le_refl _) _)))
  refine Free.cons ?_ ?_
  · intro w' hS; (intro v7 h7); (intro v13 h13); intro K hK; have c2 := (hb1.below hS hlt1).cell 2 (v := .string (str l)) rfl; refine Free.run_yes (by rfl) ?_; (obtain ⟨g, rfl, hr1⟩ := h13; refine wp_app (.tmp 40) (.tmp 46) rfl w1.heap.size v7 ([y] ++ fill l 8) [x] _ 1 1 rfl rfl h7 hr1 (by simp [hfl]) hS.size ?_; intro v3 w3 ha; refine ⟨rfl, ?_⟩; (try simp only [Free.valOf, Act.put, List.setIfInBounds_toArray, List.set_cons_zero, List.set_cons_succ, Array.getD_eq_getD_getElem?, List.getElem?_toArray, List.getElem?_cons_succ, List.getElem?_cons_zero, Option.getD_some]); refine hK.out _ _ (OB.sl ha.own 10 (by simp [hfl])) (hS.keeps ha.keeps (fun i hi e => by have := (OB.lt h7 i e).1; omega) (Nat.le_refl _)) (.inl rfl))
  refine Free.cons ?_ ?_
  · intro w' hS; (intro v14 h14); intro K hK; have c2 := (hb1.below hS hlt1).cell 2 (v := .string (str l)) rfl; refine Free.run_yes (by rfl) ?_; (obtain ⟨A, c, rfl, hrb⟩ := h14; have e4 := hrb.conv; go_simp; (try simp only [Free.valOf, Act.put, List.setIfInBounds_toArray, List.set_cons_zero, List.set_cons_succ, Array.getD_eq_getD_getElem?, List.getElem?_toArray, List.getElem?_cons_succ, List.getElem?_cons_zero, Option.getD_some]); refine hK.out _ _ ?_ hS (.inr (Below.refl _ _)); exact rfl)
  refine Free.cons ?_ ?_
  · intro w' hS; (rintro _ rfl); intro K hK; have c2 := (hb1.below hS hlt1).cell 2 (v := .string (str l)) rfl; first | (refine Free.run_yes (by rfl) ?_; go_simp; refine Free.o hK hS ?_; exact rfl) | (refine Free.run_no (by rfl) (Free.o hK hS ?_); exact rfl)
  refine Free.cons ?_ ?_
  · intro w' hS; intro K hK; have c2 := (hb1.below hS hlt1).cell 2 (v := .string (str l)) rfl; first | (refine Free.run_yes (by rfl) ?_; go_simp; refine Free.o hK hS ?_; exact rfl) | (refine Free.run_no (by rfl) (Free.o hK hS ?_); exact rfl)
  exact Free.nil
  clear hvo
  intro w' hS; intro v0; intro v1; intro v2; intro v3; intro v4; intro v5; intro v6; intro v7; intro v8; intro v9; intro v10; intro v11; intro v12; intro v13; intro v14; intro v15; (rintro _ rfl); (rintro _ rfl); (try simp only [Act.put, List.setIfInBounds_toArray, List.set_cons_zero, List.set_cons_succ]); refine Free.toldE_nil ?_
  go_wp2
  go_ret2
  refine ⟨?_, hbl1.trans (hS.mono (by omega))⟩
  rw [HB.out]
  rfl

theorem tab_nat {t : Int} (h : tabB t = true) : ∃ m : Nat, t = m ∧ m < 4 := by
  simp [tabB] at h
  exact ⟨t.toNat, by omega, by omega⟩
theorem key_any (t k n : Int) (l : List UInt8) (w : World) :
    Calls Try.prog 59 #[.int .i64 t, .agg #[.int .i64 (k), .int .i64 (n), .string (str (l))]] w fun e w' => e = .returned (.tuple #[.string (str (keyT t k n l)), .int .i64 (keyE t k n l)]) ∧ Below w.heap.size w w' := by
  unfold keyT
  cases h : tabB t && mayV k n l with
  | false => exact key_no t k n l w h
  | true =>
    rw [Bool.and_eq_true] at h
    obtain ⟨m, rfl, hm⟩ := tab_nat h.1
    have hE : keyE m k n l = 0 := by simp [keyE, h.1, h.2]
    rw [hE]
    exact key_yes m k n l w hm h.2
theorem rkey_any (t k n : Int) (l : List UInt8) (w : World) :
    Calls Try.prog 62 #[.int .i64 t, .agg #[.int .i64 (k), .int .i64 (n), .string (str (l))]] w fun e w' => e = .returned (.tuple #[.string (str (keyT t k n l)), .int .i64 (keyE t k n l)]) ∧ Below w.heap.size w w' := by
  unfold keyT
  cases h : tabB t && mayV k n l with
  | false => exact rkey_no t k n l w h
  | true =>
    rw [Bool.and_eq_true] at h
    obtain ⟨m, rfl, hm⟩ := tab_nat h.1
    have hE : keyE m k n l = 0 := by simp [keyE, h.1, h.2]
    rw [hE]
    rcases may_kinds h.2 with rfl | rfl
    · exact rkey_int m n l w hm h.2
    · exact rkey_text m n l w hm h.2
end Go.Proofs.Ytfldmejjepakeaa
