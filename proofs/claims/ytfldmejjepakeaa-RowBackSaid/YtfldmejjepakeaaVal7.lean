/- Contracts of values: Key. -/
import Derived.Test.YtfldmejjepakeaaVal6
import Derived.Laws.Closers25b
namespace Go.Proofs.Ytfldmejjepakeaa
open Go.ChangeShapes Go.WideShapes Go.ChangeAt Go.RowKit
open Go.ChangeMaps (open_string shut_string)
set_option linter.unusedVariables false
set_option linter.unusedSimpArgs false
set_option maxRecDepth 100000

/-- The word of a number in a key. -/
def sgn (n : Int) : Int := bits .xor .u64 (u64 n) 9223372036854775808
theorem sgn_range (n : Int) : 0 ≤ sgn n ∧ sgn n < 18446744073709551616 := by
  have h1 := bits_lo_u64 .xor (u64 n) 9223372036854775808
  have h2 := bits_hi_u64 .xor (u64 n) 9223372036854775808
  unfold sgn; omega

/-- A key's middle and last byte. -/
def keyM (k n : Int) (l : List UInt8) : List UInt8 := if k = 1 then be 8 (sgn n) else fill l 8
def keyL (k : Int) (l : List UInt8) : UInt8 := if k = 1 then 0 else UInt8.ofNat (l.length + 1)
def keyB (t k n : Int) (l : List UInt8) : List UInt8 := UInt8.ofNat t.toNat :: (keyM k n l ++ [keyL k l])
def tabB (t : Int) : Bool := decide (0 ≤ t) && decide (t < 4)
def keyE (t k n : Int) (l : List UInt8) : Int := if tabB t then (if mayV k n l then 0 else 12) else 1
def keyT (t k n : Int) (l : List UInt8) : List UInt8 := if tabB t && mayV k n l then keyB t k n l else []
theorem keyM_length (k n : Int) (l : List UInt8) : (keyM k n l).length = 8 := by
  unfold keyM; split <;> simp [be_length, fill_length]

theorem str_nil : str [] = ByteArray.empty := rfl

set_option maxRecDepth 100000 in
theorem key_no (t k n : Int) (l : List UInt8) (w : World) (hm : (tabB t && mayV k n l) = false) :
    Calls Try.prog 59 #[.int .i64 t, .agg #[.int .i64 (k), .int .i64 (n), .string (str (l))]] w fun e w' => e = .returned (.tuple #[.string (str []), .int .i64 (keyE t k n l)]) ∧ Below w.heap.size w w' := by
  by_cases h0 : t < 0
  · have hE : keyE t k n l = 1 := by have : tabB t = false := by (simp [tabB]; omega)
                                     simp [keyE, this]
    rw [hE]
    go_enter Try.func59, Try.ntmps59
    go_wp2
    go_ret2
    exact ⟨rfl, (by repeat (first | exact Below.refl _ _ | assumption | apply below_drewN' | apply Below.drew | refine Below.alloc ?_ (by first | omega | (simp; done) | (simp; omega)) _ | refine Below.setCell ?_ (by first | omega | (simp; done) | (simp; omega)) _))⟩
  · by_cases h1 : 4 ≤ t
    · have hE : keyE t k n l = 1 := by have : tabB t = false := by (simp [tabB]; omega)
                                       simp [keyE, this]
      rw [hE]
      go_enter Try.func59, Try.ntmps59
      go_wp2
      go_ret2
      exact ⟨rfl, (by repeat (first | exact Below.refl _ _ | assumption | apply below_drewN' | apply Below.drew | refine Below.alloc ?_ (by first | omega | (simp; done) | (simp; omega)) _ | refine Below.setCell ?_ (by first | omega | (simp; done) | (simp; omega)) _))⟩
    · have ht : tabB t = true := by simp [tabB]; omega
      have hm2 : mayV k n l = false := by rw [ht] at hm; simpa using hm
      have hE : keyE t k n l = 12 := by simp [keyE, ht, hm2]
      rw [hE]
      go_enter Try.func59, Try.ntmps59
      go_wp2_with (go_at_call 65; refine (may_is_v _ _ _ _ _ hm2).mono ?_; rintro e w1 ⟨rfl, hb⟩)
      go_ret2
      exact ⟨rfl, ((Below.refl w.heap.size w).alloc (Nat.le_refl _) _).trans (hb.mono (by simp))⟩

theorem conv_one (W : World) (b : UInt8) (z : Int) (h : (b.toNat : Int) = z) : (convert 22 9 (.slice (some ⟨W.heap.size, 0, none⟩) 1 1)).run Try.prog (W.alloc (.cells #[.int .u8 z] 5)) = .ok (.string (str [b])) (W.alloc (.cells #[.int .u8 z] 5)) := by
  subst h; exact (RB.one W b).conv
theorem conv_two (W : World) (o : Obj) (b : UInt8) (z : Int) (h : (b.toNat : Int) = z) : (convert 22 9 (.slice (some ⟨W.heap.size + 1, 0, none⟩) 1 1)).run Try.prog ((W.alloc o).alloc (.cells #[.int .u8 z] 5)) = .ok (.string (str [b])) ((W.alloc o).alloc (.cells #[.int .u8 z] 5)) := by
  have := conv_one (W.alloc o) b z h
  rw [World.size_alloc] at this
  exact this
set_option maxHeartbeats 2000000 in
set_option maxRecDepth 100000 in
theorem key_yes (m : Nat) (k n : Int) (l : List UInt8) (w : World) (hm4 : m < 4) (hm : mayV k n l = true) :
    Calls Try.prog 59 #[.int .i64 m, .agg #[.int .i64 (k), .int .i64 (n), .string (str (l))]] w fun e w' => e = .returned (.tuple #[.string (str (keyB m k n l)), .int .i64 0]) ∧ Below w.heap.size w w' := by
  have hl : l.length ≤ 8 := by
    simp only [mayV, Bool.or_eq_true, Bool.and_eq_true, beq_iff_eq, decide_eq_true_eq] at hm
    rcases hm with ⟨_, rfl⟩ | ⟨_, _, h⟩
    · simp
    · exact h
  have hz := str_size l
  have hbx := Blk.new w #[.int .i64 (k), .int .i64 (n), .string (str (l))] 51
  have hbl : Below w.heap.size w (w.alloc (.cells #[.int .i64 (k), .int .i64 (n), .string (str (l))] 51)) := (by repeat (first | exact Below.refl _ _ | assumption | apply below_drewN' | apply Below.drew | refine Below.alloc ?_ (by first | omega | (simp; done) | (simp; omega)) _ | refine Below.setCell ?_ (by first | omega | (simp; done) | (simp; omega)) _))
  go_enter Try.func59, Try.ntmps59
  go_wp2_with fail
  refine (may_is_v _ _ _ _ _ hm).mono ?_
  rintro e w1 ⟨rfl, hb⟩
  have hb1 := hbx.below hb (by simp)
  have hbl1 := hbl.trans (hb.mono (by simp))
  have hlt1 := hb1.lt
  have hfl := fill_length l 8
  have keep := fun {w' w'' : World} (h : Below w1.heap.size w1 w') (hb : Below w'.heap.size w' w'') => h.next hb (Nat.le_refl _)
  obtain ⟨x, hx⟩ : ∃ x, x = UInt8.ofNat (l.length + 1) := ⟨_, rfl⟩
  have hx8 : ((l.length : Int) + 1) % 256 = (x.toNat : Int) := by
    rw [hx, UInt8.toNat_ofNat']; omega
  have hx9 : IntKind.u8.wrap (IntKind.i64.wrap ((l.length : Int) + 1)) = (x.toNat : Int) := by
    have hw : IntKind.i64.wrap ((l.length : Int) + 1) = (l.length : Int) + 1 := IntWalk.i64_in _ (by omega)
    rw [hw, IntKind.wrap_u8]; exact hx8
  obtain ⟨y, hy0⟩ : ∃ y, y = UInt8.ofNat m := ⟨_, rfl⟩
  have hy : (y.toNat : Int) = m := by rw [hy0, UInt8.toNat_ofNat']; omega
  have hy8 : IntKind.u8.wrap (m : Int) = (m : Int) := by rw [IntKind.wrap_u8]; omega
  have hB : Hid (∀ k n, keyB m k n l = [y] ++ keyM k n l ++ [keyL k l]) := fun k n => by unfold keyB; rw [hy0]; simp
  clear hy0
  have HX := Lib.hid hx
  clear hb hbx hbl hx
  go_wp2_with fail
  have hvo := Free.val
  refine Free.wp_facts (M := [0, 1, 3, 0, 8, 24, 56, 120, 7, 511]) (D := [[], [(0, 19)], [(1, 20)], [], [(3, 22)], [(4, 23)], [(5, 24)], [(6, 25)], [(2, 21)], [(7, 26)]]) (outs := [8, 9]) (soles := []) (E := [(0, 19, false), (1, 20, false), (2, 21, false), (3, 22, false), (4, 23, false), (5, 24, false), (6, 25, false), (7, 26, false), (8, 6, true), (9, 7, true)]) (N := 46) (S := (fun w' => Below w1.heap.size w1 w')) [Free.Fact.is ?_, Free.Fact.is ?_, Free.Fact.sl 8 (fill l 8), Free.Fact.is ?_, Free.Fact.is ?_, Free.Fact.is ?_, Free.Fact.is ?_, Free.Fact.is ?_, Free.Fact.sl 8 (fill l 8), Free.Fact.is ?_] (by kernel_rfl) (by kernel_rfl) rfl ((Below.refl _ _).drew) ?_ ?_
  rotate_left 8
  refine Free.cons ?_ ?_
  · intro w' hS; intro K hK; have c2 := (hb1.below hS hlt1).cell 2 (v := .string (str l)) rfl; first | (refine Free.run_yes (by rfl) ?_; go_simp; refine Free.o hK hS ?_; exact rfl) | (refine Free.run_no (by rfl) (Free.o hK hS ?_); exact rfl)
  refine Free.cons ?_ ?_
  · intro w' hS; (rintro _ rfl); intro K hK; have c2 := (hb1.below hS hlt1).cell 2 (v := .string (str l)) rfl; first | (refine Free.run_yes (by rfl) ?_; go_simp; refine Free.o hK hS ?_; exact rfl) | (refine Free.run_no (by rfl) (Free.o hK hS ?_); exact rfl)
  refine Free.cons ?_ ?_
  · intro w' hS; (rintro _ rfl); intro K hK; have c2 := (hb1.below hS hlt1).cell 2 (v := .string (str l)) rfl; refine Free.run_yes (by rfl) ?_; (go_simp; refine (val_filled l _ hl).mono ?_; rintro e w2 ⟨v, rfl, hf, hb⟩; (try simp only [Free.valOf, Act.put, List.setIfInBounds_toArray, List.set_cons_zero, List.set_cons_succ, Array.getD_eq_getD_getElem?, List.getElem?_toArray, List.getElem?_cons_succ, List.getElem?_cons_zero, Option.getD_some]); refine hK.out _ _ (hf.sl 8 hfl) (keep hS hb) (.inr hb))
  refine Free.cons ?_ ?_
  · intro w' hS; intro K hK; have c2 := (hb1.below hS hlt1).cell 2 (v := .string (str l)) rfl; first | (refine Free.run_yes (by rfl) ?_; go_simp; refine Free.o hK hS ?_; exact rfl) | (refine Free.run_no (by rfl) (Free.o hK hS ?_); exact rfl)
  refine Free.cons ?_ ?_
  · intro w' hS; (rintro _ rfl); intro K hK; have c2 := (hb1.below hS hlt1).cell 2 (v := .string (str l)) rfl; first | (refine Free.run_yes (by rfl) ?_; go_simp; refine Free.o hK hS ?_; exact rfl) | (refine Free.run_no (by rfl) (Free.o hK hS ?_); exact rfl)
  refine Free.cons ?_ ?_
  · intro w' hS; (rintro _ rfl); intro K hK; have c2 := (hb1.below hS hlt1).cell 2 (v := .string (str l)) rfl; first | (refine Free.run_yes (by rfl) ?_; go_simp; refine Free.o hK hS ?_; exact rfl) | (refine Free.run_no (by rfl) (Free.o hK hS ?_); exact rfl)
  refine Free.cons ?_ ?_
  · intro w' hS; (rintro _ rfl); intro K hK; have c2 := (hb1.below hS hlt1).cell 2 (v := .string (str l)) rfl; first | (refine Free.run_yes (by rfl) ?_; go_simp; refine Free.o hK hS ?_; exact rfl) | (refine Free.run_no (by rfl) (Free.o hK hS ?_); exact rfl)
  refine Free.cons ?_ ?_
  · intro w' hS; (rintro _ rfl); intro K hK; have c2 := (hb1.below hS hlt1).cell 2 (v := .string (str l)) rfl; first | (refine Free.run_yes (by rfl) ?_; go_simp; refine Free.o hK hS ?_; exact rfl) | (refine Free.run_no (by rfl) (Free.o hK hS ?_); exact rfl)
  refine Free.cons ?_ ?_
  · intro w' hS; (intro v2 h2); intro K hK; have c2 := (hb1.below hS hlt1).cell 2 (v := .string (str l)) rfl; first | (refine Free.run_yes (by rfl) ?_; go_simp; refine Free.o hK hS ?_; first | exact rfl | assumption) | (refine Free.run_no (by rfl) (Free.o hK hS ?_); exact rfl)
  refine Free.cons ?_ ?_
  · intro w' hS; (rintro _ rfl); intro K hK; have c2 := (hb1.below hS hlt1).cell 2 (v := .string (str l)) rfl; first | (refine Free.run_yes (by rfl) ?_; go_simp; refine Free.o hK hS ?_; exact rfl) | (refine Free.run_no (by rfl) (Free.o hK hS ?_); exact rfl)
  exact Free.nil
  clear hvo
  intro w' hS; intro v0; intro v1; intro v2; intro v3; intro v4; intro v5; intro v6; intro v7; intro v8 h8; (rintro _ rfl); (try simp only [Act.put, List.setIfInBounds_toArray, List.set_cons_zero, List.set_cons_succ]); refine Free.toldE_nil ?_
  obtain ⟨A, c, rfl, hr⟩ := h8
  have q2 := hS.size
  have hb2 := hb1.below hS hlt1
  have c0 := hb2.cell 0 (v := .int .i64 k) rfl
  by_cases hk : k = 1
  · subst hk
    have c1 := hb2.cell 1 (v := .int .i64 n) rfl
    have hsg := sgn_range n
    have hq : bits .xor .u64 (IntKind.u64.wrap n) 9223372036854775808 = sgn n := by unfold sgn u64; rfl
    go_wp2_with fail
    refine (val_eight (sgn n) _ hsg.1 hsg.2).mono ?_
    rintro e w3 ⟨rfl, hb3, hbe3⟩
    have hr3 := RB.of_row hb3 (by rw [be_length]; unfold maxLen; omega)
    rw [be_length] at hr3
    have e1 := conv_one w3 y m hy; have e2 := (RB.alloc hr3 (.cells #[.int .u8 m] 5)).conv; have e3 := conv_two w3 (.cells #[.int .u8 m] 5) 0 0 (by decide)
    go_wp2
    go_ret2
    refine ⟨?_, ((hbl1.trans ((hS.next hbe3 (Nat.le_refl _)).mono (by omega))).alloc (by have := hbe3.size; omega) _).alloc (by have := hbe3.size; simp; omega) _⟩
    rw [hB.out, str_append, str_append]; rfl
  · have hk2 : (k == 1) = false := by rw [beq_eq_false_iff_ne]; exact hk
    have e1 := conv_one w' y m hy; have e2 := (RB.alloc hr (.cells #[.int .u8 m] 5)).conv; have e3 := conv_two w' (.cells #[.int .u8 m] 5) x x.toNat rfl
    have z1 : (str (fill l 8)).size = 8 := by rw [str_size, hfl]
    have z2 : (str [y]).size = 1 := by rw [str_size]; rfl
    have z3 : (str [x]).size = 1 := by rw [str_size]; rfl
    have z4 : (str [y] ++ str (fill l 8)).size = 9 := by rw [str_append, str_size, List.length_append, hfl]; rfl
    go_wp2
    go_ret2
    refine ⟨?_, ((hbl1.trans (hS.mono (by omega))).alloc (by omega) _).alloc (by simp; omega) _⟩
    rw [hB.out, keyM, keyL, if_neg hk, if_neg hk, ← HX.out, ← str_append, ← str_append]
    rfl
end Go.Proofs.Ytfldmejjepakeaa
