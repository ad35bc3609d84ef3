/- Contracts of values: Decode. -/
import Derived.Test.YtfldmejjepakeaaVal11
import Derived.Test.YtfldmejjepakeaaBytesEq
namespace Go.Proofs.Ytfldmejjepakeaa
open Go.ChangeShapes Go.WideShapes Go.ChangeAt Go.RowKit
open Go.ChangeMaps (open_string shut_string)
set_option linter.unusedVariables false
set_option linter.unusedSimpArgs false
set_option maxRecDepth 100000

/-- A text's kind, number, text, as they are read; whether they are a value's. -/
def dkK (h : UInt8) : Int := if h = 1 then 1 else 2
def dkN (h : UInt8) (rest : List UInt8) : Int := if h = 1 then wrap64 (numB rest) else 0
def dkS (h : UInt8) (rest : List UInt8) : List UInt8 := if h = 1 then [] else rest.take (min (h.toNat - 1) 9 - 1)
def dkOk (h : UInt8) (rest : List UInt8) : Bool := h != 0 && (mayV (dkK h) (dkN h rest) (dkS h rest) && (encB (dkK h) (dkN h rest) (dkS h rest) == h :: rest))
theorem dkOk_enc (h : UInt8) (rest : List UInt8) (h0 : h ≠ 0) : dkOk h rest = ((encE (dkK h) (dkN h rest) (dkS h rest) == 0) && (encT (dkK h) (dkN h rest) (dkS h rest) == h :: rest)) := by
  have e : (h != 0) = true := by rw [bne_iff_ne]; exact h0
  unfold dkOk encE encT
  rw [e]
  cases mayV (dkK h) (dkN h rest) (dkS h rest) <;> simp
/-- What is told of a text. -/
def dkRet (ok : Bool) (k n : Int) (s : List UInt8) : Ending := .returned (.tuple (if ok then #[.agg #[.int .i64 k, .int .i64 n, .string (str s)], .int .i64 0] else #[.agg #[.int .i64 0, .int .i64 0, .string (str [])], .int .i64 2]))

set_option maxRecDepth 100000 in
theorem dec_short (A : Option Addr) (n c : Nat) (l : List UInt8) (w : World) (hr : RB w A n c l) (h : n ≠ 9) (hn : n ≤ 1099511627776) :
    Calls Try.prog 46 #[.slice A n c] w fun e w' => e = dkRet false 0 0 [] ∧ Below w.heap.size w w' := by
  have hne : ((n : Int) != 9) = true := by rw [bne_iff_ne]; omega
  go_enter Try.func46, Try.ntmps46
  go_wp2
  refine bodyPost_ret (v := .tuple #[.agg #[.int .i64 0, .int .i64 0, .string (str [])], .int .i64 2]) (by simp [results, Try.results46, go_sem, str]) rfl ⟨rfl, (by repeat (first | exact Below.refl _ _ | assumption | apply below_drewN' | apply Below.drew | refine Below.alloc ?_ (by first | omega | (simp; done) | (simp; omega)) _ | refine Below.setCell ?_ (by first | omega | (simp; done) | (simp; omega)) _))⟩

set_option maxHeartbeats 600000 in
set_option maxRecDepth 100000 in
theorem dec_zero (g o c : Nat) (rest : List UInt8) (w : World) (hr : RB w (some ⟨g, o, none⟩) 9 c (0 :: rest)) :
    Calls Try.prog 46 #[.slice (some ⟨g, o, none⟩) 9 c] w fun e w' => e = dkRet false 0 0 [] ∧ Below w.heap.size w w' := by
  obtain ⟨_, _, e, hc⟩ := hr.at_ (by omega)
  injection e with e
  injection e with e1 e2
  subst e1; subst e2
  have hc0 : w.cell? ⟨g, o, none⟩ = some (.int .u8 0) := hc 0 0 rfl
  have hlt := World.block_lt_of_cell? w _ hc0
  clear hc
  go_enter Try.func46, Try.ntmps46
  go_wp2
  refine bodyPost_ret (v := .tuple #[.agg #[.int .i64 0, .int .i64 0, .string (str [])], .int .i64 2]) (by simp [results, Try.results46, go_sem, str]) rfl ⟨rfl, (by repeat (first | exact Below.refl _ _ | assumption | apply below_drewN' | apply Below.drew | refine Below.alloc ?_ (by first | omega | (simp; done) | (simp; omega)) _ | refine Below.setCell ?_ (by first | omega | (simp; done) | (simp; omega)) _))⟩

set_option maxHeartbeats 600000 in
set_option maxRecDepth 100000 in
theorem dec_int (g o c : Nat) (rest : List UInt8) (w : World) (hr : RB w (some ⟨g, o, none⟩) 9 c (1 :: rest)) :
    Calls Try.prog 46 #[.slice (some ⟨g, o, none⟩) 9 c] w fun e w' => e = dkRet (dkOk 1 rest) 1 (wrap64 (numB rest)) [] ∧ Below w.heap.size w w' := by
  obtain ⟨_, _, e, hc⟩ := hr.at_ (by omega)
  injection e with e
  injection e with e1 e2
  subst e1; subst e2
  have hc0 : w.cell? ⟨g, o, none⟩ = some (.int .u8 (1)) := hc 0 1 rfl
  have hlt := World.block_lt_of_cell? w _ hc0
  have hcap := hr.cap
  have hmax := hr.max
  unfold maxLen at hmax
  have hrl : rest.length = 8 := by have := hr.len; simpa using this
  have hb0 : Below w.heap.size w (w.alloc (.cells #[.int .i64 0, .int .i64 0, .string { data := #[] }] 51)) := (by repeat (first | exact Below.refl _ _ | assumption | apply below_drewN' | apply Below.drew | refine Below.alloc ?_ (by first | omega | (simp; done) | (simp; omega)) _ | refine Below.setCell ?_ (by first | omega | (simp; done) | (simp; omega)) _))
  have hR0 := Blk.new w #[.int .i64 0, .int .i64 0, .string { data := #[] }] 51
  have hrd := hr.drop 1 (by omega)
  have hrd0 := hrd.alloc (.cells #[.int .i64 0, .int .i64 0, .string { data := #[] }] 51)
  have hcv := hrd0.conv
  rw [List.drop_succ_cons, List.drop_zero] at hcv
  clear hc hrd hrd0
  have HO := dkOk_enc 1 rest (by decide)
  have HE := fun w => enc_any 1 (wrap64 (numB rest)) [] w
  simp only [dkK, dkN, dkS, if_true] at HO
  generalize encT 1 (wrap64 (numB rest)) [] = T at *
  generalize encE 1 (wrap64 (numB rest)) [] = E at *
  go_enter Try.func46, Try.ntmps46
  go_wp2_with fail
  refine (val_number rest _ (by omega)).mono ?_
  rintro e w1 ⟨rfl, hb1⟩
  have hR1 := hR0.below hb1 hR0.lt
  have b1 := hb0.next hb1 (Nat.le_refl _)
  have q1 := hR1.lt
  have hc1 := (b1.cell (p := ⟨g, o, none⟩) hlt).trans hc0
  have hg1 : g < w1.heap.size := by have := b1.size; omega
  go_wp2_with fail
  refine (HE _).mono ?_
  rintro e w4 ⟨v4, rfl, ho4, hb4⟩
  have hR4 := (hR1.alloc (.cells #[.int .i64 (1), .int .i64 (wrap64 (numB rest)), .string (ByteArray.mk #[])] 51)).below hb4 (by simp; omega)
  have hV4 := (Blk.new w1 #[.int .i64 (1), .int .i64 (wrap64 (numB rest)), .string (ByteArray.mk #[])] 51).below hb4 (by simp)
  have b4 := (b1.alloc (by omega) (.cells #[.int .i64 (1), .int .i64 (wrap64 (numB rest)), .string (ByteArray.mk #[])] 51)).trans (hb4.mono (by simp; omega))
  have q4 := hR4.lt
  have q5 := hV4.lt
  obtain ⟨A4, c4, rfl, _, _⟩ := ho4.form
  have hr4 := ho4.reads
  clear ho4
  generalize T.length = n4 at *
  have hrb4 := hr.below b4
  have f0 := hR4.fz 0
  have f1 := hR4.fz 1
  have f2 := hR4.fz 2
  have r0 := hR4.cell 0 (v := .int .i64 0) rfl
  have r1 := hR4.cell 1 (v := .int .i64 0) rfl
  have r2 := hR4.cell 2 (v := .string { data := #[] }) rfl
  have v0 := hV4.cell 0 (v := .int .i64 (1)) rfl
  have v1 := hV4.cell 1 (v := .int .i64 (wrap64 (numB rest))) rfl
  have v2 := hV4.cell 2 (v := .string (ByteArray.mk #[])) rfl
  clear HE hb4 hb1 hR0 hR1 b1 hb0 hV4
  by_cases hE : E = 0
  · subst hE
    by_cases hT : T = 1 :: rest
    · subst hT
      have hok := Lib.hid (show dkOk (1) rest = true by rw [HO]; simp)
      have HB := Lib.hid (bytes_equal A4 (some ⟨g, o, none⟩) _ c4 9 c _ _ w4 hr4 hrb4)
      rw [beq_self_eq_true] at HB
      have hF := ((hR4.set 0 (.int .i64 (1))).set 1 (.int .i64 (wrap64 (numB rest)))).set 2 (.string (ByteArray.mk #[]))
      have bF : Below w.heap.size w (((w4.setCell ⟨w.heap.size, 0, none⟩ (.int .i64 (1))).setCell ⟨w.heap.size, 1, none⟩ (.int .i64 (wrap64 (numB rest)))).setCell ⟨w.heap.size, 2, none⟩ (.string (ByteArray.mk #[]))) := (by repeat (first | exact Below.refl _ _ | assumption | apply below_drewN' | apply Below.drew | refine Below.alloc ?_ (by first | omega | (simp; done) | (simp; omega)) _ | refine Below.setCell ?_ (by first | omega | (simp; done) | (simp; omega)) _))
      clear HO hr4 hrb4 hR4
      go_wp2_with (go_at_call 47; refine HB.out.mono ?_; rintro e w5 ⟨rfl, rfl⟩)
      generalize ((w4.setCell ⟨w.heap.size, 0, none⟩ (.int .i64 (1))).setCell ⟨w.heap.size, 1, none⟩ (.int .i64 (wrap64 (numB rest)))).setCell ⟨w.heap.size, 2, none⟩ (.string (ByteArray.mk #[])) = WF at *
      have k0 := hF.cell 0 (v := .int .i64 (1)) rfl
      have k1 := hF.cell 1 (v := .int .i64 (wrap64 (numB rest))) rfl
      have k2 := hF.cell 2 (v := .string (ByteArray.mk #[])) rfl
      refine bodyPost_ret (v := .tuple #[.agg #[.int .i64 (1), .int .i64 (wrap64 (numB rest)), .string (ByteArray.mk #[])], .int .i64 0]) (by simp [results, Try.results46, go_sem, k0, k1, k2]) rfl ⟨?_, bF⟩
      rw [hok.out]; rfl
    · have hne : (T == 1 :: rest) = false := by rw [beq_eq_false_iff_ne]; exact hT
      have hok := Lib.hid (show dkOk (1) rest = false by rw [HO, hne]; simp)
      have HB := Lib.hid (bytes_equal A4 (some ⟨g, o, none⟩) _ c4 9 c _ _ w4 hr4 hrb4)
      rw [hne] at HB
      clear HO hr4 hrb4 hT hne
      go_wp2_with (go_at_call 47; refine HB.out.mono ?_; rintro e w5 ⟨rfl, rfl⟩)
      have hF := ((hR4.set 0 (.int .i64 0)).set 1 (.int .i64 0)).set 2 (.string { data := #[] })
      have bF : Below w.heap.size w (((w4.setCell ⟨w.heap.size, 0, none⟩ (.int .i64 0)).setCell ⟨w.heap.size, 1, none⟩ (.int .i64 0)).setCell ⟨w.heap.size, 2, none⟩ (.string { data := #[] })) := (by repeat (first | exact Below.refl _ _ | assumption | apply below_drewN' | apply Below.drew | refine Below.alloc ?_ (by first | omega | (simp; done) | (simp; omega)) _ | refine Below.setCell ?_ (by first | omega | (simp; done) | (simp; omega)) _))
      generalize ((w4.setCell ⟨w.heap.size, 0, none⟩ (.int .i64 0)).setCell ⟨w.heap.size, 1, none⟩ (.int .i64 0)).setCell ⟨w.heap.size, 2, none⟩ (.string { data := #[] }) = WF at *
      have k0 := hF.cell 0 (v := .int .i64 0) rfl
      have k1 := hF.cell 1 (v := .int .i64 0) rfl
      have k2 := hF.cell 2 (v := .string { data := #[] }) rfl
      refine bodyPost_ret (v := .tuple #[.agg #[.int .i64 0, .int .i64 0, .string { data := #[] }], .int .i64 2]) (by simp [results, Try.results46, go_sem, k0, k1, k2]) rfl ⟨?_, bF⟩
      rw [hok.out]; rfl
  · have hne : (E != 0) = true := by rw [bne_iff_ne]; exact hE
    have hok := Lib.hid (show dkOk (1) rest = false by rw [HO]; simp [hE])
    clear HO hr4 hrb4
    · go_wp2
      have hF := ((hR4.set 0 (.int .i64 0)).set 1 (.int .i64 0)).set 2 (.string { data := #[] })
      have bF : Below w.heap.size w (((w4.setCell ⟨w.heap.size, 0, none⟩ (.int .i64 0)).setCell ⟨w.heap.size, 1, none⟩ (.int .i64 0)).setCell ⟨w.heap.size, 2, none⟩ (.string { data := #[] })) := (by repeat (first | exact Below.refl _ _ | assumption | apply below_drewN' | apply Below.drew | refine Below.alloc ?_ (by first | omega | (simp; done) | (simp; omega)) _ | refine Below.setCell ?_ (by first | omega | (simp; done) | (simp; omega)) _))
      generalize ((w4.setCell ⟨w.heap.size, 0, none⟩ (.int .i64 0)).setCell ⟨w.heap.size, 1, none⟩ (.int .i64 0)).setCell ⟨w.heap.size, 2, none⟩ (.string { data := #[] }) = WF at *
      have k0 := hF.cell 0 (v := .int .i64 0) rfl
      have k1 := hF.cell 1 (v := .int .i64 0) rfl
      have k2 := hF.cell 2 (v := .string { data := #[] }) rfl
      refine bodyPost_ret (v := .tuple #[.agg #[.int .i64 0, .int .i64 0, .string { data := #[] }], .int .i64 2]) (by simp [results, Try.results46, go_sem, k0, k1, k2]) rfl ⟨?_, bF⟩
      rw [hok.out]; rfl

set_option maxHeartbeats 600000 in
set_option maxRecDepth 100000 in
theorem dec_small (g o c : Nat) (h : UInt8) (rest : List UInt8) (w : World) (hr : RB w (some ⟨g, o, none⟩) 9 c (h :: rest)) (h1 : 2 ≤ h.toNat) (h2 : h.toNat ≤ 10) :
    Calls Try.prog 46 #[.slice (some ⟨g, o, none⟩) 9 c] w fun e w' => e = dkRet (dkOk h rest) 2 0 (rest.take (h.toNat - 2)) ∧ Below w.heap.size w w' := by
  obtain ⟨_, _, e, hc⟩ := hr.at_ (by omega)
  injection e with e
  injection e with e1 e2
  subst e1; subst e2
  have hc0 : w.cell? ⟨g, o, none⟩ = some (.int .u8 (h.toNat)) := hc 0 h rfl
  have hlt := World.block_lt_of_cell? w _ hc0
  have hcap := hr.cap
  have hmax := hr.max
  unfold maxLen at hmax
  have hrl : rest.length = 8 := by have := hr.len; simpa using this
  have hb0 : Below w.heap.size w (w.alloc (.cells #[.int .i64 0, .int .i64 0, .string { data := #[] }] 51)) := (by repeat (first | exact Below.refl _ _ | assumption | apply below_drewN' | apply Below.drew | refine Below.alloc ?_ (by first | omega | (simp; done) | (simp; omega)) _ | refine Below.setCell ?_ (by first | omega | (simp; done) | (simp; omega)) _))
  have hR0 := Blk.new w #[.int .i64 0, .int .i64 0, .string { data := #[] }] 51
  have hrd := hr.drop 1 (by omega)
  have hrd0 := hrd.alloc (.cells #[.int .i64 0, .int .i64 0, .string { data := #[] }] 51)
  have hcv := hrd0.conv
  rw [List.drop_succ_cons, List.drop_zero] at hcv
  clear hc hrd hrd0
  have hne1 : h ≠ 1 := fun e => by rw [e] at h1; exact absurd h1 (by decide)
  have hne0 : h ≠ 0 := fun e => by rw [e] at h1; exact absurd h1 (by decide)
  have HO := dkOk_enc h rest hne0
  have HE := fun w => enc_any 2 0 (rest.take (h.toNat - 2)) w
  have hs : rest.take (min (h.toNat - 1) 9 - 1) = rest.take (h.toNat - 2) := by rw [show min (h.toNat - 1) 9 - 1 = h.toNat - 2 by omega]
  simp only [dkK, dkN, dkS, if_neg hne1, hs] at HO
  clear hs
  have hwh : IntKind.i64.wrap (h.toNat : Int) = (h.toNat : Int) := IntWalk.i64_in _ (by omega)
  have hi1 : 2 ≤ (h.toNat : Int) := by omega
  have hi2 : (h.toNat : Int) ≤ 10 := by omega
  have hz0 : ((h.toNat : Int) == 0) = false := by rw [beq_eq_false_iff_ne]; omega
  generalize hs : rest.take (h.toNat - 2) = s at *
  generalize encT 2 0 s = T at *
  generalize encE 2 0 s = E at *
  go_enter Try.func46, Try.ntmps46
  go_wp2_with fail
  refine (val_number rest _ (by omega)).mono ?_
  rintro e w1 ⟨rfl, hb1⟩
  have hR1 := hR0.below hb1 hR0.lt
  have b1 := hb0.next hb1 (Nat.le_refl _)
  have q1 := hR1.lt
  have hc1 := (b1.cell (p := ⟨g, o, none⟩) hlt).trans hc0
  have hg1 : g < w1.heap.size := by have := b1.size; omega
  have hcj : (convert 22 9 (.slice (some ⟨g, o + 1, none⟩) (h.toNat - 1 - 1) (c - 1))).run Try.prog (w1.alloc (.cells #[.int .i64 1, .int .i64 (wrap64 (numB rest)), .string (ByteArray.mk #[])] 51)) = .ok (.string (str s)) (w1.alloc (.cells #[.int .i64 1, .int .i64 (wrap64 (numB rest)), .string (ByteArray.mk #[])] 51)) := by
    have := ((((hr.below b1).drop 1 (by omega)).take (h.toNat - 1 - 1) (by omega)).alloc (.cells #[.int .i64 1, .int .i64 (wrap64 (numB rest)), .string (ByteArray.mk #[])] 51)).conv
    rw [List.drop_succ_cons, List.drop_zero, show h.toNat - 1 - 1 = h.toNat - 2 by omega, hs] at this
    rw [show h.toNat - 1 - 1 = h.toNat - 2 by omega]
    exact this
  go_wp2_with fail
  refine (HE _).mono ?_
  rintro e w4 ⟨v4, rfl, ho4, hb4⟩
  have hR4 := (hR1.alloc (.cells #[.int .i64 (2), .int .i64 (0), .string (str s)] 51)).below hb4 (by simp; omega)
  have hV4 := (Blk.new w1 #[.int .i64 (2), .int .i64 (0), .string (str s)] 51).below hb4 (by simp)
  have b4 := (b1.alloc (by omega) (.cells #[.int .i64 (2), .int .i64 (0), .string (str s)] 51)).trans (hb4.mono (by simp; omega))
  have q4 := hR4.lt
  have q5 := hV4.lt
  obtain ⟨A4, c4, rfl, _, _⟩ := ho4.form
  have hr4 := ho4.reads
  clear ho4
  generalize T.length = n4 at *
  have hrb4 := hr.below b4
  have f0 := hR4.fz 0
  have f1 := hR4.fz 1
  have f2 := hR4.fz 2
  have r0 := hR4.cell 0 (v := .int .i64 0) rfl
  have r1 := hR4.cell 1 (v := .int .i64 0) rfl
  have r2 := hR4.cell 2 (v := .string { data := #[] }) rfl
  have v0 := hV4.cell 0 (v := .int .i64 (2)) rfl
  have v1 := hV4.cell 1 (v := .int .i64 (0)) rfl
  have v2 := hV4.cell 2 (v := .string (str s)) rfl
  clear HE hb4 hb1 hR0 hR1 b1 hb0 hV4
  by_cases hE : E = 0
  · subst hE
    by_cases hT : T = h :: rest
    · subst hT
      have hok := Lib.hid (show dkOk (h) rest = true by rw [HO]; simp)
      have HB := Lib.hid (bytes_equal A4 (some ⟨g, o, none⟩) _ c4 9 c _ _ w4 hr4 hrb4)
      rw [beq_self_eq_true] at HB
      have hF := ((hR4.set 0 (.int .i64 (2))).set 1 (.int .i64 (0))).set 2 (.string (str s))
      have bF : Below w.heap.size w (((w4.setCell ⟨w.heap.size, 0, none⟩ (.int .i64 (2))).setCell ⟨w.heap.size, 1, none⟩ (.int .i64 (0))).setCell ⟨w.heap.size, 2, none⟩ (.string (str s))) := (by repeat (first | exact Below.refl _ _ | assumption | apply below_drewN' | apply Below.drew | refine Below.alloc ?_ (by first | omega | (simp; done) | (simp; omega)) _ | refine Below.setCell ?_ (by first | omega | (simp; done) | (simp; omega)) _))
      clear HO hr4 hrb4 hR4
      go_wp2_with (go_at_call 47; refine HB.out.mono ?_; rintro e w5 ⟨rfl, rfl⟩)
      generalize ((w4.setCell ⟨w.heap.size, 0, none⟩ (.int .i64 (2))).setCell ⟨w.heap.size, 1, none⟩ (.int .i64 (0))).setCell ⟨w.heap.size, 2, none⟩ (.string (str s)) = WF at *
      have k0 := hF.cell 0 (v := .int .i64 (2)) rfl
      have k1 := hF.cell 1 (v := .int .i64 (0)) rfl
      have k2 := hF.cell 2 (v := .string (str s)) rfl
      refine bodyPost_ret (v := .tuple #[.agg #[.int .i64 (2), .int .i64 (0), .string (str s)], .int .i64 0]) (by simp [results, Try.results46, go_sem, k0, k1, k2]) rfl ⟨?_, bF⟩
      rw [hok.out]; rfl
    · have hne : (T == h :: rest) = false := by rw [beq_eq_false_iff_ne]; exact hT
      have hok := Lib.hid (show dkOk (h) rest = false by rw [HO, hne]; simp)
      have HB := Lib.hid (bytes_equal A4 (some ⟨g, o, none⟩) _ c4 9 c _ _ w4 hr4 hrb4)
      rw [hne] at HB
      clear HO hr4 hrb4 hT hne
      go_wp2_with (go_at_call 47; refine HB.out.mono ?_; rintro e w5 ⟨rfl, rfl⟩)
      have hF := ((hR4.set 0 (.int .i64 0)).set 1 (.int .i64 0)).set 2 (.string { data := #[] })
      have bF : Below w.heap.size w (((w4.setCell ⟨w.heap.size, 0, none⟩ (.int .i64 0)).setCell ⟨w.heap.size, 1, none⟩ (.int .i64 0)).setCell ⟨w.heap.size, 2, none⟩ (.string { data := #[] })) := (by repeat (first | exact Below.refl _ _ | assumption | apply below_drewN' | apply Below.drew | refine Below.alloc ?_ (by first | omega | (simp; done) | (simp; omega)) _ | refine Below.setCell ?_ (by first | omega | (simp; done) | (simp; omega)) _))
      generalize ((w4.setCell ⟨w.heap.size, 0, none⟩ (.int .i64 0)).setCell ⟨w.heap.size, 1, none⟩ (.int .i64 0)).setCell ⟨w.heap.size, 2, none⟩ (.string { data := #[] }) = WF at *
      have k0 := hF.cell 0 (v := .int .i64 0) rfl
      have k1 := hF.cell 1 (v := .int .i64 0) rfl
      have k2 := hF.cell 2 (v := .string { data := #[] }) rfl
      refine bodyPost_ret (v := .tuple #[.agg #[.int .i64 0, .int .i64 0, .string { data := #[] }], .int .i64 2]) (by simp [results, Try.results46, go_sem, k0, k1, k2]) rfl ⟨?_, bF⟩
      rw [hok.out]; rfl
  · have hne : (E != 0) = true := by rw [bne_iff_ne]; exact hE
    have hok := Lib.hid (show dkOk (h) rest = false by rw [HO]; simp [hE])
    clear HO hr4 hrb4
    · go_wp2
      have hF := ((hR4.set 0 (.int .i64 0)).set 1 (.int .i64 0)).set 2 (.string { data := #[] })
      have bF : Below w.heap.size w (((w4.setCell ⟨w.heap.size, 0, none⟩ (.int .i64 0)).setCell ⟨w.heap.size, 1, none⟩ (.int .i64 0)).setCell ⟨w.heap.size, 2, none⟩ (.string { data := #[] })) := (by repeat (first | exact Below.refl _ _ | assumption | apply below_drewN' | apply Below.drew | refine Below.alloc ?_ (by first | omega | (simp; done) | (simp; omega)) _ | refine Below.setCell ?_ (by first | omega | (simp; done) | (simp; omega)) _))
      generalize ((w4.setCell ⟨w.heap.size, 0, none⟩ (.int .i64 0)).setCell ⟨w.heap.size, 1, none⟩ (.int .i64 0)).setCell ⟨w.heap.size, 2, none⟩ (.string { data := #[] }) = WF at *
      have k0 := hF.cell 0 (v := .int .i64 0) rfl
      have k1 := hF.cell 1 (v := .int .i64 0) rfl
      have k2 := hF.cell 2 (v := .string { data := #[] }) rfl
      refine bodyPost_ret (v := .tuple #[.agg #[.int .i64 0, .int .i64 0, .string { data := #[] }], .int .i64 2]) (by simp [results, Try.results46, go_sem, k0, k1, k2]) rfl ⟨?_, bF⟩
      rw [hok.out]; rfl

set_option maxHeartbeats 600000 in
set_option maxRecDepth 100000 in
theorem dec_big (g o c : Nat) (h : UInt8) (rest : List UInt8) (w : World) (hr : RB w (some ⟨g, o, none⟩) 9 c (h :: rest)) (h2 : 10 < h.toNat) :
    Calls Try.prog 46 #[.slice (some ⟨g, o, none⟩) 9 c] w fun e w' => e = dkRet (dkOk h rest) 2 0 rest ∧ Below w.heap.size w w' := by
  obtain ⟨_, _, e, hc⟩ := hr.at_ (by omega)
  injection e with e
  injection e with e1 e2
  subst e1; subst e2
  have hc0 : w.cell? ⟨g, o, none⟩ = some (.int .u8 (h.toNat)) := hc 0 h rfl
  have hlt := World.block_lt_of_cell? w _ hc0
  have hcap := hr.cap
  have hmax := hr.max
  unfold maxLen at hmax
  have hrl : rest.length = 8 := by have := hr.len; simpa using this
  have hb0 : Below w.heap.size w (w.alloc (.cells #[.int .i64 0, .int .i64 0, .string { data := #[] }] 51)) := (by repeat (first | exact Below.refl _ _ | assumption | apply below_drewN' | apply Below.drew | refine Below.alloc ?_ (by first | omega | (simp; done) | (simp; omega)) _ | refine Below.setCell ?_ (by first | omega | (simp; done) | (simp; omega)) _))
  have hR0 := Blk.new w #[.int .i64 0, .int .i64 0, .string { data := #[] }] 51
  have hrd := hr.drop 1 (by omega)
  have hrd0 := hrd.alloc (.cells #[.int .i64 0, .int .i64 0, .string { data := #[] }] 51)
  have hcv := hrd0.conv
  rw [List.drop_succ_cons, List.drop_zero] at hcv
  clear hc hrd hrd0
  have hne1 : h ≠ 1 := fun e => by rw [e] at h2; exact absurd h2 (by decide)
  have hne0 : h ≠ 0 := fun e => by rw [e] at h2; exact absurd h2 (by decide)
  have HO := dkOk_enc h rest hne0
  have HE := fun w => enc_any 2 0 rest w
  have hs : rest.take (min (h.toNat - 1) 9 - 1) = rest := by rw [show min (h.toNat - 1) 9 - 1 = 8 by omega, List.take_of_length_le (by omega)]
  simp only [dkK, dkN, dkS, if_neg hne1, hs] at HO
  clear hs
  have hwh : IntKind.i64.wrap (h.toNat : Int) = (h.toNat : Int) := IntWalk.i64_in _ (by have := h.toNat_lt; omega)
  have hi2 : 10 < (h.toNat : Int) := by omega
  have hi3 : (h.toNat : Int) < 256 := by have := h.toNat_lt; omega
  have hz0 : ((h.toNat : Int) == 0) = false := by rw [beq_eq_false_iff_ne]; omega
  generalize encT 2 0 rest = T at *
  generalize encE 2 0 rest = E at *
  go_enter Try.func46, Try.ntmps46
  go_wp2_with fail
  refine (val_number rest _ (by omega)).mono ?_
  rintro e w1 ⟨rfl, hb1⟩
  have hR1 := hR0.below hb1 hR0.lt
  have b1 := hb0.next hb1 (Nat.le_refl _)
  have q1 := hR1.lt
  have hc1 := (b1.cell (p := ⟨g, o, none⟩) hlt).trans hc0
  have hg1 : g < w1.heap.size := by have := b1.size; omega
  have hcj : (convert 22 9 (.slice (some ⟨g, o + 1, none⟩) 8 (c - 1))).run Try.prog (w1.alloc (.cells #[.int .i64 1, .int .i64 (wrap64 (numB rest)), .string (ByteArray.mk #[])] 51)) = .ok (.string (str rest)) (w1.alloc (.cells #[.int .i64 1, .int .i64 (wrap64 (numB rest)), .string (ByteArray.mk #[])] 51)) := by
    have := (((hr.below b1).drop 1 (by omega)).alloc (.cells #[.int .i64 1, .int .i64 (wrap64 (numB rest)), .string (ByteArray.mk #[])] 51)).conv
    rw [List.drop_succ_cons, List.drop_zero] at this
    exact this
  go_wp2_with fail
  refine (HE _).mono ?_
  rintro e w4 ⟨v4, rfl, ho4, hb4⟩
  have hR4 := (hR1.alloc (.cells #[.int .i64 (2), .int .i64 (0), .string (str rest)] 51)).below hb4 (by simp; omega)
  have hV4 := (Blk.new w1 #[.int .i64 (2), .int .i64 (0), .string (str rest)] 51).below hb4 (by simp)
  have b4 := (b1.alloc (by omega) (.cells #[.int .i64 (2), .int .i64 (0), .string (str rest)] 51)).trans (hb4.mono (by simp; omega))
  have q4 := hR4.lt
  have q5 := hV4.lt
  obtain ⟨A4, c4, rfl, _, _⟩ := ho4.form
  have hr4 := ho4.reads
  clear ho4
  generalize T.length = n4 at *
  have hrb4 := hr.below b4
  have f0 := hR4.fz 0
  have f1 := hR4.fz 1
  have f2 := hR4.fz 2
  have r0 := hR4.cell 0 (v := .int .i64 0) rfl
  have r1 := hR4.cell 1 (v := .int .i64 0) rfl
  have r2 := hR4.cell 2 (v := .string { data := #[] }) rfl
  have v0 := hV4.cell 0 (v := .int .i64 (2)) rfl
  have v1 := hV4.cell 1 (v := .int .i64 (0)) rfl
  have v2 := hV4.cell 2 (v := .string (str rest)) rfl
  clear HE hb4 hb1 hR0 hR1 b1 hb0 hV4
  by_cases hE : E = 0
  · subst hE
    by_cases hT : T = h :: rest
    · subst hT
      have hok := Lib.hid (show dkOk (h) rest = true by rw [HO]; simp)
      have HB := Lib.hid (bytes_equal A4 (some ⟨g, o, none⟩) _ c4 9 c _ _ w4 hr4 hrb4)
      rw [beq_self_eq_true] at HB
      have hF := ((hR4.set 0 (.int .i64 (2))).set 1 (.int .i64 (0))).set 2 (.string (str rest))
      have bF : Below w.heap.size w (((w4.setCell ⟨w.heap.size, 0, none⟩ (.int .i64 (2))).setCell ⟨w.heap.size, 1, none⟩ (.int .i64 (0))).setCell ⟨w.heap.size, 2, none⟩ (.string (str rest))) := (by repeat (first | exact Below.refl _ _ | assumption | apply below_drewN' | apply Below.drew | refine Below.alloc ?_ (by first | omega | (simp; done) | (simp; omega)) _ | refine Below.setCell ?_ (by first | omega | (simp; done) | (simp; omega)) _))
      clear HO hr4 hrb4 hR4
      go_wp2_with (go_at_call 47; refine HB.out.mono ?_; rintro e w5 ⟨rfl, rfl⟩)
      generalize ((w4.setCell ⟨w.heap.size, 0, none⟩ (.int .i64 (2))).setCell ⟨w.heap.size, 1, none⟩ (.int .i64 (0))).setCell ⟨w.heap.size, 2, none⟩ (.string (str rest)) = WF at *
      have k0 := hF.cell 0 (v := .int .i64 (2)) rfl
      have k1 := hF.cell 1 (v := .int .i64 (0)) rfl
      have k2 := hF.cell 2 (v := .string (str rest)) rfl
      refine bodyPost_ret (v := .tuple #[.agg #[.int .i64 (2), .int .i64 (0), .string (str rest)], .int .i64 0]) (by simp [results, Try.results46, go_sem, k0, k1, k2]) rfl ⟨?_, bF⟩
      rw [hok.out]; rfl
    · have hne : (T == h :: rest) = false := by rw [beq_eq_false_iff_ne]; exact hT
      have hok := Lib.hid (show dkOk (h) rest = false by rw [HO, hne]; simp)
      have HB := Lib.hid (bytes_equal A4 (some ⟨g, o, none⟩) _ c4 9 c _ _ w4 hr4 hrb4)
      rw [hne] at HB
      clear HO hr4 hrb4 hT hne
      go_wp2_with (go_at_call 47; refine HB.out.mono ?_; rintro e w5 ⟨rfl, rfl⟩)
      have hF := ((hR4.set 0 (.int .i64 0)).set 1 (.int .i64 0)).set 2 (.string { data := #[] })
      have bF : Below w.heap.size w (((w4.setCell ⟨w.heap.size, 0, none⟩ (.int .i64 0)).setCell ⟨w.heap.size, 1, none⟩ (.int .i64 0)).setCell ⟨w.heap.size, 2, none⟩ (.string { data := #[] })) := (by repeat (first | exact Below.refl _ _ | assumption | apply below_drewN' | apply Below.drew | refine Below.alloc ?_ (by first | omega | (simp; done) | (simp; omega)) _ | refine Below.setCell ?_ (by first | omega | (simp; done) | (simp; omega)) _))
      generalize ((w4.setCell ⟨w.heap.size, 0, none⟩ (.int .i64 0)).setCell ⟨w.heap.size, 1, none⟩ (.int .i64 0)).setCell ⟨w.heap.size, 2, none⟩ (.string { data := #[] }) = WF at *
      have k0 := hF.cell 0 (v := .int .i64 0) rfl
      have k1 := hF.cell 1 (v := .int .i64 0) rfl
      have k2 := hF.cell 2 (v := .string { data := #[] }) rfl
      refine bodyPost_ret (v := .tuple #[.agg #[.int .i64 0, .int .i64 0, .string { data := #[] }], .int .i64 2]) (by simp [results, Try.results46, go_sem, k0, k1, k2]) rfl ⟨?_, bF⟩
      rw [hok.out]; rfl
  · have hne : (E != 0) = true := by rw [bne_iff_ne]; exact hE
    have hok := Lib.hid (show dkOk (h) rest = false by rw [HO]; simp [hE])
    clear HO hr4 hrb4
    · go_wp2
      have hF := ((hR4.set 0 (.int .i64 0)).set 1 (.int .i64 0)).set 2 (.string { data := #[] })
      have bF : Below w.heap.size w (((w4.setCell ⟨w.heap.size, 0, none⟩ (.int .i64 0)).setCell ⟨w.heap.size, 1, none⟩ (.int .i64 0)).setCell ⟨w.heap.size, 2, none⟩ (.string { data := #[] })) := (by repeat (first | exact Below.refl _ _ | assumption | apply below_drewN' | apply Below.drew | refine Below.alloc ?_ (by first | omega | (simp; done) | (simp; omega)) _ | refine Below.setCell ?_ (by first | omega | (simp; done) | (simp; omega)) _))
      generalize ((w4.setCell ⟨w.heap.size, 0, none⟩ (.int .i64 0)).setCell ⟨w.heap.size, 1, none⟩ (.int .i64 0)).setCell ⟨w.heap.size, 2, none⟩ (.string { data := #[] }) = WF at *
      have k0 := hF.cell 0 (v := .int .i64 0) rfl
      have k1 := hF.cell 1 (v := .int .i64 0) rfl
      have k2 := hF.cell 2 (v := .string { data := #[] }) rfl
      refine bodyPost_ret (v := .tuple #[.agg #[.int .i64 0, .int .i64 0, .string { data := #[] }], .int .i64 2]) (by simp [results, Try.results46, go_sem, k0, k1, k2]) rfl ⟨?_, bF⟩
      rw [hok.out]; rfl
end Go.Proofs.Ytfldmejjepakeaa
