/- Contracts of values: the document's Decode. -/
import Derived.Test.YtfldmejjepakeaaVal12
namespace Go.Proofs.Ytfldmejjepakeaa
open Go.ChangeShapes Go.WideShapes Go.ChangeAt Go.RowKit
open Go.ChangeMaps (open_string shut_string)
set_option linter.unusedVariables false
set_option linter.unusedSimpArgs false
set_option maxRecDepth 100000

theorem dkOk_T (h : UInt8) (rest : List UInt8) (h0 : h ≠ 0) : dkOk h rest = (encT (dkK h) (dkN h rest) (dkS h rest) == h :: rest) := by
  have e : (h != 0) = true := by rw [bne_iff_ne]; exact h0
  unfold dkOk encT
  rw [e]
  cases mayV (dkK h) (dkN h rest) (dkS h rest) <;> simp
theorem dkOk_big (h : UInt8) (rest : List UInt8) (hl : rest.length = 8) (h2 : 10 < h.toNat) : dkOk h rest = false := by
  have hne1 : h ≠ 1 := fun e => by rw [e] at h2; exact absurd h2 (by decide)
  have hs : rest.take (min (h.toNat - 1) 9 - 1) = rest := by rw [show min (h.toNat - 1) 9 - 1 = 8 by omega, List.take_of_length_le (by omega)]
  have : (encB 2 0 rest == h :: rest) = false := by
    rw [beq_eq_false_iff_ne]
    intro e
    unfold encB at e
    rw [if_neg (by decide), hl] at e
    injection e with e _
    rw [← e] at h2
    exact absurd h2 (by decide)
  unfold dkOk
  simp only [dkK, dkN, dkS, if_neg hne1, hs, this, Bool.and_false]

set_option maxRecDepth 100000 in
theorem rdec_short (A : Option Addr) (n c : Nat) (l : List UInt8) (w : World) (hr : RB w A n c l) (h : n ≠ 9) (hn : n ≤ 1099511627776) :
    Calls Try.prog 48 #[.slice A n c] w fun e w' => e = dkRet false 0 0 [] ∧ Below w.heap.size w w' := by
  have hne : ((n : Int) != 9) = true := by rw [bne_iff_ne]; omega
  go_enter Try.func48, Try.ntmps48
  go_wp2
  refine bodyPost_ret (v := .tuple #[.agg #[.int .i64 0, .int .i64 0, .string (str [])], .int .i64 2]) (by simp [results, Try.results48, go_sem, str]) rfl ⟨rfl, (by repeat (first | exact Below.refl _ _ | assumption | apply below_drewN' | apply Below.drew | refine Below.alloc ?_ (by first | omega | (simp; done) | (simp; omega)) _ | refine Below.setCell ?_ (by first | omega | (simp; done) | (simp; omega)) _))⟩

set_option maxHeartbeats 600000 in
set_option maxRecDepth 100000 in
theorem rdec_out (g o c : Nat) (h : UInt8) (rest : List UInt8) (w : World) (hr : RB w (some ⟨g, o, none⟩) 9 c (h :: rest)) (hz : h.toNat = 0 ∨ 10 < h.toNat) :
    Calls Try.prog 48 #[.slice (some ⟨g, o, none⟩) 9 c] w fun e w' => e = dkRet false 0 0 [] ∧ Below w.heap.size w w' := by
  obtain ⟨_, _, e, hc⟩ := hr.at_ (by omega)
  injection e with e
  injection e with e1 e2
  subst e1; subst e2
  have hc0 : w.cell? ⟨g, o, none⟩ = some (.int .u8 h.toNat) := hc 0 h rfl
  have hlt := World.block_lt_of_cell? w _ hc0
  clear hc
  rcases hz with hz | hz
  · rw [hz] at hc0
    go_enter Try.func48, Try.ntmps48
    go_wp2
    refine bodyPost_ret (v := .tuple #[.agg #[.int .i64 0, .int .i64 0, .string (str [])], .int .i64 2]) (by simp [results, Try.results48, go_sem, str]) rfl ⟨rfl, (by repeat (first | exact Below.refl _ _ | assumption | apply below_drewN' | apply Below.drew | refine Below.alloc ?_ (by first | omega | (simp; done) | (simp; omega)) _ | refine Below.setCell ?_ (by first | omega | (simp; done) | (simp; omega)) _))⟩
  · have h1 : 10 < (h.toNat : Int) := by omega
    go_enter Try.func48, Try.ntmps48
    go_wp2
    refine bodyPost_ret (v := .tuple #[.agg #[.int .i64 0, .int .i64 0, .string (str [])], .int .i64 2]) (by simp [results, Try.results48, go_sem, str]) rfl ⟨rfl, (by repeat (first | exact Below.refl _ _ | assumption | apply below_drewN' | apply Below.drew | refine Below.alloc ?_ (by first | omega | (simp; done) | (simp; omega)) _ | refine Below.setCell ?_ (by first | omega | (simp; done) | (simp; omega)) _))⟩


set_option maxHeartbeats 600000 in
set_option maxRecDepth 100000 in
theorem rdec_int (g o c : Nat) (rest : List UInt8) (w : World) (hr : RB w (some ⟨g, o, none⟩) 9 c (1 :: rest)) :
    Calls Try.prog 48 #[.slice (some ⟨g, o, none⟩) 9 c] w fun e w' => e = dkRet (dkOk 1 rest) 1 (wrap64 (numB rest)) [] ∧ Below w.heap.size w w' := by
  obtain ⟨_, _, e, hc⟩ := hr.at_ (by omega)
  injection e with e
  injection e with e1 e2
  subst e1; subst e2
  have hc0 : w.cell? ⟨g, o, none⟩ = some (.int .u8 (1)) := hc 0 1 rfl
  have hlt := World.block_lt_of_cell? w _ hc0
  have hcap := hr.cap
  have hmax := hr.max
  unfold maxLen at hmax
  have hrl : rest.length = 8 := by have := hr.len; simpa using this
  have hb0 : Below w.heap.size w (w.alloc (.cells #[.int .i64 0, .int .i64 0, .string { data := #[] }] 51)) := (by repeat (first | exact Below.refl _ _ | assumption | apply below_drewN' | apply Below.drew | refine Below.alloc ?_ (by first | omega | (simp; done) | (simp; omega)) _ | refine Below.setCell ?_ (by first | omega | (simp; done) | (simp; omega)) _))
  have hR0 := Blk.new w #[.int .i64 0, .int .i64 0, .string { data := #[] }] 51
  have hrd := hr.drop 1 (by omega)
  have hrd0 := hrd.alloc (.cells #[.int .i64 0, .int .i64 0, .string { data := #[] }] 51)
  rw [List.drop_succ_cons, List.drop_zero] at hrd0
  clear hc hrd
  have HO := dkOk_T 1 rest (by decide)
  have HE := fun w => renc_any 1 (wrap64 (numB rest)) [] w
  simp only [dkK, dkN, dkS, if_true] at HO
  generalize encT 1 (wrap64 (numB rest)) [] = T at *
  generalize encE 1 (wrap64 (numB rest)) [] = E at *
  go_enter Try.func48, Try.ntmps48
  go_wp2_with fail
  have hWs : (w.alloc (.cells #[.int .i64 0, .int .i64 0, .string { data := #[] }] 51)).heap.size = w.heap.size + 1 := World.size_alloc _ _
  have HN := ref_number (some ⟨g, o + 1, none⟩) (c - 1) rest _ (by rw [hrl]; exact hrd0) (by omega)
  rw [hrl] at HN
  have hR1 := hR0
  have b1 := hb0
  clear hR0 hb0 hrd0
  generalize w.alloc (.cells #[.int .i64 0, .int .i64 0, .string { data := #[] }] 51) = w1 at *
  have HWs := Lib.hid hWs
  clear hWs
  refine HN.mono ?_
  rintro e w2 ⟨rfl, rfl⟩
  clear HN
  have q1 := hR1.lt
  have hc1 := (b1.cell (p := ⟨g, o, none⟩) hlt).trans hc0
  have hg1 : g < w1.heap.size := by have := b1.size; omega
  go_wp2_with fail
  refine (HE _).mono ?_
  rintro e w4 ⟨v4, rfl, ho4, hb4⟩
  have hR4 := (hR1.alloc (.cells #[.int .i64 (1), .int .i64 (wrap64 (numB rest)), .string (ByteArray.mk #[])] 51)).below hb4 (by simp; omega)
  have hV4 := (Blk.new w1 #[.int .i64 (1), .int .i64 (wrap64 (numB rest)), .string (ByteArray.mk #[])] 51).below hb4 (by simp)
  have b4 := (b1.alloc (by omega) (.cells #[.int .i64 (1), .int .i64 (wrap64 (numB rest)), .string (ByteArray.mk #[])] 51)).trans (hb4.mono (by simp; omega))
  have q4 := hR4.lt
  have q5 := hV4.lt
  obtain ⟨A4, c4, rfl, _, _⟩ := ho4.form
  have hr4 := ho4.reads
  clear ho4
  generalize T.length = n4 at *
  have hrb4 := hr.below b4
  have f0 := hR4.fz 0
  have f1 := hR4.fz 1
  have f2 := hR4.fz 2
  have r0 := hR4.cell 0 (v := .int .i64 0) rfl
  have r1 := hR4.cell 1 (v := .int .i64 0) rfl
  have r2 := hR4.cell 2 (v := .string { data := #[] }) rfl
  have v0 := hV4.cell 0 (v := .int .i64 (1)) rfl
  have v1 := hV4.cell 1 (v := .int .i64 (wrap64 (numB rest))) rfl
  have v2 := hV4.cell 2 (v := .string (ByteArray.mk #[])) rfl
  clear HE hb4 hR1 b1 hV4
  by_cases hT : T = 1 :: rest
  · subst hT
    have hok := Lib.hid (show dkOk (1) rest = true by rw [HO]; simp)
    have HB := Lib.hid (ref_Bytes A4 (some ⟨g, o, none⟩) _ c4 9 c _ _ w4 hr4 hrb4)
    rw [beq_self_eq_true] at HB
    have hF := ((hR4.set 0 (.int .i64 (1))).set 1 (.int .i64 (wrap64 (numB rest)))).set 2 (.string (ByteArray.mk #[]))
    have bF : Below w.heap.size w (((w4.setCell ⟨w.heap.size, 0, none⟩ (.int .i64 (1))).setCell ⟨w.heap.size, 1, none⟩ (.int .i64 (wrap64 (numB rest)))).setCell ⟨w.heap.size, 2, none⟩ (.string (ByteArray.mk #[]))) := (by repeat (first | exact Below.refl _ _ | assumption | apply below_drewN' | apply Below.drew | refine Below.alloc ?_ (by first | omega | (simp; done) | (simp; omega)) _ | refine Below.setCell ?_ (by first | omega | (simp; done) | (simp; omega)) _))
    clear HO hr4 hrb4 hR4
    go_wp2_with (go_at_call 20; refine HB.out.mono ?_; rintro e w5 ⟨rfl, rfl⟩)
    generalize ((w4.setCell ⟨w.heap.size, 0, none⟩ (.int .i64 (1))).setCell ⟨w.heap.size, 1, none⟩ (.int .i64 (wrap64 (numB rest)))).setCell ⟨w.heap.size, 2, none⟩ (.string (ByteArray.mk #[])) = WF at *
    have k0 := hF.cell 0 (v := .int .i64 (1)) rfl
    have k1 := hF.cell 1 (v := .int .i64 (wrap64 (numB rest))) rfl
    have k2 := hF.cell 2 (v := .string (ByteArray.mk #[])) rfl
    refine bodyPost_ret (v := .tuple #[.agg #[.int .i64 (1), .int .i64 (wrap64 (numB rest)), .string (ByteArray.mk #[])], .int .i64 0]) (by simp [results, Try.results48, go_sem, k0, k1, k2]) rfl ⟨?_, bF⟩
    rw [hok.out]; rfl
  · have hne : (T == 1 :: rest) = false := by rw [beq_eq_false_iff_ne]; exact hT
    have hok := Lib.hid (show dkOk (1) rest = false by rw [HO, hne])
    have HB := Lib.hid (ref_Bytes A4 (some ⟨g, o, none⟩) _ c4 9 c _ _ w4 hr4 hrb4)
    rw [hne] at HB
    clear HO hr4 hrb4 hT hne
    go_wp2_with (go_at_call 20; refine HB.out.mono ?_; rintro e w5 ⟨rfl, rfl⟩)
    have hF := ((hR4.set 0 (.int .i64 0)).set 1 (.int .i64 0)).set 2 (.string { data := #[] })
    have bF : Below w.heap.size w (((w4.setCell ⟨w.heap.size, 0, none⟩ (.int .i64 0)).setCell ⟨w.heap.size, 1, none⟩ (.int .i64 0)).setCell ⟨w.heap.size, 2, none⟩ (.string { data := #[] })) := (by repeat (first | exact Below.refl _ _ | assumption | apply below_drewN' | apply Below.drew | refine Below.alloc ?_ (by first | omega | (simp; done) | (simp; omega)) _ | refine Below.setCell ?_ (by first | omega | (simp; done) | (simp; omega)) _))
    generalize ((w4.setCell ⟨w.heap.size, 0, none⟩ (.int .i64 0)).setCell ⟨w.heap.size, 1, none⟩ (.int .i64 0)).setCell ⟨w.heap.size, 2, none⟩ (.string { data := #[] }) = WF at *
    have k0 := hF.cell 0 (v := .int .i64 0) rfl
    have k1 := hF.cell 1 (v := .int .i64 0) rfl
    have k2 := hF.cell 2 (v := .string { data := #[] }) rfl
    refine bodyPost_ret (v := .tuple #[.agg #[.int .i64 0, .int .i64 0, .string { data := #[] }], .int .i64 2]) (by simp [results, Try.results48, go_sem, k0, k1, k2]) rfl ⟨?_, bF⟩
    rw [hok.out]; rfl

set_option maxHeartbeats 600000 in
set_option maxRecDepth 100000 in
theorem rdec_small (g o c : Nat) (h : UInt8) (rest : List UInt8) (w : World) (hr : RB w (some ⟨g, o, none⟩) 9 c (h :: rest)) (h1 : 2 ≤ h.toNat) (h2 : h.toNat ≤ 10) :
    Calls Try.prog 48 #[.slice (some ⟨g, o, none⟩) 9 c] w fun e w' => e = dkRet (dkOk h rest) 2 0 (rest.take (h.toNat - 2)) ∧ Below w.heap.size w w' := by
  obtain ⟨_, _, e, hc⟩ := hr.at_ (by omega)
  injection e with e
  injection e with e1 e2
  subst e1; subst e2
  have hc0 : w.cell? ⟨g, o, none⟩ = some (.int .u8 (h.toNat)) := hc 0 h rfl
  have hlt := World.block_lt_of_cell? w _ hc0
  have hcap := hr.cap
  have hmax := hr.max
  unfold maxLen at hmax
  have hrl : rest.length = 8 := by have := hr.len; simpa using this
  have hb0 : Below w.heap.size w (w.alloc (.cells #[.int .i64 0, .int .i64 0, .string { data := #[] }] 51)) := (by repeat (first | exact Below.refl _ _ | assumption | apply below_drewN' | apply Below.drew | refine Below.alloc ?_ (by first | omega | (simp; done) | (simp; omega)) _ | refine Below.setCell ?_ (by first | omega | (simp; done) | (simp; omega)) _))
  have hR0 := Blk.new w #[.int .i64 0, .int .i64 0, .string { data := #[] }] 51
  have hrd := hr.drop 1 (by omega)
  have hrd0 := hrd.alloc (.cells #[.int .i64 0, .int .i64 0, .string { data := #[] }] 51)
  rw [List.drop_succ_cons, List.drop_zero] at hrd0
  clear hc hrd
  have hne1 : h ≠ 1 := fun e => by rw [e] at h1; exact absurd h1 (by decide)
  have hne0 : h ≠ 0 := fun e => by rw [e] at h1; exact absurd h1 (by decide)
  have HO := dkOk_T h rest hne0
  have HE := fun w => renc_any 2 0 (rest.take (h.toNat - 2)) w
  have hs : rest.take (min (h.toNat - 1) 9 - 1) = rest.take (h.toNat - 2) := by rw [show min (h.toNat - 1) 9 - 1 = h.toNat - 2 by omega]
  simp only [dkK, dkN, dkS, if_neg hne1, hs] at HO
  clear hs
  have hwh : IntKind.u8.wrap ((h.toNat : Int) - 1) = (h.toNat : Int) - 1 := by rw [IntKind.wrap_u8]; omega
  have hi1 : 2 ≤ (h.toNat : Int) := by omega
  have hi2 : (h.toNat : Int) ≤ 10 := by omega
  generalize hs : rest.take (h.toNat - 2) = s at *
  generalize encT 2 0 s = T at *
  generalize encE 2 0 s = E at *
  go_enter Try.func48, Try.ntmps48
  go_wp2_with fail
  have hWs : (w.alloc (.cells #[.int .i64 0, .int .i64 0, .string { data := #[] }] 51)).heap.size = w.heap.size + 1 := World.size_alloc _ _
  have HN := ref_number (some ⟨g, o + 1, none⟩) (c - 1) rest _ (by rw [hrl]; exact hrd0) (by omega)
  rw [hrl] at HN
  have hR1 := hR0
  have b1 := hb0
  clear hR0 hb0 hrd0
  generalize w.alloc (.cells #[.int .i64 0, .int .i64 0, .string { data := #[] }] 51) = w1 at *
  have HWs := Lib.hid hWs
  clear hWs
  refine HN.mono ?_
  rintro e w2 ⟨rfl, rfl⟩
  clear HN
  have q1 := hR1.lt
  have hc1 := (b1.cell (p := ⟨g, o, none⟩) hlt).trans hc0
  have hg1 : g < w1.heap.size := by have := b1.size; omega
  have hcj : (convert 22 9 (.slice (some ⟨g, o + 1, none⟩) (h.toNat - 1 - 1) (c - 1))).run Try.prog (w1.alloc (.cells #[.int .i64 1, .int .i64 (wrap64 (numB rest)), .string (ByteArray.mk #[])] 51)) = .ok (.string (str s)) (w1.alloc (.cells #[.int .i64 1, .int .i64 (wrap64 (numB rest)), .string (ByteArray.mk #[])] 51)) := by
    have := ((((hr.below b1).drop 1 (by omega)).take (h.toNat - 1 - 1) (by omega)).alloc (.cells #[.int .i64 1, .int .i64 (wrap64 (numB rest)), .string (ByteArray.mk #[])] 51)).conv
    rw [List.drop_succ_cons, List.drop_zero, show h.toNat - 1 - 1 = h.toNat - 2 by omega, hs] at this
    rw [show h.toNat - 1 - 1 = h.toNat - 2 by omega]
    exact this
  go_wp2_with fail
  refine (HE _).mono ?_
  rintro e w4 ⟨v4, rfl, ho4, hb4⟩
  have hR4 := (hR1.alloc (.cells #[.int .i64 (2), .int .i64 (0), .string (str s)] 51)).below hb4 (by simp; omega)
  have hV4 := (Blk.new w1 #[.int .i64 (2), .int .i64 (0), .string (str s)] 51).below hb4 (by simp)
  have b4 := (b1.alloc (by omega) (.cells #[.int .i64 (2), .int .i64 (0), .string (str s)] 51)).trans (hb4.mono (by simp; omega))
  have q4 := hR4.lt
  have q5 := hV4.lt
  obtain ⟨A4, c4, rfl, _, _⟩ := ho4.form
  have hr4 := ho4.reads
  clear ho4
  generalize T.length = n4 at *
  have hrb4 := hr.below b4
  have f0 := hR4.fz 0
  have f1 := hR4.fz 1
  have f2 := hR4.fz 2
  have r0 := hR4.cell 0 (v := .int .i64 0) rfl
  have r1 := hR4.cell 1 (v := .int .i64 0) rfl
  have r2 := hR4.cell 2 (v := .string { data := #[] }) rfl
  have v0 := hV4.cell 0 (v := .int .i64 (2)) rfl
  have v1 := hV4.cell 1 (v := .int .i64 (0)) rfl
  have v2 := hV4.cell 2 (v := .string (str s)) rfl
  clear HE hb4 hR1 b1 hV4
  by_cases hT : T = h :: rest
  · subst hT
    have hok := Lib.hid (show dkOk (h) rest = true by rw [HO]; simp)
    have HB := Lib.hid (ref_Bytes A4 (some ⟨g, o, none⟩) _ c4 9 c _ _ w4 hr4 hrb4)
    rw [beq_self_eq_true] at HB
    have hF := ((hR4.set 0 (.int .i64 (2))).set 1 (.int .i64 (0))).set 2 (.string (str s))
    have bF : Below w.heap.size w (((w4.setCell ⟨w.heap.size, 0, none⟩ (.int .i64 (2))).setCell ⟨w.heap.size, 1, none⟩ (.int .i64 (0))).setCell ⟨w.heap.size, 2, none⟩ (.string (str s))) := (by repeat (first | exact Below.refl _ _ | assumption | apply below_drewN' | apply Below.drew | refine Below.alloc ?_ (by first | omega | (simp; done) | (simp; omega)) _ | refine Below.setCell ?_ (by first | omega | (simp; done) | (simp; omega)) _))
    clear HO hr4 hrb4 hR4
    go_wp2_with (go_at_call 20; refine HB.out.mono ?_; rintro e w5 ⟨rfl, rfl⟩)
    generalize ((w4.setCell ⟨w.heap.size, 0, none⟩ (.int .i64 (2))).setCell ⟨w.heap.size, 1, none⟩ (.int .i64 (0))).setCell ⟨w.heap.size, 2, none⟩ (.string (str s)) = WF at *
    have k0 := hF.cell 0 (v := .int .i64 (2)) rfl
    have k1 := hF.cell 1 (v := .int .i64 (0)) rfl
    have k2 := hF.cell 2 (v := .string (str s)) rfl
    refine bodyPost_ret (v := .tuple #[.agg #[.int .i64 (2), .int .i64 (0), .string (str s)], .int .i64 0]) (by simp [results, Try.results48, go_sem, k0, k1, k2]) rfl ⟨?_, bF⟩
    rw [hok.out]; rfl
  · have hne : (T == h :: rest) = false := by rw [beq_eq_false_iff_ne]; exact hT
    have hok := Lib.hid (show dkOk (h) rest = false by rw [HO, hne])
    have HB := Lib.hid (ref_Bytes A4 (some ⟨g, o, none⟩) _ c4 9 c _ _ w4 hr4 hrb4)
    rw [hne] at HB
    clear HO hr4 hrb4 hT hne
    go_wp2_with (go_at_call 20; refine HB.out.mono ?_; rintro e w5 ⟨rfl, rfl⟩)
    have hF := ((hR4.set 0 (.int .i64 0)).set 1 (.int .i64 0)).set 2 (.string { data := #[] })
    have bF : Below w.heap.size w (((w4.setCell ⟨w.heap.size, 0, none⟩ (.int .i64 0)).setCell ⟨w.heap.size, 1, none⟩ (.int .i64 0)).setCell ⟨w.heap.size, 2, none⟩ (.string { data := #[] })) := (by repeat (first | exact Below.refl _ _ | assumption | apply below_drewN' | apply Below.drew | refine Below.alloc ?_ (by first | omega | (simp; done) | (simp; omega)) _ | refine Below.setCell ?_ (by first | omega | (simp; done) | (simp; omega)) _))
    generalize ((w4.setCell ⟨w.heap.size, 0, none⟩ (.int .i64 0)).setCell ⟨w.heap.size, 1, none⟩ (.int .i64 0)).setCell ⟨w.heap.size, 2, none⟩ (.string { data := #[] }) = WF at *
    have k0 := hF.cell 0 (v := .int .i64 0) rfl
    have k1 := hF.cell 1 (v := .int .i64 0) rfl
    have k2 := hF.cell 2 (v := .string { data := #[] }) rfl
    refine bodyPost_ret (v := .tuple #[.agg #[.int .i64 0, .int .i64 0, .string { data := #[] }], .int .i64 2]) (by simp [results, Try.results48, go_sem, k0, k1, k2]) rfl ⟨?_, bF⟩
    rw [hok.out]; rfl

/-- What a text reads as. -/
def dkL (l : List UInt8) : Ending :=
  if l.length = 9 then dkRet (dkOk (l.getD 0 0) (l.drop 1)) (dkK (l.getD 0 0)) (dkN (l.getD 0 0) (l.drop 1)) (dkS (l.getD 0 0) (l.drop 1)) else dkRet false 0 0 []
theorem dkRet_no (k n k' n' : Int) (s s' : List UInt8) : dkRet false k n s = dkRet false k' n' s' := rfl
theorem dkOk_zero (rest : List UInt8) : dkOk 0 rest = false := by unfold dkOk; simp
theorem nine_shape (l : List UInt8) (h : l.length = 9) : ∃ a rest, l = a :: rest ∧ rest.length = 8 := by
  match l, h with
  | a :: rest, h => exact ⟨a, rest, rfl, by simpa using h⟩
theorem dkL_shape (a : UInt8) (rest : List UInt8) (h : rest.length = 8) : dkL (a :: rest) = dkRet (dkOk a rest) (dkK a) (dkN a rest) (dkS a rest) := by
  unfold dkL
  rw [if_pos (by simp [h])]
  rfl
theorem dec_any (A : Option Addr) (n c : Nat) (l : List UInt8) (w : World) (hr : RB w A n c l) (hn : n ≤ 1099511627776) :
    Calls Try.prog 46 #[.slice A n c] w fun e w' => e = dkL l ∧ Below w.heap.size w w' := by
  have hlen := hr.len
  by_cases h : n = 9
  · subst h
    obtain ⟨g, o, rfl, _⟩ := hr.at_ (by omega)
    obtain ⟨a, rest, rfl, hm⟩ := nine_shape l hlen
    rw [dkL_shape a rest hm]
    by_cases h0 : a = 0
    · subst h0
      rw [dkOk_zero, dkRet_no _ _ 0 0 _ []]
      exact dec_zero g o c rest w hr
    · by_cases h1 : a = 1
      · subst h1
        have := dec_int g o c rest w hr
        simpa [dkK, dkN, dkS] using this
      · have a0 : a.toNat ≠ 0 := fun e => h0 (UInt8.toNat_inj.1 (by rw [e]; rfl))
        have a1 : a.toNat ≠ 1 := fun e => h1 (UInt8.toNat_inj.1 (by rw [e]; rfl))
        simp only [dkK, dkN, dkS, if_neg h1]
        by_cases h2 : a.toNat ≤ 10
        · rw [show min (a.toNat - 1) 9 - 1 = a.toNat - 2 by omega]
          exact dec_small g o c a rest w hr (by omega) h2
        · rw [show min (a.toNat - 1) 9 - 1 = 8 by omega, List.take_of_length_le (by omega)]
          exact dec_big g o c a rest w hr (by omega)
  · have : dkL l = dkRet false 0 0 [] := by unfold dkL; rw [if_neg (by omega)]
    rw [this]
    exact dec_short A n c l w hr h hn
theorem rdec_any (A : Option Addr) (n c : Nat) (l : List UInt8) (w : World) (hr : RB w A n c l) (hn : n ≤ 1099511627776) :
    Calls Try.prog 48 #[.slice A n c] w fun e w' => e = dkL l ∧ Below w.heap.size w w' := by
  have hlen := hr.len
  by_cases h : n = 9
  · subst h
    obtain ⟨g, o, rfl, _⟩ := hr.at_ (by omega)
    obtain ⟨a, rest, rfl, hm⟩ := nine_shape l hlen
    rw [dkL_shape a rest hm]
    by_cases h0 : a = 0
    · subst h0
      rw [dkOk_zero, dkRet_no _ _ 0 0 _ []]
      exact rdec_out g o c 0 rest w hr (.inl rfl)
    · by_cases h1 : a = 1
      · subst h1
        have := rdec_int g o c rest w hr
        simpa [dkK, dkN, dkS] using this
      · have a0 : a.toNat ≠ 0 := fun e => h0 (UInt8.toNat_inj.1 (by rw [e]; rfl))
        have a1 : a.toNat ≠ 1 := fun e => h1 (UInt8.toNat_inj.1 (by rw [e]; rfl))
        by_cases h2 : a.toNat ≤ 10
        · simp only [dkK, dkN, dkS, if_neg h1]
          rw [show min (a.toNat - 1) 9 - 1 = a.toNat - 2 by omega]
          exact rdec_small g o c a rest w hr (by omega) h2
        · rw [dkOk_big a rest hm (by omega), dkRet_no _ _ 0 0 _ []]
          exact rdec_out g o c a rest w hr (.inr (by omega))
  · have : dkL l = dkRet false 0 0 [] := by unfold dkL; rw [if_neg (by omega)]
    rw [this]
    exact rdec_short A n c l w hr h hn
end Go.Proofs.Ytfldmejjepakeaa
