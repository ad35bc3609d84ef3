/- The document of chapter 19: operations of kinds 6 and 7. -/
import Derived.Test.YtdmjiaicgbcodaaPgL
namespace Go.Proofs.Ytdmjiaicgbcodaa
open Go.ChangeShapes Go.WideShapes Go.ChangeAt Go.RowKit
open Go.ChangeMaps (open_string shut_string)
set_option linter.unusedVariables false
set_option linter.unusedSimpArgs false

set_option maxHeartbeats 32000000 in
set_option maxRecDepth 100000 in
theorem ref_op6 (x : Cfg) (A : Option Addr) (n c : Nat) (Z : List (List Int)) (qr qt qc ql : Int) (qa : List ExprR) (R : Bool) (B : Option Addr) (m kk : Nat) (w : World) (h : RG w A n c Z) (h2 : RE w B m kk qa) (n1 : 1 ≤ n) (n4 : n ≤ 4) (hrows : ∀ (i : Nat) (z : List Int), Z[i]? = some z → 1 ≤ z.length ∧ z.length ≤ 4) (hres : Hid (mayO x.d n Z ⟨6, qr, qt, qc, ql, qa⟩ = R)) :
  Calls Try.prog 73 #[.agg #[.int .i64 x.h, .int .i64 x.z, .int .i64 x.b, .int .i64 x.r, .int .i64 x.d, .int .i64 x.e, .int .i64 x.s, .int .i64 x.p, .int .i64 x.q, .int .i64 x.t, .slice A n c], .agg #[.int .i64 6, .int .i64 qr, .int .i64 qt, .int .i64 qc, .int .i64 ql, .slice B m kk]] w fun e w' => e = .returned (.bool R) ∧ Below w.heap.size w w' := by
  have hZn := h.len
  have hml := h2.len
  have hmm : m ≤ maxLen := Nat.le_trans h2.cap h2.max
  unfold maxLen at hmm
  have hrows := Lib.hid hrows
  have hX0 := (Blk.new w #[.int .i64 x.h, .int .i64 x.z, .int .i64 x.b, .int .i64 x.r, .int .i64 x.d, .int .i64 x.e, .int .i64 x.s, .int .i64 x.p, .int .i64 x.q, .int .i64 x.t, .slice A n c] 24).alloc (.cells #[.int .i64 6, .int .i64 qr, .int .i64 qt, .int .i64 qc, .int .i64 ql, .slice B m kk] 51)
  have hQ0 := Blk.new2 w (.cells #[.int .i64 x.h, .int .i64 x.z, .int .i64 x.b, .int .i64 x.r, .int .i64 x.d, .int .i64 x.e, .int .i64 x.s, .int .i64 x.p, .int .i64 x.q, .int .i64 x.t, .slice A n c] 24) #[.int .i64 6, .int .i64 qr, .int .i64 qt, .int .i64 qc, .int .i64 ql, .slice B m kk] 51
  have bb : Below w.heap.size w ((w.alloc (.cells #[.int .i64 x.h, .int .i64 x.z, .int .i64 x.b, .int .i64 x.r, .int .i64 x.d, .int .i64 x.e, .int .i64 x.s, .int .i64 x.p, .int .i64 x.q, .int .i64 x.t, .slice A n c] 24)).alloc (.cells #[.int .i64 6, .int .i64 qr, .int .i64 qt, .int .i64 qc, .int .i64 ql, .slice B m kk] 51)) := (by repeat (first | exact Below.refl _ _ | assumption | apply below_drewN' | apply Below.drew | refine Below.alloc ?_ (by first | omega | (simp; done) | (simp; omega)) _ | refine Below.setCell ?_ (by first | omega | (simp; done) | (simp; omega)) _))
  by_cases m5 : 4 < m
  · have hf := Lib.hid (args_long (d := x.d) (n := n) (Z := Z) (r := qr) (t := qt) (c := qc) (l := ql) (qa := qa) (k := 6) (by omega) (fun i z hz => (hrows.out i z hz).2) (by omega))
    have m5' : (4 : Int) < (m : Int) := by omega
    have hX := hX0
    have hQ := hQ0
    have o0 := hQ.cell 0 (v := .int .i64 6) rfl; have o1 := hQ.cell 1 (v := .int .i64 qr) rfl; have o2 := hQ.cell 2 (v := .int .i64 qt) rfl; have o3 := hQ.cell 3 (v := .int .i64 qc) rfl; have o4 := hQ.cell 4 (v := .int .i64 ql) rfl; have o5 := hQ.cell 5 (v := .slice B m kk) rfl; have a4 := hX.cell 4 (v := .int .i64 x.d) rfl; have a10 := hX.cell 10 (v := .slice A n c) rfl
    go_enter Try.func73, Try.ntmps73
    go_wp2
    go_ret
    exact ⟨(show Ending.returned (.bool false) = .returned (.bool R) from by rewrite [← hres.out, hf.out]; rfl), bb⟩
  have m5' : ¬ (4 : Int) < (m : Int) := by omega
  have m4 : (m : Int) ≤ 4 := by omega
  have hX := hX0
  have hQ := hQ0
  have o0 := hQ.cell 0 (v := .int .i64 6) rfl; have o1 := hQ.cell 1 (v := .int .i64 qr) rfl; have o2 := hQ.cell 2 (v := .int .i64 qt) rfl; have o3 := hQ.cell 3 (v := .int .i64 qc) rfl; have o4 := hQ.cell 4 (v := .int .i64 ql) rfl; have o5 := hQ.cell 5 (v := .slice B m kk) rfl; have a4 := hX.cell 4 (v := .int .i64 x.d) rfl; have a10 := hX.cell 10 (v := .slice A n c) rfl
  go_enter Try.func73, Try.ntmps73
  go_wp2
  clear o0 o1 o2 o3 o4 o5 a4 a10 hX hQ
  generalize (w.alloc (.cells #[.int .i64 x.h, .int .i64 x.z, .int .i64 x.b, .int .i64 x.r, .int .i64 x.d, .int .i64 x.e, .int .i64 x.s, .int .i64 x.p, .int .i64 x.q, .int .i64 x.t, .slice A n c] 24)).alloc (.cells #[.int .i64 6, .int .i64 qr, .int .i64 qt, .int .i64 qc, .int .i64 ql, .slice B m kk] 51) = W1 at *
  go_loopw [5] (fun i wr => ∃ k : Nat, k ≤ m ∧ i = .int .i64 k ∧ Blk wr w.heap.size #[.int .i64 x.h, .int .i64 x.z, .int .i64 x.b, .int .i64 x.r, .int .i64 x.d, .int .i64 x.e, .int .i64 x.s, .int .i64 x.p, .int .i64 x.q, .int .i64 x.t, .slice A n c] 24 ∧ Blk wr (w.heap.size + 1) #[.int .i64 6, .int .i64 qr, .int .i64 qt, .int .i64 qc, .int .i64 ql, .slice B m kk] 51 ∧ Below w.heap.size w wr ∧ Hid (∀ (i : Nat) (e : ExprR), i < k → qa[i]? = some e → mayE e = true)) (fun i _ => m - (intOf i).toNat)
  case atStart => exact ⟨0, by omega, rfl, hX0, hQ0, bb, Lib.hid (fun i e hi => absurd hi (by omega))⟩
  case round =>
    obtain ⟨k, hk, rfl, hX, hQ, bl, hall⟩ := hrel
    clear hX0 hQ0 bb
    by_cases hlt : k < m
    · have o0 := hQ.cell 0 (v := .int .i64 6) rfl; have o1 := hQ.cell 1 (v := .int .i64 qr) rfl; have o2 := hQ.cell 2 (v := .int .i64 qt) rfl; have o3 := hQ.cell 3 (v := .int .i64 qc) rfl; have o4 := hQ.cell 4 (v := .int .i64 ql) rfl; have o5 := hQ.cell 5 (v := .slice B m kk) rfl; have a4 := hX.cell 4 (v := .int .i64 x.d) rfl; have a10 := hX.cell 10 (v := .slice A n c) rfl
      obtain ⟨e, he⟩ : ∃ e, qa[k]? = some e := ⟨_, List.getElem?_eq_getElem (by omega)⟩
      obtain ⟨g, o, rfl, hc⟩ := (h2.below bl).at_ (by omega)
      have hcs := hc k e he
      obtain ⟨b, hb⟩ : ∃ b, mayE e = b := ⟨_, rfl⟩
      have HF := Lib.hid (fun w => ref_expr e b w hb)
      have q0 : wr.cell? ⟨g, o + k * 5, none⟩ = some (.int .i64 e.k) := hcs 0 (.int .i64 e.k) rfl
      have q1 := hcs 1 (.int .i64 e.n) rfl
      have q2 := hcs 2 (.string e.s) rfl
      have q3 := hcs 3 (.int .i64 e.r) rfl
      have q4 := hcs 4 (.int .i64 e.c) rfl
      have hbh := Lib.hid hb
      have heh := Lib.hid he
      clear hcs hc hb he
      go_wp2_with fail
      refine (HF.out _).mono ?_
      rintro y w2 ⟨rfl, e2⟩
      replace bl := bnext bl e2
      replace hX := hX.below e2 hX.lt
      replace hQ := hQ.below e2 hQ.lt
      clear e2 o0 o1 o2 o3 o4 o5 a4 a10 q0 q1 q2 q3 q4
      cases b with
      | true =>
        go_wp2
        go_roundw
        case rel =>
          refine ⟨k + 1, by omega, by go_num, hX, hQ, bl, Lib.hid fun i y hi hy => ?_⟩
          by_cases ei : i = k
          · subst ei; rw [heh.out] at hy; injection hy with hy; rw [← hy]; exact hbh.out
          · exact hall.out i y (by omega) hy
        case measure => simp [intOf]; omega
      | false =>
        have hno := Lib.hid (all_no heh.out hbh.out)
        go_wp2
        go_ret
        exact ⟨(show Ending.returned (.bool false) = .returned (.bool R) from by rewrite [← hres.out]; simp [mayO, hno.out]), bl⟩
    · obtain rfl : m = k := by omega
      have hyes := Lib.hid (all_yes (E := qa) (fun i e hi he => hall.out i e (by omega) he))
      clear hall m5
      by_cases r1 : qr = 0
      rotate_left
      · have r2 : (qr != 0) = true := by rw [bne_iff_ne]; exact r1
        have ff : inR qr 0 (regsK 6) = false := by simp [inR, regsK, readK]; omega
        replace ff := Lib.hid ff
        have hf := Lib.hid (show mayO x.d n Z ⟨6, qr, qt, qc, ql, qa⟩ = false from by simp [mayO, ff.out])
        have o0 := hQ.cell 0 (v := .int .i64 6) rfl; have o1 := hQ.cell 1 (v := .int .i64 qr) rfl; have o2 := hQ.cell 2 (v := .int .i64 qt) rfl; have o3 := hQ.cell 3 (v := .int .i64 qc) rfl; have o4 := hQ.cell 4 (v := .int .i64 ql) rfl; have o5 := hQ.cell 5 (v := .slice B m kk) rfl; have a4 := hX.cell 4 (v := .int .i64 x.d) rfl; have a10 := hX.cell 10 (v := .slice A n c) rfl
        go_wp2
        go_ret
        exact ⟨(show Ending.returned (.bool false) = .returned (.bool R) from by rewrite [← hres.out, hf.out]; rfl), bl⟩
      subst r1
      have hr := Lib.hid (show inR 0 0 (regsK 6) = true from by simp [inR, regsK, readK])
      by_cases t1 : qt = 0
      rotate_left
      · have t2 : (qt != 0) = true := by rw [bne_iff_ne]; exact t1
        have ff : inR qt 0 (lastK n 6) = false := by simp [inR, lastK]; omega
        replace ff := Lib.hid ff
        have hf := Lib.hid (show mayO x.d n Z ⟨6, 0, qt, qc, ql, qa⟩ = false from by simp [mayO, ff.out])
        have o0 := hQ.cell 0 (v := .int .i64 6) rfl; have o1 := hQ.cell 1 (v := .int .i64 0) rfl; have o2 := hQ.cell 2 (v := .int .i64 qt) rfl; have o3 := hQ.cell 3 (v := .int .i64 qc) rfl; have o4 := hQ.cell 4 (v := .int .i64 ql) rfl; have o5 := hQ.cell 5 (v := .slice B m kk) rfl; have a4 := hX.cell 4 (v := .int .i64 x.d) rfl; have a10 := hX.cell 10 (v := .slice A n c) rfl
        go_wp2
        go_ret
        exact ⟨(show Ending.returned (.bool false) = .returned (.bool R) from by rewrite [← hres.out, hf.out]; rfl), bl⟩
      subst t1
      have ht := Lib.hid (show inR 0 0 (lastK n 6) = true from by simp [inR, lastK])
      have htn : 0 < n := by omega
      obtain ⟨z, hz⟩ : ∃ z, Z[0]? = some z := ⟨_, List.getElem?_eq_getElem (by omega)⟩
      have hzl := hrows.out 0 z hz
      have hzd : Z[0]?.getD [] = z := by rw [hz]; rfl
      replace hzd := Lib.hid hzd
      clear hz
      by_cases c1 : qc = 0
      rotate_left
      · have c2 : (qc != 0) = true := by rw [bne_iff_ne]; exact c1
        have hf := Lib.hid (show mayO x.d n Z ⟨6, 0, 0, qc, ql, qa⟩ = false from by simp [mayO, colK]; omega)
        have o0 := hQ.cell 0 (v := .int .i64 6) rfl; have o1 := hQ.cell 1 (v := .int .i64 0) rfl; have o2 := hQ.cell 2 (v := .int .i64 0) rfl; have o3 := hQ.cell 3 (v := .int .i64 qc) rfl; have o4 := hQ.cell 4 (v := .int .i64 ql) rfl; have o5 := hQ.cell 5 (v := .slice B m kk) rfl; have a4 := hX.cell 4 (v := .int .i64 x.d) rfl; have a10 := hX.cell 10 (v := .slice A n c) rfl
        go_wp2
        go_ret
        exact ⟨(show Ending.returned (.bool false) = .returned (.bool R) from by rewrite [← hres.out, hf.out]; rfl), bl⟩
      subst c1
      rcases (show ql < 0 ∨ (¬ ql < 0 ∧ 1 < ql) ∨ (¬ ql < 0 ∧ ¬ 1 < ql) by omega) with l1 | ⟨l1, l2⟩ | ⟨l1, l2⟩
      · skip
        have ff : limitK x.d 6 ql = false := by simp [limitK, inR]; omega
        replace ff := Lib.hid ff
        have hf := Lib.hid (show mayO x.d n Z ⟨6, 0, 0, 0, ql, qa⟩ = false from by simp [mayO, ff.out])
        have o0 := hQ.cell 0 (v := .int .i64 6) rfl; have o1 := hQ.cell 1 (v := .int .i64 0) rfl; have o2 := hQ.cell 2 (v := .int .i64 0) rfl; have o3 := hQ.cell 3 (v := .int .i64 0) rfl; have o4 := hQ.cell 4 (v := .int .i64 ql) rfl; have o5 := hQ.cell 5 (v := .slice B m kk) rfl; have a4 := hX.cell 4 (v := .int .i64 x.d) rfl; have a10 := hX.cell 10 (v := .slice A n c) rfl
        go_wp2
        go_ret
        exact ⟨(show Ending.returned (.bool false) = .returned (.bool R) from by rewrite [← hres.out, hf.out]; rfl), bl⟩
      · skip
        have ff : limitK x.d 6 ql = false := by simp [limitK, inR]; omega
        replace ff := Lib.hid ff
        have hf := Lib.hid (show mayO x.d n Z ⟨6, 0, 0, 0, ql, qa⟩ = false from by simp [mayO, ff.out])
        have o0 := hQ.cell 0 (v := .int .i64 6) rfl; have o1 := hQ.cell 1 (v := .int .i64 0) rfl; have o2 := hQ.cell 2 (v := .int .i64 0) rfl; have o3 := hQ.cell 3 (v := .int .i64 0) rfl; have o4 := hQ.cell 4 (v := .int .i64 ql) rfl; have o5 := hQ.cell 5 (v := .slice B m kk) rfl; have a4 := hX.cell 4 (v := .int .i64 x.d) rfl; have a10 := hX.cell 10 (v := .slice A n c) rfl
        go_wp2
        go_ret
        exact ⟨(show Ending.returned (.bool false) = .returned (.bool R) from by rewrite [← hres.out, hf.out]; rfl), bl⟩
      have hl := Lib.hid (show limitK x.d 6 ql = true from by simp [limitK, inR]; omega)
      have hcol := Lib.hid (show colK z 6 0 = true from by simp [colK])
      have HA := Lib.hid (fun w h => ref_args x A n c Z 6 0 0 0 ql B m kk (2) w h (by omega) (by simp [argN]))
      by_cases me : (m : Int) = 2
      · have me2 : (2 == (m : Int)) = true := by rw [beq_iff_eq]; omega
        replace me := Lib.hid me
        have me3 := Lib.hid (show (qa.length : Int) = 2 by have := me.out; omega)
        have fin := Lib.hid (show mayO x.d n Z ⟨6, 0, 0, 0, ql, qa⟩ = true by simp [mayO, inR_lit6, hr.out, ht.out, hl.out, hzd.out, hcol.out, hyes.out, argsK, me3.out]; try omega)
        have o0 := hQ.cell 0 (v := .int .i64 6) rfl; have o1 := hQ.cell 1 (v := .int .i64 0) rfl; have o2 := hQ.cell 2 (v := .int .i64 0) rfl; have o3 := hQ.cell 3 (v := .int .i64 0) rfl; have o4 := hQ.cell 4 (v := .int .i64 ql) rfl; have o5 := hQ.cell 5 (v := .slice B m kk) rfl; have a4 := hX.cell 4 (v := .int .i64 x.d) rfl; have a10 := hX.cell 10 (v := .slice A n c) rfl; have a0 := hX.cell 0 (v := .int .i64 x.h) rfl; have a1 := hX.cell 1 (v := .int .i64 x.z) rfl; have a2 := hX.cell 2 (v := .int .i64 x.b) rfl; have a3 := hX.cell 3 (v := .int .i64 x.r) rfl; have a5 := hX.cell 5 (v := .int .i64 x.e) rfl; have a6 := hX.cell 6 (v := .int .i64 x.s) rfl; have a7 := hX.cell 7 (v := .int .i64 x.p) rfl; have a8 := hX.cell 8 (v := .int .i64 x.q) rfl; have a9 := hX.cell 9 (v := .int .i64 x.t) rfl
        go_wp2_with fail
        refine (HA.out _ (h.below bl)).mono ?_
        rintro e w9 ⟨rfl, e2⟩
        replace hX := hX.below e2 hX.lt; replace hQ := hQ.below e2 hQ.lt; replace bl := bnext bl e2; clear e2 o0 o1 o2 o3 o4 o5 a0 a1 a2 a3 a4 a5 a6 a7 a8 a9 a10
        have o0 := hQ.cell 0 (v := .int .i64 6) rfl; have o1 := hQ.cell 1 (v := .int .i64 0) rfl; have o2 := hQ.cell 2 (v := .int .i64 0) rfl; have o3 := hQ.cell 3 (v := .int .i64 0) rfl; have o4 := hQ.cell 4 (v := .int .i64 ql) rfl; have o5 := hQ.cell 5 (v := .slice B m kk) rfl; have a4 := hX.cell 4 (v := .int .i64 x.d) rfl; have a10 := hX.cell 10 (v := .slice A n c) rfl
        go_wp2
        go_ret
        exact ⟨(show Ending.returned (.bool true) = .returned (.bool R) from by rewrite [← hres.out, fin.out]; rfl), bl⟩
      · have me2 : (2 == (m : Int)) = false := by rw [beq_eq_false_iff_ne]; omega
        replace me := Lib.hid me
        have me3 := Lib.hid (show ¬ (qa.length : Int) = 2 by have := me.out; omega)
        have fin := Lib.hid (show mayO x.d n Z ⟨6, 0, 0, 0, ql, qa⟩ = false by simp [mayO, inR_lit6, hr.out, ht.out, hl.out, hzd.out, hcol.out, hyes.out, argsK, me3.out]; try omega)
        have o0 := hQ.cell 0 (v := .int .i64 6) rfl; have o1 := hQ.cell 1 (v := .int .i64 0) rfl; have o2 := hQ.cell 2 (v := .int .i64 0) rfl; have o3 := hQ.cell 3 (v := .int .i64 0) rfl; have o4 := hQ.cell 4 (v := .int .i64 ql) rfl; have o5 := hQ.cell 5 (v := .slice B m kk) rfl; have a4 := hX.cell 4 (v := .int .i64 x.d) rfl; have a10 := hX.cell 10 (v := .slice A n c) rfl; have a0 := hX.cell 0 (v := .int .i64 x.h) rfl; have a1 := hX.cell 1 (v := .int .i64 x.z) rfl; have a2 := hX.cell 2 (v := .int .i64 x.b) rfl; have a3 := hX.cell 3 (v := .int .i64 x.r) rfl; have a5 := hX.cell 5 (v := .int .i64 x.e) rfl; have a6 := hX.cell 6 (v := .int .i64 x.s) rfl; have a7 := hX.cell 7 (v := .int .i64 x.p) rfl; have a8 := hX.cell 8 (v := .int .i64 x.q) rfl; have a9 := hX.cell 9 (v := .int .i64 x.t) rfl
        go_wp2_with fail
        refine (HA.out _ (h.below bl)).mono ?_
        rintro e w9 ⟨rfl, e2⟩
        replace hX := hX.below e2 hX.lt; replace hQ := hQ.below e2 hQ.lt; replace bl := bnext bl e2; clear e2 o0 o1 o2 o3 o4 o5 a0 a1 a2 a3 a4 a5 a6 a7 a8 a9 a10
        have o0 := hQ.cell 0 (v := .int .i64 6) rfl; have o1 := hQ.cell 1 (v := .int .i64 0) rfl; have o2 := hQ.cell 2 (v := .int .i64 0) rfl; have o3 := hQ.cell 3 (v := .int .i64 0) rfl; have o4 := hQ.cell 4 (v := .int .i64 ql) rfl; have o5 := hQ.cell 5 (v := .slice B m kk) rfl; have a4 := hX.cell 4 (v := .int .i64 x.d) rfl; have a10 := hX.cell 10 (v := .slice A n c) rfl
        go_wp2
        go_ret
        exact ⟨(show Ending.returned (.bool false) = .returned (.bool R) from by rewrite [← hres.out, fin.out]; rfl), bl⟩
set_option maxHeartbeats 32000000 in
set_option maxRecDepth 100000 in
theorem ref_op7 (x : Cfg) (A : Option Addr) (n c : Nat) (Z : List (List Int)) (qr qt qc ql : Int) (qa : List ExprR) (R : Bool) (B : Option Addr) (m kk : Nat) (w : World) (h : RG w A n c Z) (h2 : RE w B m kk qa) (n1 : 1 ≤ n) (n4 : n ≤ 4) (hrows : ∀ (i : Nat) (z : List Int), Z[i]? = some z → 1 ≤ z.length ∧ z.length ≤ 4) (hres : Hid (mayO x.d n Z ⟨7, qr, qt, qc, ql, qa⟩ = R)) :
  Calls Try.prog 73 #[.agg #[.int .i64 x.h, .int .i64 x.z, .int .i64 x.b, .int .i64 x.r, .int .i64 x.d, .int .i64 x.e, .int .i64 x.s, .int .i64 x.p, .int .i64 x.q, .int .i64 x.t, .slice A n c], .agg #[.int .i64 7, .int .i64 qr, .int .i64 qt, .int .i64 qc, .int .i64 ql, .slice B m kk]] w fun e w' => e = .returned (.bool R) ∧ Below w.heap.size w w' := by
  have hZn := h.len
  have hml := h2.len
  have hmm : m ≤ maxLen := Nat.le_trans h2.cap h2.max
  unfold maxLen at hmm
  have hrows := Lib.hid hrows
  have hX0 := (Blk.new w #[.int .i64 x.h, .int .i64 x.z, .int .i64 x.b, .int .i64 x.r, .int .i64 x.d, .int .i64 x.e, .int .i64 x.s, .int .i64 x.p, .int .i64 x.q, .int .i64 x.t, .slice A n c] 24).alloc (.cells #[.int .i64 7, .int .i64 qr, .int .i64 qt, .int .i64 qc, .int .i64 ql, .slice B m kk] 51)
  have hQ0 := Blk.new2 w (.cells #[.int .i64 x.h, .int .i64 x.z, .int .i64 x.b, .int .i64 x.r, .int .i64 x.d, .int .i64 x.e, .int .i64 x.s, .int .i64 x.p, .int .i64 x.q, .int .i64 x.t, .slice A n c] 24) #[.int .i64 7, .int .i64 qr, .int .i64 qt, .int .i64 qc, .int .i64 ql, .slice B m kk] 51
  have bb : Below w.heap.size w ((w.alloc (.cells #[.int .i64 x.h, .int .i64 x.z, .int .i64 x.b, .int .i64 x.r, .int .i64 x.d, .int .i64 x.e, .int .i64 x.s, .int .i64 x.p, .int .i64 x.q, .int .i64 x.t, .slice A n c] 24)).alloc (.cells #[.int .i64 7, .int .i64 qr, .int .i64 qt, .int .i64 qc, .int .i64 ql, .slice B m kk] 51)) := (by repeat (first | exact Below.refl _ _ | assumption | apply below_drewN' | apply Below.drew | refine Below.alloc ?_ (by first | omega | (simp; done) | (simp; omega)) _ | refine Below.setCell ?_ (by first | omega | (simp; done) | (simp; omega)) _))
  by_cases m5 : 4 < m
  · have hf := Lib.hid (args_long (d := x.d) (n := n) (Z := Z) (r := qr) (t := qt) (c := qc) (l := ql) (qa := qa) (k := 7) (by omega) (fun i z hz => (hrows.out i z hz).2) (by omega))
    have m5' : (4 : Int) < (m : Int) := by omega
    have hX := hX0
    have hQ := hQ0
    have o0 := hQ.cell 0 (v := .int .i64 7) rfl; have o1 := hQ.cell 1 (v := .int .i64 qr) rfl; have o2 := hQ.cell 2 (v := .int .i64 qt) rfl; have o3 := hQ.cell 3 (v := .int .i64 qc) rfl; have o4 := hQ.cell 4 (v := .int .i64 ql) rfl; have o5 := hQ.cell 5 (v := .slice B m kk) rfl; have a4 := hX.cell 4 (v := .int .i64 x.d) rfl; have a10 := hX.cell 10 (v := .slice A n c) rfl
    go_enter Try.func73, Try.ntmps73
    go_wp2
    go_ret
    exact ⟨(show Ending.returned (.bool false) = .returned (.bool R) from by rewrite [← hres.out, hf.out]; rfl), bb⟩
  have m5' : ¬ (4 : Int) < (m : Int) := by omega
  have m4 : (m : Int) ≤ 4 := by omega
  have hX := hX0
  have hQ := hQ0
  have o0 := hQ.cell 0 (v := .int .i64 7) rfl; have o1 := hQ.cell 1 (v := .int .i64 qr) rfl; have o2 := hQ.cell 2 (v := .int .i64 qt) rfl; have o3 := hQ.cell 3 (v := .int .i64 qc) rfl; have o4 := hQ.cell 4 (v := .int .i64 ql) rfl; have o5 := hQ.cell 5 (v := .slice B m kk) rfl; have a4 := hX.cell 4 (v := .int .i64 x.d) rfl; have a10 := hX.cell 10 (v := .slice A n c) rfl
  go_enter Try.func73, Try.ntmps73
  go_wp2
  clear o0 o1 o2 o3 o4 o5 a4 a10 hX hQ
  generalize (w.alloc (.cells #[.int .i64 x.h, .int .i64 x.z, .int .i64 x.b, .int .i64 x.r, .int .i64 x.d, .int .i64 x.e, .int .i64 x.s, .int .i64 x.p, .int .i64 x.q, .int .i64 x.t, .slice A n c] 24)).alloc (.cells #[.int .i64 7, .int .i64 qr, .int .i64 qt, .int .i64 qc, .int .i64 ql, .slice B m kk] 51) = W1 at *
  go_loopw [5] (fun i wr => ∃ k : Nat, k ≤ m ∧ i = .int .i64 k ∧ Blk wr w.heap.size #[.int .i64 x.h, .int .i64 x.z, .int .i64 x.b, .int .i64 x.r, .int .i64 x.d, .int .i64 x.e, .int .i64 x.s, .int .i64 x.p, .int .i64 x.q, .int .i64 x.t, .slice A n c] 24 ∧ Blk wr (w.heap.size + 1) #[.int .i64 7, .int .i64 qr, .int .i64 qt, .int .i64 qc, .int .i64 ql, .slice B m kk] 51 ∧ Below w.heap.size w wr ∧ Hid (∀ (i : Nat) (e : ExprR), i < k → qa[i]? = some e → mayE e = true)) (fun i _ => m - (intOf i).toNat)
  case atStart => exact ⟨0, by omega, rfl, hX0, hQ0, bb, Lib.hid (fun i e hi => absurd hi (by omega))⟩
  case round =>
    obtain ⟨k, hk, rfl, hX, hQ, bl, hall⟩ := hrel
    clear hX0 hQ0 bb
    by_cases hlt : k < m
    · have o0 := hQ.cell 0 (v := .int .i64 7) rfl; have o1 := hQ.cell 1 (v := .int .i64 qr) rfl; have o2 := hQ.cell 2 (v := .int .i64 qt) rfl; have o3 := hQ.cell 3 (v := .int .i64 qc) rfl; have o4 := hQ.cell 4 (v := .int .i64 ql) rfl; have o5 := hQ.cell 5 (v := .slice B m kk) rfl; have a4 := hX.cell 4 (v := .int .i64 x.d) rfl; have a10 := hX.cell 10 (v := .slice A n c) rfl
      obtain ⟨e, he⟩ : ∃ e, qa[k]? = some e := ⟨_, List.getElem?_eq_getElem (by omega)⟩
      obtain ⟨g, o, rfl, hc⟩ := (h2.below bl).at_ (by omega)
      have hcs := hc k e he
      obtain ⟨b, hb⟩ : ∃ b, mayE e = b := ⟨_, rfl⟩
      have HF := Lib.hid (fun w => ref_expr e b w hb)
      have q0 : wr.cell? ⟨g, o + k * 5, none⟩ = some (.int .i64 e.k) := hcs 0 (.int .i64 e.k) rfl
      have q1 := hcs 1 (.int .i64 e.n) rfl
      have q2 := hcs 2 (.string e.s) rfl
      have q3 := hcs 3 (.int .i64 e.r) rfl
      have q4 := hcs 4 (.int .i64 e.c) rfl
      have hbh := Lib.hid hb
      have heh := Lib.hid he
      clear hcs hc hb he
      go_wp2_with fail
      refine (HF.out _).mono ?_
      rintro y w2 ⟨rfl, e2⟩
      replace bl := bnext bl e2
      replace hX := hX.below e2 hX.lt
      replace hQ := hQ.below e2 hQ.lt
      clear e2 o0 o1 o2 o3 o4 o5 a4 a10 q0 q1 q2 q3 q4
      cases b with
      | true =>
        go_wp2
        go_roundw
        case rel =>
          refine ⟨k + 1, by omega, by go_num, hX, hQ, bl, Lib.hid fun i y hi hy => ?_⟩
          by_cases ei : i = k
          · subst ei; rw [heh.out] at hy; injection hy with hy; rw [← hy]; exact hbh.out
          · exact hall.out i y (by omega) hy
        case measure => simp [intOf]; omega
      | false =>
        have hno := Lib.hid (all_no heh.out hbh.out)
        go_wp2
        go_ret
        exact ⟨(show Ending.returned (.bool false) = .returned (.bool R) from by rewrite [← hres.out]; simp [mayO, hno.out]), bl⟩
    · obtain rfl : m = k := by omega
      have hyes := Lib.hid (all_yes (E := qa) (fun i e hi he => hall.out i e (by omega) he))
      clear hall m5
      by_cases r1 : qr = 0
      rotate_left
      · have r2 : (qr != 0) = true := by rw [bne_iff_ne]; exact r1
        have ff : inR qr 0 (regsK 7) = false := by simp [inR, regsK, readK]; omega
        replace ff := Lib.hid ff
        have hf := Lib.hid (show mayO x.d n Z ⟨7, qr, qt, qc, ql, qa⟩ = false from by simp [mayO, ff.out])
        have o0 := hQ.cell 0 (v := .int .i64 7) rfl; have o1 := hQ.cell 1 (v := .int .i64 qr) rfl; have o2 := hQ.cell 2 (v := .int .i64 qt) rfl; have o3 := hQ.cell 3 (v := .int .i64 qc) rfl; have o4 := hQ.cell 4 (v := .int .i64 ql) rfl; have o5 := hQ.cell 5 (v := .slice B m kk) rfl; have a4 := hX.cell 4 (v := .int .i64 x.d) rfl; have a10 := hX.cell 10 (v := .slice A n c) rfl
        go_wp2
        go_ret
        exact ⟨(show Ending.returned (.bool false) = .returned (.bool R) from by rewrite [← hres.out, hf.out]; rfl), bl⟩
      subst r1
      have hr := Lib.hid (show inR 0 0 (regsK 7) = true from by simp [inR, regsK, readK])
      by_cases t1 : qt = 0
      rotate_left
      · have t2 : (qt != 0) = true := by rw [bne_iff_ne]; exact t1
        have ff : inR qt 0 (lastK n 7) = false := by simp [inR, lastK]; omega
        replace ff := Lib.hid ff
        have hf := Lib.hid (show mayO x.d n Z ⟨7, 0, qt, qc, ql, qa⟩ = false from by simp [mayO, ff.out])
        have o0 := hQ.cell 0 (v := .int .i64 7) rfl; have o1 := hQ.cell 1 (v := .int .i64 0) rfl; have o2 := hQ.cell 2 (v := .int .i64 qt) rfl; have o3 := hQ.cell 3 (v := .int .i64 qc) rfl; have o4 := hQ.cell 4 (v := .int .i64 ql) rfl; have o5 := hQ.cell 5 (v := .slice B m kk) rfl; have a4 := hX.cell 4 (v := .int .i64 x.d) rfl; have a10 := hX.cell 10 (v := .slice A n c) rfl
        go_wp2
        go_ret
        exact ⟨(show Ending.returned (.bool false) = .returned (.bool R) from by rewrite [← hres.out, hf.out]; rfl), bl⟩
      subst t1
      have ht := Lib.hid (show inR 0 0 (lastK n 7) = true from by simp [inR, lastK])
      have htn : 0 < n := by omega
      obtain ⟨z, hz⟩ : ∃ z, Z[0]? = some z := ⟨_, List.getElem?_eq_getElem (by omega)⟩
      have hzl := hrows.out 0 z hz
      have hzd : Z[0]?.getD [] = z := by rw [hz]; rfl
      replace hzd := Lib.hid hzd
      clear hz
      by_cases c1 : qc = 0
      rotate_left
      · have c2 : (qc != 0) = true := by rw [bne_iff_ne]; exact c1
        have hf := Lib.hid (show mayO x.d n Z ⟨7, 0, 0, qc, ql, qa⟩ = false from by simp [mayO, colK]; omega)
        have o0 := hQ.cell 0 (v := .int .i64 7) rfl; have o1 := hQ.cell 1 (v := .int .i64 0) rfl; have o2 := hQ.cell 2 (v := .int .i64 0) rfl; have o3 := hQ.cell 3 (v := .int .i64 qc) rfl; have o4 := hQ.cell 4 (v := .int .i64 ql) rfl; have o5 := hQ.cell 5 (v := .slice B m kk) rfl; have a4 := hX.cell 4 (v := .int .i64 x.d) rfl; have a10 := hX.cell 10 (v := .slice A n c) rfl
        go_wp2
        go_ret
        exact ⟨(show Ending.returned (.bool false) = .returned (.bool R) from by rewrite [← hres.out, hf.out]; rfl), bl⟩
      subst c1
      by_cases l1 : ql = 0
      rotate_left
      · have l2 : (ql != 0) = true := by rw [bne_iff_ne]; exact l1
        have ff : limitK x.d 7 ql = false := by simp [limitK]; omega
        replace ff := Lib.hid ff
        have hf := Lib.hid (show mayO x.d n Z ⟨7, 0, 0, 0, ql, qa⟩ = false from by simp [mayO, ff.out])
        have o0 := hQ.cell 0 (v := .int .i64 7) rfl; have o1 := hQ.cell 1 (v := .int .i64 0) rfl; have o2 := hQ.cell 2 (v := .int .i64 0) rfl; have o3 := hQ.cell 3 (v := .int .i64 0) rfl; have o4 := hQ.cell 4 (v := .int .i64 ql) rfl; have o5 := hQ.cell 5 (v := .slice B m kk) rfl; have a4 := hX.cell 4 (v := .int .i64 x.d) rfl; have a10 := hX.cell 10 (v := .slice A n c) rfl
        go_wp2
        go_ret
        exact ⟨(show Ending.returned (.bool false) = .returned (.bool R) from by rewrite [← hres.out, hf.out]; rfl), bl⟩
      subst l1
      have hl := Lib.hid (show limitK x.d 7 0 = true from by simp [limitK])
      have hcol := Lib.hid (show colK z 7 0 = true from by simp [colK])
      have HA := Lib.hid (fun w h => ref_args x A n c Z 7 0 0 0 0 B m kk (-1) w h (by omega) (by simp [argN]))
      have m7 : ((-1 : Int) == (m : Int)) = false := by rw [beq_eq_false_iff_ne]; omega
      have fin := Lib.hid (show mayO x.d n Z ⟨7, 0, 0, 0, 0, qa⟩ = true by simp [mayO, inR_lit7, hr.out, ht.out, hl.out, hzd.out, hcol.out, hyes.out, argsK]; try omega)
      have o0 := hQ.cell 0 (v := .int .i64 7) rfl; have o1 := hQ.cell 1 (v := .int .i64 0) rfl; have o2 := hQ.cell 2 (v := .int .i64 0) rfl; have o3 := hQ.cell 3 (v := .int .i64 0) rfl; have o4 := hQ.cell 4 (v := .int .i64 0) rfl; have o5 := hQ.cell 5 (v := .slice B m kk) rfl; have a4 := hX.cell 4 (v := .int .i64 x.d) rfl; have a10 := hX.cell 10 (v := .slice A n c) rfl; have a0 := hX.cell 0 (v := .int .i64 x.h) rfl; have a1 := hX.cell 1 (v := .int .i64 x.z) rfl; have a2 := hX.cell 2 (v := .int .i64 x.b) rfl; have a3 := hX.cell 3 (v := .int .i64 x.r) rfl; have a5 := hX.cell 5 (v := .int .i64 x.e) rfl; have a6 := hX.cell 6 (v := .int .i64 x.s) rfl; have a7 := hX.cell 7 (v := .int .i64 x.p) rfl; have a8 := hX.cell 8 (v := .int .i64 x.q) rfl; have a9 := hX.cell 9 (v := .int .i64 x.t) rfl
      go_wp2_with fail
      refine (HA.out _ (h.below bl)).mono ?_
      rintro e w9 ⟨rfl, e2⟩
      replace hX := hX.below e2 hX.lt; replace hQ := hQ.below e2 hQ.lt; replace bl := bnext bl e2; clear e2 o0 o1 o2 o3 o4 o5 a0 a1 a2 a3 a4 a5 a6 a7 a8 a9 a10
      have o0 := hQ.cell 0 (v := .int .i64 7) rfl; have o1 := hQ.cell 1 (v := .int .i64 0) rfl; have o2 := hQ.cell 2 (v := .int .i64 0) rfl; have o3 := hQ.cell 3 (v := .int .i64 0) rfl; have o4 := hQ.cell 4 (v := .int .i64 0) rfl; have o5 := hQ.cell 5 (v := .slice B m kk) rfl; have a4 := hX.cell 4 (v := .int .i64 x.d) rfl; have a10 := hX.cell 10 (v := .slice A n c) rfl
      go_wp2
      go_ret
      exact ⟨(show Ending.returned (.bool true) = .returned (.bool R) from by rewrite [← hres.out, fin.out]; rfl), bl⟩
end Go.Proofs.Ytdmjiaicgbcodaa
