/- Contract of prog.mayOp. -/
import Derived.Test.YtdmjiaicgbcodaaPgC
namespace Go.Proofs.Ytdmjiaicgbcodaa
open Go.ChangeShapes Go.WideShapes Go.ChangeAt Go.RowKit
open Go.ChangeMaps (open_string shut_string)
set_option linter.unusedVariables false
set_option linter.unusedSimpArgs false

/-- May an operation be? -/
def lastK (n k : Int) : Int := if inR k 1 5 = true then n - 1 else 0
def regsK (k : Int) : Int := if readK k = true then 3 else 0
def colK (z : List Int) (k c : Int) : Bool := if k = 5 then inR c 0 ((z.length : Int) - 1) && z.getD c.toNat 0 == 1 else c == 0
def mayO (d n : Int) (Z : List (List Int)) (q : OpR) : Bool :=
  inR q.k 1 7 && (inR q.t 0 (lastK n q.k) && (inR q.r 0 (regsK q.k) && (limitK d q.k q.l &&
    (colK (Z.getD q.t.toNat []) q.k q.c && (argsK (Z.getD q.t.toNat []).length q.k q.args.length && q.args.all mayE)))))
set_option maxHeartbeats 8000000 in
set_option maxRecDepth 100000 in
theorem prog_mayOp (x : Cfg) (A : Option Addr) (n c : Nat) (Z : List (List Int)) (q : OpR) (B : Option Addr) (m kk : Nat) (w : World) (h : RG w A n c Z) (h2 : RE w B m kk q.args) (n1 : 1 ≤ n) (n4 : n ≤ 4) (hrows : ∀ (i : Nat) (z : List Int), Z[i]? = some z → 1 ≤ z.length ∧ z.length ≤ 4) :
    Calls Try.prog 72 #[.agg #[.int .i64 x.h, .int .i64 x.z, .int .i64 x.b, .int .i64 x.r, .int .i64 x.d, .int .i64 x.e, .int .i64 x.s, .int .i64 x.p, .int .i64 x.q, .int .i64 x.t, .slice A n c], .agg #[.int .i64 q.k, .int .i64 q.r, .int .i64 q.t, .int .i64 q.c, .int .i64 q.l, .slice B m kk]] w fun e w' => e = .returned (.bool (mayO x.d n Z q)) ∧ Below w.heap.size w w' := by
  obtain ⟨qk, qr, qt, qc, ql, qa⟩ := q
  obtain ⟨R, hR⟩ : ∃ R, mayO x.d n Z ⟨qk, qr, qt, qc, ql, qa⟩ = R := ⟨_, rfl⟩
  rw [hR]
  have hres := Lib.hid hR
  clear hR
  have hZn := h.len
  have hml := h2.len
  simp only at hml
  have hmm : m ≤ maxLen := Nat.le_trans h2.cap h2.max
  unfold maxLen at hmm
  have hrows := Lib.hid hrows
  have hX0 := (Blk.new w #[.int .i64 x.h, .int .i64 x.z, .int .i64 x.b, .int .i64 x.r, .int .i64 x.d, .int .i64 x.e, .int .i64 x.s, .int .i64 x.p, .int .i64 x.q, .int .i64 x.t, .slice A n c] 24).alloc (.cells #[.int .i64 qk, .int .i64 qr, .int .i64 qt, .int .i64 qc, .int .i64 ql, .slice B m kk] 51)
  have hQ0 := Blk.new2 w (.cells #[.int .i64 x.h, .int .i64 x.z, .int .i64 x.b, .int .i64 x.r, .int .i64 x.d, .int .i64 x.e, .int .i64 x.s, .int .i64 x.p, .int .i64 x.q, .int .i64 x.t, .slice A n c] 24) #[.int .i64 qk, .int .i64 qr, .int .i64 qt, .int .i64 qc, .int .i64 ql, .slice B m kk] 51
  have bb : Below w.heap.size w ((w.alloc (.cells #[.int .i64 x.h, .int .i64 x.z, .int .i64 x.b, .int .i64 x.r, .int .i64 x.d, .int .i64 x.e, .int .i64 x.s, .int .i64 x.p, .int .i64 x.q, .int .i64 x.t, .slice A n c] 24)).alloc (.cells #[.int .i64 qk, .int .i64 qr, .int .i64 qt, .int .i64 qc, .int .i64 ql, .slice B m kk] 51)) := (by repeat (first | exact Below.refl _ _ | assumption | apply below_drewN' | apply Below.drew | refine Below.alloc ?_ (by first | omega | (simp; done) | (simp; omega)) _ | refine Below.setCell ?_ (by first | omega | (simp; done) | (simp; omega)) _))
  obtain ⟨p1, hp1⟩ : ∃ p, inR qk 1 5 = p := ⟨_, rfl⟩
  obtain ⟨p2, hp2⟩ : ∃ p, readK qk = p := ⟨_, rfl⟩
  obtain ⟨p3, hp3⟩ : ∃ p, inR qk 1 7 = p := ⟨_, rfl⟩
  obtain ⟨p6, hp6⟩ : ∃ p, limitK x.d qk ql = p := ⟨_, rfl⟩
  have H1 := Lib.hid (fun w => prog_within qk 1 5 p1 w hp1)
  have H2 := Lib.hid (fun w => prog_reads qk p2 w hp2)
  have H3 := Lib.hid (fun w => prog_within qk 1 7 p3 w hp3)
  have H6 := Lib.hid (fun w => prog_limit x A n c qk ql p6 w hp6)
  have hl1 := Lib.hid (show lastK n qk = if p1 = true then (n : Int) - 1 else 0 by unfold lastK; rw [hp1])
  have hl2 := Lib.hid (show regsK qk = if p2 = true then (3 : Int) else 0 by unfold regsK; rw [hp2])
  have hp3 := Lib.hid hp3
  have hp6 := Lib.hid hp6
  clear hp1 hp2
  have wn : IntKind.i64.wrap ((n : Int) - 1) = (n : Int) - 1 := IntWalk.i64_in _ (by omega)
  go_enter Try.func72, Try.ntmps72
  go_wp2_with fail
  generalize (w.alloc (.cells #[.int .i64 x.h, .int .i64 x.z, .int .i64 x.b, .int .i64 x.r, .int .i64 x.d, .int .i64 x.e, .int .i64 x.s, .int .i64 x.p, .int .i64 x.q, .int .i64 x.t, .slice A n c] 24)).alloc (.cells #[.int .i64 qk, .int .i64 qr, .int .i64 qt, .int .i64 qc, .int .i64 ql, .slice B m kk] 51) = W1 at *
  refine (H1.out _).mono ?_
  rintro e w2 ⟨rfl, e2⟩
  have hX := hX0.below e2 hX0.lt
  have hQ := hQ0.below e2 hQ0.lt
  have bl := bnext bb e2
  clear e2 hX0 hQ0 bb H1
  have o0 := hQ.cell 0 (v := .int .i64 qk) rfl; have o1 := hQ.cell 1 (v := .int .i64 qr) rfl; have o2 := hQ.cell 2 (v := .int .i64 qt) rfl; have o3 := hQ.cell 3 (v := .int .i64 qc) rfl; have o4 := hQ.cell 4 (v := .int .i64 ql) rfl; have o5 := hQ.cell 5 (v := .slice B m kk) rfl; have a10 := hX.cell 10 (v := .slice A n c) rfl
  cases p1 with
  | true =>
    go_wp2_with fail
    refine (H2.out _).mono ?_
    rintro e w3 ⟨rfl, e2⟩
    replace hX := hX.below e2 hX.lt; replace hQ := hQ.below e2 hQ.lt; replace bl := bnext bl e2; clear e2 o0 o1 o2 o3 o4 o5 a10; have o0 := hQ.cell 0 (v := .int .i64 qk) rfl; have o1 := hQ.cell 1 (v := .int .i64 qr) rfl; have o2 := hQ.cell 2 (v := .int .i64 qt) rfl; have o3 := hQ.cell 3 (v := .int .i64 qc) rfl; have o4 := hQ.cell 4 (v := .int .i64 ql) rfl; have o5 := hQ.cell 5 (v := .slice B m kk) rfl; have a10 := hX.cell 10 (v := .slice A n c) rfl
    cases p2 with
    | true =>
      have la := Lib.hid (show lastK n qk = (n : Int) - 1 by rw [hl1.out]; rfl)
      have ra := Lib.hid (show regsK qk = 3 by rw [hl2.out]; rfl)
      obtain ⟨p4, hp4⟩ : ∃ p, inR qt 0 ((n : Int) - 1) = p := ⟨_, rfl⟩
      obtain ⟨p5, hp5⟩ : ∃ p, inR qr 0 3 = p := ⟨_, rfl⟩
      have H4 := Lib.hid (fun w => prog_within qt 0 ((n : Int) - 1) p4 w hp4)
      have H5 := Lib.hid (fun w => prog_within qr 0 3 p5 w hp5)
      have hp5 := Lib.hid hp5
      go_wp2_with fail
      refine (H3.out _).mono ?_
      rintro e w4 ⟨rfl, e2⟩
      replace hX := hX.below e2 hX.lt; replace hQ := hQ.below e2 hQ.lt; replace bl := bnext bl e2; clear e2 o0 o1 o2 o3 o4 o5 a10; have o0 := hQ.cell 0 (v := .int .i64 qk) rfl; have o1 := hQ.cell 1 (v := .int .i64 qr) rfl; have o2 := hQ.cell 2 (v := .int .i64 qt) rfl; have o3 := hQ.cell 3 (v := .int .i64 qc) rfl; have o4 := hQ.cell 4 (v := .int .i64 ql) rfl; have o5 := hQ.cell 5 (v := .slice B m kk) rfl; have a10 := hX.cell 10 (v := .slice A n c) rfl
      cases p3 with
      | false => (go_wp2; go_ret; exact ⟨(show Ending.returned (.bool false) = .returned (.bool R) from by rewrite [← hres.out]; simp [mayO, hp3.out]), bl⟩)
      | true =>
      go_wp2_with fail
      refine (H4.out _).mono ?_
      rintro e w5 ⟨rfl, e2⟩
      replace hX := hX.below e2 hX.lt; replace hQ := hQ.below e2 hQ.lt; replace bl := bnext bl e2; clear e2 o0 o1 o2 o3 o4 o5 a10; have o0 := hQ.cell 0 (v := .int .i64 qk) rfl; have o1 := hQ.cell 1 (v := .int .i64 qr) rfl; have o2 := hQ.cell 2 (v := .int .i64 qt) rfl; have o3 := hQ.cell 3 (v := .int .i64 qc) rfl; have o4 := hQ.cell 4 (v := .int .i64 ql) rfl; have o5 := hQ.cell 5 (v := .slice B m kk) rfl; have a10 := hX.cell 10 (v := .slice A n c) rfl
      cases p4 with
      | false => have hp4 := Lib.hid hp4; (go_wp2; go_ret; exact ⟨(show Ending.returned (.bool false) = .returned (.bool R) from by rewrite [← hres.out]; simp [mayO, la.out, hp4.out]), bl⟩)
      | true =>
      go_wp2_with fail
      refine (H5.out _).mono ?_
      rintro e w6 ⟨rfl, e2⟩
      replace hX := hX.below e2 hX.lt; replace hQ := hQ.below e2 hQ.lt; replace bl := bnext bl e2; clear e2 o0 o1 o2 o3 o4 o5 a10; have o0 := hQ.cell 0 (v := .int .i64 qk) rfl; have o1 := hQ.cell 1 (v := .int .i64 qr) rfl; have o2 := hQ.cell 2 (v := .int .i64 qt) rfl; have o3 := hQ.cell 3 (v := .int .i64 qc) rfl; have o4 := hQ.cell 4 (v := .int .i64 ql) rfl; have o5 := hQ.cell 5 (v := .slice B m kk) rfl; have a10 := hX.cell 10 (v := .slice A n c) rfl
      cases p5 with
      | false => have hp4 := Lib.hid hp4; (go_wp2; go_ret; exact ⟨(show Ending.returned (.bool false) = .returned (.bool R) from by rewrite [← hres.out]; simp [mayO, ra.out, hp5.out]), bl⟩)
      | true =>
      have a0 := hX.cell 0 (v := .int .i64 x.h) rfl; have a1 := hX.cell 1 (v := .int .i64 x.z) rfl; have a2 := hX.cell 2 (v := .int .i64 x.b) rfl; have a3 := hX.cell 3 (v := .int .i64 x.r) rfl; have a4 := hX.cell 4 (v := .int .i64 x.d) rfl; have a5 := hX.cell 5 (v := .int .i64 x.e) rfl; have a6 := hX.cell 6 (v := .int .i64 x.s) rfl; have a7 := hX.cell 7 (v := .int .i64 x.p) rfl; have a8 := hX.cell 8 (v := .int .i64 x.q) rfl; have a9 := hX.cell 9 (v := .int .i64 x.t) rfl
      go_wp2_with fail
      refine (H6.out _).mono ?_
      rintro e w7 ⟨rfl, e2⟩
      clear a0 a1 a2 a3 a4 a5 a6 a7 a8 a9
      replace hX := hX.below e2 hX.lt; replace hQ := hQ.below e2 hQ.lt; replace bl := bnext bl e2; clear e2 o0 o1 o2 o3 o4 o5 a10; have o0 := hQ.cell 0 (v := .int .i64 qk) rfl; have o1 := hQ.cell 1 (v := .int .i64 qr) rfl; have o2 := hQ.cell 2 (v := .int .i64 qt) rfl; have o3 := hQ.cell 3 (v := .int .i64 qc) rfl; have o4 := hQ.cell 4 (v := .int .i64 ql) rfl; have o5 := hQ.cell 5 (v := .slice B m kk) rfl; have a10 := hX.cell 10 (v := .slice A n c) rfl
      cases p6 with
      | false => have hp4 := Lib.hid hp4; (go_wp2; go_ret; exact ⟨(show Ending.returned (.bool false) = .returned (.bool R) from by rewrite [← hres.out]; simp [mayO, hp6.out]), bl⟩)
      | true =>
      have ht := inR_true hp4
      have hp4 := Lib.hid hp4
      obtain ⟨ti, rfl⟩ := Int.eq_ofNat_of_zero_le ht.1
      have htn : ti < n := by omega
      obtain ⟨z, hz⟩ : ∃ z, Z[ti]? = some z := ⟨_, List.getElem?_eq_getElem (by omega)⟩
      have hzl := hrows.out ti z hz
      have hzd := Lib.hid (show Z[ti]?.getD [] = z by rw [hz]; rfl)
      obtain ⟨g, o, rfl, hc⟩ := (h.below bl).at_ (by omega)
      obtain ⟨Br, kr, hcell, hrow⟩ := hc ti z hz
      clear hc hz
      obtain ⟨p8, hp8⟩ : ∃ p, argsK z.length qk m = p := ⟨_, rfl⟩
      have H8 := Lib.hid (fun w => prog_args Br z.length kr qk m p8 w hp8)
      have hp8 := Lib.hid (show argsK z.length qk qa.length = p8 by rw [hml]; exact hp8)
      have HC := Lib.hid (fun w h => prog_contains B m kk qa w h)
      obtain ⟨p9, hp9⟩ : ∃ p, qa.all mayE = p := ⟨_, rfl⟩
      rw [hp9] at HC
      have hp9 := Lib.hid hp9
      by_cases k5 : qk = 5
      · subst k5
        obtain ⟨p7, hp7⟩ : ∃ p, inR qc 0 ((z.length : Int) - 1) = p := ⟨_, rfl⟩
        have wz : IntKind.i64.wrap ((z.length : Int) - 1) = (z.length : Int) - 1 := IntWalk.i64_in _ (by omega)
        have H7 := Lib.hid (fun w => prog_within qc 0 ((z.length : Int) - 1) p7 w hp7)
        go_wp2_with fail
        refine (H7.out _).mono ?_
        rintro e w8 ⟨rfl, e2⟩
        have e3 := e2
        replace hX := hX.below e2 hX.lt; replace hQ := hQ.below e2 hQ.lt; replace bl := bnext bl e2; clear e2 o0 o1 o2 o3 o4 o5 a10; have o0 := hQ.cell 0 (v := .int .i64 5) rfl; have o1 := hQ.cell 1 (v := .int .i64 qr) rfl; have o2 := hQ.cell 2 (v := .int .i64 (ti : Int)) rfl; have o3 := hQ.cell 3 (v := .int .i64 qc) rfl; have o4 := hQ.cell 4 (v := .int .i64 ql) rfl; have o5 := hQ.cell 5 (v := .slice B m kk) rfl; have a10 := hX.cell 10 (v := .slice (some ⟨g, o, none⟩) n c) rfl
        cases p7 with
        | false => have hp7 := Lib.hid hp7; (go_wp2; go_ret; exact ⟨(show Ending.returned (.bool false) = .returned (.bool R) from by rewrite [← hres.out]; simp [mayO, hzd.out, colK, hp7.out]), bl⟩)
        | true =>
        have hc := inR_true hp7
        have hp7 := Lib.hid hp7
        obtain ⟨ci, rfl⟩ := Int.eq_ofNat_of_zero_le hc.1
        obtain ⟨y, hy⟩ : ∃ y, z[ci]? = some y := ⟨_, List.getElem?_eq_getElem (by omega)⟩
        have hyd := Lib.hid (show z[ci]?.getD 0 = y by rw [hy]; rfl)
        obtain ⟨g2, o2', rfl, hc2⟩ := (hrow.below (show Below w7.heap.size w7 w8 from e3)).at_ (by omega)
        have hcell3 := hc2 ci y hy
        by_cases y1 : y = 1
        · subst y1
          go_wp2_with fail
          refine (H8.out _).mono ?_
          rintro e w9 ⟨rfl, e2⟩
          replace hX := hX.below e2 hX.lt; replace hQ := hQ.below e2 hQ.lt; replace bl := bnext bl e2; clear e2 o0 o1 o2 o3 o4 o5 a10; have o0 := hQ.cell 0 (v := .int .i64 5) rfl; have o1 := hQ.cell 1 (v := .int .i64 qr) rfl; have o2 := hQ.cell 2 (v := .int .i64 (ti : Int)) rfl; have o3 := hQ.cell 3 (v := .int .i64 (ci : Int)) rfl; have o4 := hQ.cell 4 (v := .int .i64 ql) rfl; have o5 := hQ.cell 5 (v := .slice B m kk) rfl; have a10 := hX.cell 10 (v := .slice (some ⟨g, o, none⟩) n c) rfl
          cases p8 with
          | false => (go_wp2; go_ret; exact ⟨(show Ending.returned (.bool false) = .returned (.bool R) from by rewrite [← hres.out]; simp [mayO, hzd.out, hp8.out]), bl⟩)
          | true =>
          go_wp2_with fail
          refine (HC.out _ (h2.below bl)).mono ?_
          rintro e w10 ⟨rfl, e2⟩
          replace hX := hX.below e2 hX.lt; replace hQ := hQ.below e2 hQ.lt; replace bl := bnext bl e2; clear e2 o0 o1 o2 o3 o4 o5 a10; have o0 := hQ.cell 0 (v := .int .i64 5) rfl; have o1 := hQ.cell 1 (v := .int .i64 qr) rfl; have o2 := hQ.cell 2 (v := .int .i64 (ti : Int)) rfl; have o3 := hQ.cell 3 (v := .int .i64 (ci : Int)) rfl; have o4 := hQ.cell 4 (v := .int .i64 ql) rfl; have o5 := hQ.cell 5 (v := .slice B m kk) rfl; have a10 := hX.cell 10 (v := .slice (some ⟨g, o, none⟩) n c) rfl
          have fin := Lib.hid (show mayO x.d n Z ⟨5, qr, (ti : Int), (ci : Int), ql, qa⟩ = p9 by simp [mayO, hp3.out, la.out, hp4.out, ra.out, hp5.out, hp6.out, hzd.out, colK, hp7.out, hyd.out, hp8.out, hp9.out])
          cases p9 with
          | true => (go_wp2; go_ret; exact ⟨(show Ending.returned (.bool true) = .returned (.bool R) from by rewrite [← hres.out, fin.out]; rfl), bl⟩)
          | false => (go_wp2; go_ret; exact ⟨(show Ending.returned (.bool false) = .returned (.bool R) from by rewrite [← hres.out, fin.out]; rfl), bl⟩)
        · have f1 : (y != 1) = true := by rw [bne_iff_ne]; exact y1
          have f2 : (y == 1) = false := by rw [beq_eq_false_iff_ne]; exact y1
          (go_wp2; go_ret; exact ⟨(show Ending.returned (.bool false) = .returned (.bool R) from by rewrite [← hres.out]; simp [mayO, hzd.out, colK, hp7.out, hyd.out, y1]), bl⟩)
      · have f5 : (qk == 5) = false := by rw [beq_eq_false_iff_ne]; exact k5
        by_cases c0 : qc = 0
        · subst c0
          go_wp2_with fail
          refine (H8.out _).mono ?_
          rintro e w9 ⟨rfl, e2⟩
          replace hX := hX.below e2 hX.lt; replace hQ := hQ.below e2 hQ.lt; replace bl := bnext bl e2; clear e2 o0 o1 o2 o3 o4 o5 a10; have o0 := hQ.cell 0 (v := .int .i64 qk) rfl; have o1 := hQ.cell 1 (v := .int .i64 qr) rfl; have o2 := hQ.cell 2 (v := .int .i64 (ti : Int)) rfl; have o3 := hQ.cell 3 (v := .int .i64 0) rfl; have o4 := hQ.cell 4 (v := .int .i64 ql) rfl; have o5 := hQ.cell 5 (v := .slice B m kk) rfl; have a10 := hX.cell 10 (v := .slice (some ⟨g, o, none⟩) n c) rfl
          cases p8 with
          | false => (go_wp2; go_ret; exact ⟨(show Ending.returned (.bool false) = .returned (.bool R) from by rewrite [← hres.out]; simp [mayO, hzd.out, hp8.out]), bl⟩)
          | true =>
          go_wp2_with fail
          refine (HC.out _ (h2.below bl)).mono ?_
          rintro e w10 ⟨rfl, e2⟩
          replace hX := hX.below e2 hX.lt; replace hQ := hQ.below e2 hQ.lt; replace bl := bnext bl e2; clear e2 o0 o1 o2 o3 o4 o5 a10; have o0 := hQ.cell 0 (v := .int .i64 qk) rfl; have o1 := hQ.cell 1 (v := .int .i64 qr) rfl; have o2 := hQ.cell 2 (v := .int .i64 (ti : Int)) rfl; have o3 := hQ.cell 3 (v := .int .i64 0) rfl; have o4 := hQ.cell 4 (v := .int .i64 ql) rfl; have o5 := hQ.cell 5 (v := .slice B m kk) rfl; have a10 := hX.cell 10 (v := .slice (some ⟨g, o, none⟩) n c) rfl
          have fin := Lib.hid (show mayO x.d n Z ⟨qk, qr, (ti : Int), 0, ql, qa⟩ = p9 by simp [mayO, hp3.out, la.out, hp4.out, ra.out, hp5.out, hp6.out, hzd.out, colK, k5, hp8.out, hp9.out])
          cases p9 with
          | true => (go_wp2; go_ret; exact ⟨(show Ending.returned (.bool true) = .returned (.bool R) from by rewrite [← hres.out, fin.out]; rfl), bl⟩)
          | false => (go_wp2; go_ret; exact ⟨(show Ending.returned (.bool false) = .returned (.bool R) from by rewrite [← hres.out, fin.out]; rfl), bl⟩)
        · have f1 : (qc != 0) = true := by rw [bne_iff_ne]; exact c0
          (go_wp2; go_ret; exact ⟨(show Ending.returned (.bool false) = .returned (.bool R) from by rewrite [← hres.out]; simp [mayO, hzd.out, colK, k5, c0]), bl⟩)
    | false =>
      have la := Lib.hid (show lastK n qk = (n : Int) - 1 by rw [hl1.out]; rfl)
      have ra := Lib.hid (show regsK qk = 0 by rw [hl2.out]; rfl)
      obtain ⟨p4, hp4⟩ : ∃ p, inR qt 0 ((n : Int) - 1) = p := ⟨_, rfl⟩
      obtain ⟨p5, hp5⟩ : ∃ p, inR qr 0 0 = p := ⟨_, rfl⟩
      have H4 := Lib.hid (fun w => prog_within qt 0 ((n : Int) - 1) p4 w hp4)
      have H5 := Lib.hid (fun w => prog_within qr 0 0 p5 w hp5)
      have hp5 := Lib.hid hp5
      go_wp2_with fail
      refine (H3.out _).mono ?_
      rintro e w4 ⟨rfl, e2⟩
      replace hX := hX.below e2 hX.lt; replace hQ := hQ.below e2 hQ.lt; replace bl := bnext bl e2; clear e2 o0 o1 o2 o3 o4 o5 a10; have o0 := hQ.cell 0 (v := .int .i64 qk) rfl; have o1 := hQ.cell 1 (v := .int .i64 qr) rfl; have o2 := hQ.cell 2 (v := .int .i64 qt) rfl; have o3 := hQ.cell 3 (v := .int .i64 qc) rfl; have o4 := hQ.cell 4 (v := .int .i64 ql) rfl; have o5 := hQ.cell 5 (v := .slice B m kk) rfl; have a10 := hX.cell 10 (v := .slice A n c) rfl
      cases p3 with
      | false => (go_wp2; go_ret; exact ⟨(show Ending.returned (.bool false) = .returned (.bool R) from by rewrite [← hres.out]; simp [mayO, hp3.out]), bl⟩)
      | true =>
      go_wp2_with fail
      refine (H4.out _).mono ?_
      rintro e w5 ⟨rfl, e2⟩
      replace hX := hX.below e2 hX.lt; replace hQ := hQ.below e2 hQ.lt; replace bl := bnext bl e2; clear e2 o0 o1 o2 o3 o4 o5 a10; have o0 := hQ.cell 0 (v := .int .i64 qk) rfl; have o1 := hQ.cell 1 (v := .int .i64 qr) rfl; have o2 := hQ.cell 2 (v := .int .i64 qt) rfl; have o3 := hQ.cell 3 (v := .int .i64 qc) rfl; have o4 := hQ.cell 4 (v := .int .i64 ql) rfl; have o5 := hQ.cell 5 (v := .slice B m kk) rfl; have a10 := hX.cell 10 (v := .slice A n c) rfl
      cases p4 with
      | false => have hp4 := Lib.hid hp4; (go_wp2; go_ret; exact ⟨(show Ending.returned (.bool false) = .returned (.bool R) from by rewrite [← hres.out]; simp [mayO, la.out, hp4.out]), bl⟩)
      | true =>
      go_wp2_with fail
      refine (H5.out _).mono ?_
      rintro e w6 ⟨rfl, e2⟩
      replace hX := hX.below e2 hX.lt; replace hQ := hQ.below e2 hQ.lt; replace bl := bnext bl e2; clear e2 o0 o1 o2 o3 o4 o5 a10; have o0 := hQ.cell 0 (v := .int .i64 qk) rfl; have o1 := hQ.cell 1 (v := .int .i64 qr) rfl; have o2 := hQ.cell 2 (v := .int .i64 qt) rfl; have o3 := hQ.cell 3 (v := .int .i64 qc) rfl; have o4 := hQ.cell 4 (v := .int .i64 ql) rfl; have o5 := hQ.cell 5 (v := .slice B m kk) rfl; have a10 := hX.cell 10 (v := .slice A n c) rfl
      cases p5 with
      | false => have hp4 := Lib.hid hp4; (go_wp2; go_ret; exact ⟨(show Ending.returned (.bool false) = .returned (.bool R) from by rewrite [← hres.out]; simp [mayO, ra.out, hp5.out]), bl⟩)
      | true =>
      have a0 := hX.cell 0 (v := .int .i64 x.h) rfl; have a1 := hX.cell 1 (v := .int .i64 x.z) rfl; have a2 := hX.cell 2 (v := .int .i64 x.b) rfl; have a3 := hX.cell 3 (v := .int .i64 x.r) rfl; have a4 := hX.cell 4 (v := .int .i64 x.d) rfl; have a5 := hX.cell 5 (v := .int .i64 x.e) rfl; have a6 := hX.cell 6 (v := .int .i64 x.s) rfl; have a7 := hX.cell 7 (v := .int .i64 x.p) rfl; have a8 := hX.cell 8 (v := .int .i64 x.q) rfl; have a9 := hX.cell 9 (v := .int .i64 x.t) rfl
      go_wp2_with fail
      refine (H6.out _).mono ?_
      rintro e w7 ⟨rfl, e2⟩
      clear a0 a1 a2 a3 a4 a5 a6 a7 a8 a9
      replace hX := hX.below e2 hX.lt; replace hQ := hQ.below e2 hQ.lt; replace bl := bnext bl e2; clear e2 o0 o1 o2 o3 o4 o5 a10; have o0 := hQ.cell 0 (v := .int .i64 qk) rfl; have o1 := hQ.cell 1 (v := .int .i64 qr) rfl; have o2 := hQ.cell 2 (v := .int .i64 qt) rfl; have o3 := hQ.cell 3 (v := .int .i64 qc) rfl; have o4 := hQ.cell 4 (v := .int .i64 ql) rfl; have o5 := hQ.cell 5 (v := .slice B m kk) rfl; have a10 := hX.cell 10 (v := .slice A n c) rfl
      cases p6 with
      | false => have hp4 := Lib.hid hp4; (go_wp2; go_ret; exact ⟨(show Ending.returned (.bool false) = .returned (.bool R) from by rewrite [← hres.out]; simp [mayO, hp6.out]), bl⟩)
      | true =>
      have ht := inR_true hp4
      have hp4 := Lib.hid hp4
      obtain ⟨ti, rfl⟩ := Int.eq_ofNat_of_zero_le ht.1
      have htn : ti < n := by omega
      obtain ⟨z, hz⟩ : ∃ z, Z[ti]? = some z := ⟨_, List.getElem?_eq_getElem (by omega)⟩
      have hzl := hrows.out ti z hz
      have hzd := Lib.hid (show Z[ti]?.getD [] = z by rw [hz]; rfl)
      obtain ⟨g, o, rfl, hc⟩ := (h.below bl).at_ (by omega)
      obtain ⟨Br, kr, hcell, hrow⟩ := hc ti z hz
      clear hc hz
      obtain ⟨p8, hp8⟩ : ∃ p, argsK z.length qk m = p := ⟨_, rfl⟩
      have H8 := Lib.hid (fun w => prog_args Br z.length kr qk m p8 w hp8)
      have hp8 := Lib.hid (show argsK z.length qk qa.length = p8 by rw [hml]; exact hp8)
      have HC := Lib.hid (fun w h => prog_contains B m kk qa w h)
      obtain ⟨p9, hp9⟩ : ∃ p, qa.all mayE = p := ⟨_, rfl⟩
      rw [hp9] at HC
      have hp9 := Lib.hid hp9
      by_cases k5 : qk = 5
      · subst k5
        obtain ⟨p7, hp7⟩ : ∃ p, inR qc 0 ((z.length : Int) - 1) = p := ⟨_, rfl⟩
        have wz : IntKind.i64.wrap ((z.length : Int) - 1) = (z.length : Int) - 1 := IntWalk.i64_in _ (by omega)
        have H7 := Lib.hid (fun w => prog_within qc 0 ((z.length : Int) - 1) p7 w hp7)
        go_wp2_with fail
        refine (H7.out _).mono ?_
        rintro e w8 ⟨rfl, e2⟩
        have e3 := e2
        replace hX := hX.below e2 hX.lt; replace hQ := hQ.below e2 hQ.lt; replace bl := bnext bl e2; clear e2 o0 o1 o2 o3 o4 o5 a10; have o0 := hQ.cell 0 (v := .int .i64 5) rfl; have o1 := hQ.cell 1 (v := .int .i64 qr) rfl; have o2 := hQ.cell 2 (v := .int .i64 (ti : Int)) rfl; have o3 := hQ.cell 3 (v := .int .i64 qc) rfl; have o4 := hQ.cell 4 (v := .int .i64 ql) rfl; have o5 := hQ.cell 5 (v := .slice B m kk) rfl; have a10 := hX.cell 10 (v := .slice (some ⟨g, o, none⟩) n c) rfl
        cases p7 with
        | false => have hp7 := Lib.hid hp7; (go_wp2; go_ret; exact ⟨(show Ending.returned (.bool false) = .returned (.bool R) from by rewrite [← hres.out]; simp [mayO, hzd.out, colK, hp7.out]), bl⟩)
        | true =>
        have hc := inR_true hp7
        have hp7 := Lib.hid hp7
        obtain ⟨ci, rfl⟩ := Int.eq_ofNat_of_zero_le hc.1
        obtain ⟨y, hy⟩ : ∃ y, z[ci]? = some y := ⟨_, List.getElem?_eq_getElem (by omega)⟩
        have hyd := Lib.hid (show z[ci]?.getD 0 = y by rw [hy]; rfl)
        obtain ⟨g2, o2', rfl, hc2⟩ := (hrow.below (show Below w7.heap.size w7 w8 from e3)).at_ (by omega)
        have hcell3 := hc2 ci y hy
        by_cases y1 : y = 1
        · subst y1
          go_wp2_with fail
          refine (H8.out _).mono ?_
          rintro e w9 ⟨rfl, e2⟩
          replace hX := hX.below e2 hX.lt; replace hQ := hQ.below e2 hQ.lt; replace bl := bnext bl e2; clear e2 o0 o1 o2 o3 o4 o5 a10; have o0 := hQ.cell 0 (v := .int .i64 5) rfl; have o1 := hQ.cell 1 (v := .int .i64 qr) rfl; have o2 := hQ.cell 2 (v := .int .i64 (ti : Int)) rfl; have o3 := hQ.cell 3 (v := .int .i64 (ci : Int)) rfl; have o4 := hQ.cell 4 (v := .int .i64 ql) rfl; have o5 := hQ.cell 5 (v := .slice B m kk) rfl; have a10 := hX.cell 10 (v := .slice (some ⟨g, o, none⟩) n c) rfl
          cases p8 with
          | false => (go_wp2; go_ret; exact ⟨(show Ending.returned (.bool false) = .returned (.bool R) from by rewrite [← hres.out]; simp [mayO, hzd.out, hp8.out]), bl⟩)
          | true =>
          go_wp2_with fail
          refine (HC.out _ (h2.below bl)).mono ?_
          rintro e w10 ⟨rfl, e2⟩
          replace hX := hX.below e2 hX.lt; replace hQ := hQ.below e2 hQ.lt; replace bl := bnext bl e2; clear e2 o0 o1 o2 o3 o4 o5 a10; have o0 := hQ.cell 0 (v := .int .i64 5) rfl; have o1 := hQ.cell 1 (v := .int .i64 qr) rfl; have o2 := hQ.cell 2 (v := .int .i64 (ti : Int)) rfl; have o3 := hQ.cell 3 (v := .int .i64 (ci : Int)) rfl; have o4 := hQ.cell 4 (v := .int .i64 ql) rfl; have o5 := hQ.cell 5 (v := .slice B m kk) rfl; have a10 := hX.cell 10 (v := .slice (some ⟨g, o, none⟩) n c) rfl
          have fin := Lib.hid (show mayO x.d n Z ⟨5, qr, (ti : Int), (ci : Int), ql, qa⟩ = p9 by simp [mayO, hp3.out, la.out, hp4.out, ra.out, hp5.out, hp6.out, hzd.out, colK, hp7.out, hyd.out, hp8.out, hp9.out])
          cases p9 with
          | true => (go_wp2; go_ret; exact ⟨(show Ending.returned (.bool true) = .returned (.bool R) from by rewrite [← hres.out, fin.out]; rfl), bl⟩)
          | false => (go_wp2; go_ret; exact ⟨(show Ending.returned (.bool false) = .returned (.bool R) from by rewrite [← hres.out, fin.out]; rfl), bl⟩)
        · have f1 : (y != 1) = true := by rw [bne_iff_ne]; exact y1
          have f2 : (y == 1) = false := by rw [beq_eq_false_iff_ne]; exact y1
          (go_wp2; go_ret; exact ⟨(show Ending.returned (.bool false) = .returned (.bool R) from by rewrite [← hres.out]; simp [mayO, hzd.out, colK, hp7.out, hyd.out, y1]), bl⟩)
      · have f5 : (qk == 5) = false := by rw [beq_eq_false_iff_ne]; exact k5
        by_cases c0 : qc = 0
        · subst c0
          go_wp2_with fail
          refine (H8.out _).mono ?_
          rintro e w9 ⟨rfl, e2⟩
          replace hX := hX.below e2 hX.lt; replace hQ := hQ.below e2 hQ.lt; replace bl := bnext bl e2; clear e2 o0 o1 o2 o3 o4 o5 a10; have o0 := hQ.cell 0 (v := .int .i64 qk) rfl; have o1 := hQ.cell 1 (v := .int .i64 qr) rfl; have o2 := hQ.cell 2 (v := .int .i64 (ti : Int)) rfl; have o3 := hQ.cell 3 (v := .int .i64 0) rfl; have o4 := hQ.cell 4 (v := .int .i64 ql) rfl; have o5 := hQ.cell 5 (v := .slice B m kk) rfl; have a10 := hX.cell 10 (v := .slice (some ⟨g, o, none⟩) n c) rfl
          cases p8 with
          | false => (go_wp2; go_ret; exact ⟨(show Ending.returned (.bool false) = .returned (.bool R) from by rewrite [← hres.out]; simp [mayO, hzd.out, hp8.out]), bl⟩)
          | true =>
          go_wp2_with fail
          refine (HC.out _ (h2.below bl)).mono ?_
          rintro e w10 ⟨rfl, e2⟩
          replace hX := hX.below e2 hX.lt; replace hQ := hQ.below e2 hQ.lt; replace bl := bnext bl e2; clear e2 o0 o1 o2 o3 o4 o5 a10; have o0 := hQ.cell 0 (v := .int .i64 qk) rfl; have o1 := hQ.cell 1 (v := .int .i64 qr) rfl; have o2 := hQ.cell 2 (v := .int .i64 (ti : Int)) rfl; have o3 := hQ.cell 3 (v := .int .i64 0) rfl; have o4 := hQ.cell 4 (v := .int .i64 ql) rfl; have o5 := hQ.cell 5 (v := .slice B m kk) rfl; have a10 := hX.cell 10 (v := .slice (some ⟨g, o, none⟩) n c) rfl
          have fin := Lib.hid (show mayO x.d n Z ⟨qk, qr, (ti : Int), 0, ql, qa⟩ = p9 by simp [mayO, hp3.out, la.out, hp4.out, ra.out, hp5.out, hp6.out, hzd.out, colK, k5, hp8.out, hp9.out])
          cases p9 with
          | true => (go_wp2; go_ret; exact ⟨(show Ending.returned (.bool true) = .returned (.bool R) from by rewrite [← hres.out, fin.out]; rfl), bl⟩)
          | false => (go_wp2; go_ret; exact ⟨(show Ending.returned (.bool false) = .returned (.bool R) from by rewrite [← hres.out, fin.out]; rfl), bl⟩)
        · have f1 : (qc != 0) = true := by rw [bne_iff_ne]; exact c0
          (go_wp2; go_ret; exact ⟨(show Ending.returned (.bool false) = .returned (.bool R) from by rewrite [← hres.out]; simp [mayO, hzd.out, colK, k5, c0]), bl⟩)
  | false =>
    go_wp2_with fail
    refine (H2.out _).mono ?_
    rintro e w3 ⟨rfl, e2⟩
    replace hX := hX.below e2 hX.lt; replace hQ := hQ.below e2 hQ.lt; replace bl := bnext bl e2; clear e2 o0 o1 o2 o3 o4 o5 a10; have o0 := hQ.cell 0 (v := .int .i64 qk) rfl; have o1 := hQ.cell 1 (v := .int .i64 qr) rfl; have o2 := hQ.cell 2 (v := .int .i64 qt) rfl; have o3 := hQ.cell 3 (v := .int .i64 qc) rfl; have o4 := hQ.cell 4 (v := .int .i64 ql) rfl; have o5 := hQ.cell 5 (v := .slice B m kk) rfl; have a10 := hX.cell 10 (v := .slice A n c) rfl
    cases p2 with
    | true =>
      have la := Lib.hid (show lastK n qk = 0 by rw [hl1.out]; rfl)
      have ra := Lib.hid (show regsK qk = 3 by rw [hl2.out]; rfl)
      obtain ⟨p4, hp4⟩ : ∃ p, inR qt 0 (0) = p := ⟨_, rfl⟩
      obtain ⟨p5, hp5⟩ : ∃ p, inR qr 0 3 = p := ⟨_, rfl⟩
      have H4 := Lib.hid (fun w => prog_within qt 0 (0) p4 w hp4)
      have H5 := Lib.hid (fun w => prog_within qr 0 3 p5 w hp5)
      have hp5 := Lib.hid hp5
      go_wp2_with fail
      refine (H3.out _).mono ?_
      rintro e w4 ⟨rfl, e2⟩
      replace hX := hX.below e2 hX.lt; replace hQ := hQ.below e2 hQ.lt; replace bl := bnext bl e2; clear e2 o0 o1 o2 o3 o4 o5 a10; have o0 := hQ.cell 0 (v := .int .i64 qk) rfl; have o1 := hQ.cell 1 (v := .int .i64 qr) rfl; have o2 := hQ.cell 2 (v := .int .i64 qt) rfl; have o3 := hQ.cell 3 (v := .int .i64 qc) rfl; have o4 := hQ.cell 4 (v := .int .i64 ql) rfl; have o5 := hQ.cell 5 (v := .slice B m kk) rfl; have a10 := hX.cell 10 (v := .slice A n c) rfl
      cases p3 with
      | false => (go_wp2; go_ret; exact ⟨(show Ending.returned (.bool false) = .returned (.bool R) from by rewrite [← hres.out]; simp [mayO, hp3.out]), bl⟩)
      | true =>
      go_wp2_with fail
      refine (H4.out _).mono ?_
      rintro e w5 ⟨rfl, e2⟩
      replace hX := hX.below e2 hX.lt; replace hQ := hQ.below e2 hQ.lt; replace bl := bnext bl e2; clear e2 o0 o1 o2 o3 o4 o5 a10; have o0 := hQ.cell 0 (v := .int .i64 qk) rfl; have o1 := hQ.cell 1 (v := .int .i64 qr) rfl; have o2 := hQ.cell 2 (v := .int .i64 qt) rfl; have o3 := hQ.cell 3 (v := .int .i64 qc) rfl; have o4 := hQ.cell 4 (v := .int .i64 ql) rfl; have o5 := hQ.cell 5 (v := .slice B m kk) rfl; have a10 := hX.cell 10 (v := .slice A n c) rfl
      cases p4 with
      | false => have hp4 := Lib.hid hp4; (go_wp2; go_ret; exact ⟨(show Ending.returned (.bool false) = .returned (.bool R) from by rewrite [← hres.out]; simp [mayO, la.out, hp4.out]), bl⟩)
      | true =>
      go_wp2_with fail
      refine (H5.out _).mono ?_
      rintro e w6 ⟨rfl, e2⟩
      replace hX := hX.below e2 hX.lt; replace hQ := hQ.below e2 hQ.lt; replace bl := bnext bl e2; clear e2 o0 o1 o2 o3 o4 o5 a10; have o0 := hQ.cell 0 (v := .int .i64 qk) rfl; have o1 := hQ.cell 1 (v := .int .i64 qr) rfl; have o2 := hQ.cell 2 (v := .int .i64 qt) rfl; have o3 := hQ.cell 3 (v := .int .i64 qc) rfl; have o4 := hQ.cell 4 (v := .int .i64 ql) rfl; have o5 := hQ.cell 5 (v := .slice B m kk) rfl; have a10 := hX.cell 10 (v := .slice A n c) rfl
      cases p5 with
      | false => have hp4 := Lib.hid hp4; (go_wp2; go_ret; exact ⟨(show Ending.returned (.bool false) = .returned (.bool R) from by rewrite [← hres.out]; simp [mayO, ra.out, hp5.out]), bl⟩)
      | true =>
      have a0 := hX.cell 0 (v := .int .i64 x.h) rfl; have a1 := hX.cell 1 (v := .int .i64 x.z) rfl; have a2 := hX.cell 2 (v := .int .i64 x.b) rfl; have a3 := hX.cell 3 (v := .int .i64 x.r) rfl; have a4 := hX.cell 4 (v := .int .i64 x.d) rfl; have a5 := hX.cell 5 (v := .int .i64 x.e) rfl; have a6 := hX.cell 6 (v := .int .i64 x.s) rfl; have a7 := hX.cell 7 (v := .int .i64 x.p) rfl; have a8 := hX.cell 8 (v := .int .i64 x.q) rfl; have a9 := hX.cell 9 (v := .int .i64 x.t) rfl
      go_wp2_with fail
      refine (H6.out _).mono ?_
      rintro e w7 ⟨rfl, e2⟩
      clear a0 a1 a2 a3 a4 a5 a6 a7 a8 a9
      replace hX := hX.below e2 hX.lt; replace hQ := hQ.below e2 hQ.lt; replace bl := bnext bl e2; clear e2 o0 o1 o2 o3 o4 o5 a10; have o0 := hQ.cell 0 (v := .int .i64 qk) rfl; have o1 := hQ.cell 1 (v := .int .i64 qr) rfl; have o2 := hQ.cell 2 (v := .int .i64 qt) rfl; have o3 := hQ.cell 3 (v := .int .i64 qc) rfl; have o4 := hQ.cell 4 (v := .int .i64 ql) rfl; have o5 := hQ.cell 5 (v := .slice B m kk) rfl; have a10 := hX.cell 10 (v := .slice A n c) rfl
      cases p6 with
      | false => have hp4 := Lib.hid hp4; (go_wp2; go_ret; exact ⟨(show Ending.returned (.bool false) = .returned (.bool R) from by rewrite [← hres.out]; simp [mayO, hp6.out]), bl⟩)
      | true =>
      have ht := inR_true hp4
      have hp4 := Lib.hid hp4
      obtain ⟨ti, rfl⟩ := Int.eq_ofNat_of_zero_le ht.1
      have htn : ti < n := by omega
      obtain ⟨z, hz⟩ : ∃ z, Z[ti]? = some z := ⟨_, List.getElem?_eq_getElem (by omega)⟩
      have hzl := hrows.out ti z hz
      have hzd := Lib.hid (show Z[ti]?.getD [] = z by rw [hz]; rfl)
      obtain ⟨g, o, rfl, hc⟩ := (h.below bl).at_ (by omega)
      obtain ⟨Br, kr, hcell, hrow⟩ := hc ti z hz
      clear hc hz
      obtain ⟨p8, hp8⟩ : ∃ p, argsK z.length qk m = p := ⟨_, rfl⟩
      have H8 := Lib.hid (fun w => prog_args Br z.length kr qk m p8 w hp8)
      have hp8 := Lib.hid (show argsK z.length qk qa.length = p8 by rw [hml]; exact hp8)
      have HC := Lib.hid (fun w h => prog_contains B m kk qa w h)
      obtain ⟨p9, hp9⟩ : ∃ p, qa.all mayE = p := ⟨_, rfl⟩
      rw [hp9] at HC
      have hp9 := Lib.hid hp9
      by_cases k5 : qk = 5
      · subst k5
        obtain ⟨p7, hp7⟩ : ∃ p, inR qc 0 ((z.length : Int) - 1) = p := ⟨_, rfl⟩
        have wz : IntKind.i64.wrap ((z.length : Int) - 1) = (z.length : Int) - 1 := IntWalk.i64_in _ (by omega)
        have H7 := Lib.hid (fun w => prog_within qc 0 ((z.length : Int) - 1) p7 w hp7)
        go_wp2_with fail
        refine (H7.out _).mono ?_
        rintro e w8 ⟨rfl, e2⟩
        have e3 := e2
        replace hX := hX.below e2 hX.lt; replace hQ := hQ.below e2 hQ.lt; replace bl := bnext bl e2; clear e2 o0 o1 o2 o3 o4 o5 a10; have o0 := hQ.cell 0 (v := .int .i64 5) rfl; have o1 := hQ.cell 1 (v := .int .i64 qr) rfl; have o2 := hQ.cell 2 (v := .int .i64 (ti : Int)) rfl; have o3 := hQ.cell 3 (v := .int .i64 qc) rfl; have o4 := hQ.cell 4 (v := .int .i64 ql) rfl; have o5 := hQ.cell 5 (v := .slice B m kk) rfl; have a10 := hX.cell 10 (v := .slice (some ⟨g, o, none⟩) n c) rfl
        cases p7 with
        | false => have hp7 := Lib.hid hp7; (go_wp2; go_ret; exact ⟨(show Ending.returned (.bool false) = .returned (.bool R) from by rewrite [← hres.out]; simp [mayO, hzd.out, colK, hp7.out]), bl⟩)
        | true =>
        have hc := inR_true hp7
        have hp7 := Lib.hid hp7
        obtain ⟨ci, rfl⟩ := Int.eq_ofNat_of_zero_le hc.1
        obtain ⟨y, hy⟩ : ∃ y, z[ci]? = some y := ⟨_, List.getElem?_eq_getElem (by omega)⟩
        have hyd := Lib.hid (show z[ci]?.getD 0 = y by rw [hy]; rfl)
        obtain ⟨g2, o2', rfl, hc2⟩ := (hrow.below (show Below w7.heap.size w7 w8 from e3)).at_ (by omega)
        have hcell3 := hc2 ci y hy
        by_cases y1 : y = 1
        · subst y1
          go_wp2_with fail
          refine (H8.out _).mono ?_
          rintro e w9 ⟨rfl, e2⟩
          replace hX := hX.below e2 hX.lt; replace hQ := hQ.below e2 hQ.lt; replace bl := bnext bl e2; clear e2 o0 o1 o2 o3 o4 o5 a10; have o0 := hQ.cell 0 (v := .int .i64 5) rfl; have o1 := hQ.cell 1 (v := .int .i64 qr) rfl; have o2 := hQ.cell 2 (v := .int .i64 (ti : Int)) rfl; have o3 := hQ.cell 3 (v := .int .i64 (ci : Int)) rfl; have o4 := hQ.cell 4 (v := .int .i64 ql) rfl; have o5 := hQ.cell 5 (v := .slice B m kk) rfl; have a10 := hX.cell 10 (v := .slice (some ⟨g, o, none⟩) n c) rfl
          cases p8 with
          | false => (go_wp2; go_ret; exact ⟨(show Ending.returned (.bool false) = .returned (.bool R) from by rewrite [← hres.out]; simp [mayO, hzd.out, hp8.out]), bl⟩)
          | true =>
          go_wp2_with fail
          refine (HC.out _ (h2.below bl)).mono ?_
          rintro e w10 ⟨rfl, e2⟩
          replace hX := hX.below e2 hX.lt; replace hQ := hQ.below e2 hQ.lt; replace bl := bnext bl e2; clear e2 o0 o1 o2 o3 o4 o5 a10; have o0 := hQ.cell 0 (v := .int .i64 5) rfl; have o1 := hQ.cell 1 (v := .int .i64 qr) rfl; have o2 := hQ.cell 2 (v := .int .i64 (ti : Int)) rfl; have o3 := hQ.cell 3 (v := .int .i64 (ci : Int)) rfl; have o4 := hQ.cell 4 (v := .int .i64 ql) rfl; have o5 := hQ.cell 5 (v := .slice B m kk) rfl; have a10 := hX.cell 10 (v := .slice (some ⟨g, o, none⟩) n c) rfl
          have fin := Lib.hid (show mayO x.d n Z ⟨5, qr, (ti : Int), (ci : Int), ql, qa⟩ = p9 by simp [mayO, hp3.out, la.out, hp4.out, ra.out, hp5.out, hp6.out, hzd.out, colK, hp7.out, hyd.out, hp8.out, hp9.out])
          cases p9 with
          | true => (go_wp2; go_ret; exact ⟨(show Ending.returned (.bool true) = .returned (.bool R) from by rewrite [← hres.out, fin.out]; rfl), bl⟩)
          | false => (go_wp2; go_ret; exact ⟨(show Ending.returned (.bool false) = .returned (.bool R) from by rewrite [← hres.out, fin.out]; rfl), bl⟩)
        · have f1 : (y != 1) = true := by rw [bne_iff_ne]; exact y1
          have f2 : (y == 1) = false := by rw [beq_eq_false_iff_ne]; exact y1
          (go_wp2; go_ret; exact ⟨(show Ending.returned (.bool false) = .returned (.bool R) from by rewrite [← hres.out]; simp [mayO, hzd.out, colK, hp7.out, hyd.out, y1]), bl⟩)
      · have f5 : (qk == 5) = false := by rw [beq_eq_false_iff_ne]; exact k5
        by_cases c0 : qc = 0
        · subst c0
          go_wp2_with fail
          refine (H8.out _).mono ?_
          rintro e w9 ⟨rfl, e2⟩
          replace hX := hX.below e2 hX.lt; replace hQ := hQ.below e2 hQ.lt; replace bl := bnext bl e2; clear e2 o0 o1 o2 o3 o4 o5 a10; have o0 := hQ.cell 0 (v := .int .i64 qk) rfl; have o1 := hQ.cell 1 (v := .int .i64 qr) rfl; have o2 := hQ.cell 2 (v := .int .i64 (ti : Int)) rfl; have o3 := hQ.cell 3 (v := .int .i64 0) rfl; have o4 := hQ.cell 4 (v := .int .i64 ql) rfl; have o5 := hQ.cell 5 (v := .slice B m kk) rfl; have a10 := hX.cell 10 (v := .slice (some ⟨g, o, none⟩) n c) rfl
          cases p8 with
          | false => (go_wp2; go_ret; exact ⟨(show Ending.returned (.bool false) = .returned (.bool R) from by rewrite [← hres.out]; simp [mayO, hzd.out, hp8.out]), bl⟩)
          | true =>
          go_wp2_with fail
          refine (HC.out _ (h2.below bl)).mono ?_
          rintro e w10 ⟨rfl, e2⟩
          replace hX := hX.below e2 hX.lt; replace hQ := hQ.below e2 hQ.lt; replace bl := bnext bl e2; clear e2 o0 o1 o2 o3 o4 o5 a10; have o0 := hQ.cell 0 (v := .int .i64 qk) rfl; have o1 := hQ.cell 1 (v := .int .i64 qr) rfl; have o2 := hQ.cell 2 (v := .int .i64 (ti : Int)) rfl; have o3 := hQ.cell 3 (v := .int .i64 0) rfl; have o4 := hQ.cell 4 (v := .int .i64 ql) rfl; have o5 := hQ.cell 5 (v := .slice B m kk) rfl; have a10 := hX.cell 10 (v := .slice (some ⟨g, o, none⟩) n c) rfl
          have fin := Lib.hid (show mayO x.d n Z ⟨qk, qr, (ti : Int), 0, ql, qa⟩ = p9 by simp [mayO, hp3.out, la.out, hp4.out, ra.out, hp5.out, hp6.out, hzd.out, colK, k5, hp8.out, hp9.out])
          cases p9 with
          | true => (go_wp2; go_ret; exact ⟨(show Ending.returned (.bool true) = .returned (.bool R) from by rewrite [← hres.out, fin.out]; rfl), bl⟩)
          | false => (go_wp2; go_ret; exact ⟨(show Ending.returned (.bool false) = .returned (.bool R) from by rewrite [← hres.out, fin.out]; rfl), bl⟩)
        · have f1 : (qc != 0) = true := by rw [bne_iff_ne]; exact c0
          (go_wp2; go_ret; exact ⟨(show Ending.returned (.bool false) = .returned (.bool R) from by rewrite [← hres.out]; simp [mayO, hzd.out, colK, k5, c0]), bl⟩)
    | false =>
      have la := Lib.hid (show lastK n qk = 0 by rw [hl1.out]; rfl)
      have ra := Lib.hid (show regsK qk = 0 by rw [hl2.out]; rfl)
      obtain ⟨p4, hp4⟩ : ∃ p, inR qt 0 (0) = p := ⟨_, rfl⟩
      obtain ⟨p5, hp5⟩ : ∃ p, inR qr 0 0 = p := ⟨_, rfl⟩
      have H4 := Lib.hid (fun w => prog_within qt 0 (0) p4 w hp4)
      have H5 := Lib.hid (fun w => prog_within qr 0 0 p5 w hp5)
      have hp5 := Lib.hid hp5
      go_wp2_with fail
      refine (H3.out _).mono ?_
      rintro e w4 ⟨rfl, e2⟩
      replace hX := hX.below e2 hX.lt; replace hQ := hQ.below e2 hQ.lt; replace bl := bnext bl e2; clear e2 o0 o1 o2 o3 o4 o5 a10; have o0 := hQ.cell 0 (v := .int .i64 qk) rfl; have o1 := hQ.cell 1 (v := .int .i64 qr) rfl; have o2 := hQ.cell 2 (v := .int .i64 qt) rfl; have o3 := hQ.cell 3 (v := .int .i64 qc) rfl; have o4 := hQ.cell 4 (v := .int .i64 ql) rfl; have o5 := hQ.cell 5 (v := .slice B m kk) rfl; have a10 := hX.cell 10 (v := .slice A n c) rfl
      cases p3 with
      | false => (go_wp2; go_ret; exact ⟨(show Ending.returned (.bool false) = .returned (.bool R) from by rewrite [← hres.out]; simp [mayO, hp3.out]), bl⟩)
      | true =>
      go_wp2_with fail
      refine (H4.out _).mono ?_
      rintro e w5 ⟨rfl, e2⟩
      replace hX := hX.below e2 hX.lt; replace hQ := hQ.below e2 hQ.lt; replace bl := bnext bl e2; clear e2 o0 o1 o2 o3 o4 o5 a10; have o0 := hQ.cell 0 (v := .int .i64 qk) rfl; have o1 := hQ.cell 1 (v := .int .i64 qr) rfl; have o2 := hQ.cell 2 (v := .int .i64 qt) rfl; have o3 := hQ.cell 3 (v := .int .i64 qc) rfl; have o4 := hQ.cell 4 (v := .int .i64 ql) rfl; have o5 := hQ.cell 5 (v := .slice B m kk) rfl; have a10 := hX.cell 10 (v := .slice A n c) rfl
      cases p4 with
      | false => have hp4 := Lib.hid hp4; (go_wp2; go_ret; exact ⟨(show Ending.returned (.bool false) = .returned (.bool R) from by rewrite [← hres.out]; simp [mayO, la.out, hp4.out]), bl⟩)
      | true =>
      go_wp2_with fail
      refine (H5.out _).mono ?_
      rintro e w6 ⟨rfl, e2⟩
      replace hX := hX.below e2 hX.lt; replace hQ := hQ.below e2 hQ.lt; replace bl := bnext bl e2; clear e2 o0 o1 o2 o3 o4 o5 a10; have o0 := hQ.cell 0 (v := .int .i64 qk) rfl; have o1 := hQ.cell 1 (v := .int .i64 qr) rfl; have o2 := hQ.cell 2 (v := .int .i64 qt) rfl; have o3 := hQ.cell 3 (v := .int .i64 qc) rfl; have o4 := hQ.cell 4 (v := .int .i64 ql) rfl; have o5 := hQ.cell 5 (v := .slice B m kk) rfl; have a10 := hX.cell 10 (v := .slice A n c) rfl
      cases p5 with
      | false => have hp4 := Lib.hid hp4; (go_wp2; go_ret; exact ⟨(show Ending.returned (.bool false) = .returned (.bool R) from by rewrite [← hres.out]; simp [mayO, ra.out, hp5.out]), bl⟩)
      | true =>
      have a0 := hX.cell 0 (v := .int .i64 x.h) rfl; have a1 := hX.cell 1 (v := .int .i64 x.z) rfl; have a2 := hX.cell 2 (v := .int .i64 x.b) rfl; have a3 := hX.cell 3 (v := .int .i64 x.r) rfl; have a4 := hX.cell 4 (v := .int .i64 x.d) rfl; have a5 := hX.cell 5 (v := .int .i64 x.e) rfl; have a6 := hX.cell 6 (v := .int .i64 x.s) rfl; have a7 := hX.cell 7 (v := .int .i64 x.p) rfl; have a8 := hX.cell 8 (v := .int .i64 x.q) rfl; have a9 := hX.cell 9 (v := .int .i64 x.t) rfl
      go_wp2_with fail
      refine (H6.out _).mono ?_
      rintro e w7 ⟨rfl, e2⟩
      clear a0 a1 a2 a3 a4 a5 a6 a7 a8 a9
      replace hX := hX.below e2 hX.lt; replace hQ := hQ.below e2 hQ.lt; replace bl := bnext bl e2; clear e2 o0 o1 o2 o3 o4 o5 a10; have o0 := hQ.cell 0 (v := .int .i64 qk) rfl; have o1 := hQ.cell 1 (v := .int .i64 qr) rfl; have o2 := hQ.cell 2 (v := .int .i64 qt) rfl; have o3 := hQ.cell 3 (v := .int .i64 qc) rfl; have o4 := hQ.cell 4 (v := .int .i64 ql) rfl; have o5 := hQ.cell 5 (v := .slice B m kk) rfl; have a10 := hX.cell 10 (v := .slice A n c) rfl
      cases p6 with
      | false => have hp4 := Lib.hid hp4; (go_wp2; go_ret; exact ⟨(show Ending.returned (.bool false) = .returned (.bool R) from by rewrite [← hres.out]; simp [mayO, hp6.out]), bl⟩)
      | true =>
      have ht := inR_true hp4
      have hp4 := Lib.hid hp4
      obtain ⟨ti, rfl⟩ := Int.eq_ofNat_of_zero_le ht.1
      have htn : ti < n := by omega
      obtain ⟨z, hz⟩ : ∃ z, Z[ti]? = some z := ⟨_, List.getElem?_eq_getElem (by omega)⟩
      have hzl := hrows.out ti z hz
      have hzd := Lib.hid (show Z[ti]?.getD [] = z by rw [hz]; rfl)
      obtain ⟨g, o, rfl, hc⟩ := (h.below bl).at_ (by omega)
      obtain ⟨Br, kr, hcell, hrow⟩ := hc ti z hz
      clear hc hz
      obtain ⟨p8, hp8⟩ : ∃ p, argsK z.length qk m = p := ⟨_, rfl⟩
      have H8 := Lib.hid (fun w => prog_args Br z.length kr qk m p8 w hp8)
      have hp8 := Lib.hid (show argsK z.length qk qa.length = p8 by rw [hml]; exact hp8)
      have HC := Lib.hid (fun w h => prog_contains B m kk qa w h)
      obtain ⟨p9, hp9⟩ : ∃ p, qa.all mayE = p := ⟨_, rfl⟩
      rw [hp9] at HC
      have hp9 := Lib.hid hp9
      by_cases k5 : qk = 5
      · subst k5
        obtain ⟨p7, hp7⟩ : ∃ p, inR qc 0 ((z.length : Int) - 1) = p := ⟨_, rfl⟩
        have wz : IntKind.i64.wrap ((z.length : Int) - 1) = (z.length : Int) - 1 := IntWalk.i64_in _ (by omega)
        have H7 := Lib.hid (fun w => prog_within qc 0 ((z.length : Int) - 1) p7 w hp7)
        go_wp2_with fail
        refine (H7.out _).mono ?_
        rintro e w8 ⟨rfl, e2⟩
        have e3 := e2
        replace hX := hX.below e2 hX.lt; replace hQ := hQ.below e2 hQ.lt; replace bl := bnext bl e2; clear e2 o0 o1 o2 o3 o4 o5 a10; have o0 := hQ.cell 0 (v := .int .i64 5) rfl; have o1 := hQ.cell 1 (v := .int .i64 qr) rfl; have o2 := hQ.cell 2 (v := .int .i64 (ti : Int)) rfl; have o3 := hQ.cell 3 (v := .int .i64 qc) rfl; have o4 := hQ.cell 4 (v := .int .i64 ql) rfl; have o5 := hQ.cell 5 (v := .slice B m kk) rfl; have a10 := hX.cell 10 (v := .slice (some ⟨g, o, none⟩) n c) rfl
        cases p7 with
        | false => have hp7 := Lib.hid hp7; (go_wp2; go_ret; exact ⟨(show Ending.returned (.bool false) = .returned (.bool R) from by rewrite [← hres.out]; simp [mayO, hzd.out, colK, hp7.out]), bl⟩)
        | true =>
        have hc := inR_true hp7
        have hp7 := Lib.hid hp7
        obtain ⟨ci, rfl⟩ := Int.eq_ofNat_of_zero_le hc.1
        obtain ⟨y, hy⟩ : ∃ y, z[ci]? = some y := ⟨_, List.getElem?_eq_getElem (by omega)⟩
        have hyd := Lib.hid (show z[ci]?.getD 0 = y by rw [hy]; rfl)
        obtain ⟨g2, o2', rfl, hc2⟩ := (hrow.below (show Below w7.heap.size w7 w8 from e3)).at_ (by omega)
        have hcell3 := hc2 ci y hy
        by_cases y1 : y = 1
        · subst y1
          go_wp2_with fail
          refine (H8.out _).mono ?_
          rintro e w9 ⟨rfl, e2⟩
          replace hX := hX.below e2 hX.lt; replace hQ := hQ.below e2 hQ.lt; replace bl := bnext bl e2; clear e2 o0 o1 o2 o3 o4 o5 a10; have o0 := hQ.cell 0 (v := .int .i64 5) rfl; have o1 := hQ.cell 1 (v := .int .i64 qr) rfl; have o2 := hQ.cell 2 (v := .int .i64 (ti : Int)) rfl; have o3 := hQ.cell 3 (v := .int .i64 (ci : Int)) rfl; have o4 := hQ.cell 4 (v := .int .i64 ql) rfl; have o5 := hQ.cell 5 (v := .slice B m kk) rfl; have a10 := hX.cell 10 (v := .slice (some ⟨g, o, none⟩) n c) rfl
          cases p8 with
          | false => (go_wp2; go_ret; exact ⟨(show Ending.returned (.bool false) = .returned (.bool R) from by rewrite [← hres.out]; simp [mayO, hzd.out, hp8.out]), bl⟩)
          | true =>
          go_wp2_with fail
          refine (HC.out _ (h2.below bl)).mono ?_
          rintro e w10 ⟨rfl, e2⟩
          replace hX := hX.below e2 hX.lt; replace hQ := hQ.below e2 hQ.lt; replace bl := bnext bl e2; clear e2 o0 o1 o2 o3 o4 o5 a10; have o0 := hQ.cell 0 (v := .int .i64 5) rfl; have o1 := hQ.cell 1 (v := .int .i64 qr) rfl; have o2 := hQ.cell 2 (v := .int .i64 (ti : Int)) rfl; have o3 := hQ.cell 3 (v := .int .i64 (ci : Int)) rfl; have o4 := hQ.cell 4 (v := .int .i64 ql) rfl; have o5 := hQ.cell 5 (v := .slice B m kk) rfl; have a10 := hX.cell 10 (v := .slice (some ⟨g, o, none⟩) n c) rfl
          have fin := Lib.hid (show mayO x.d n Z ⟨5, qr, (ti : Int), (ci : Int), ql, qa⟩ = p9 by simp [mayO, hp3.out, la.out, hp4.out, ra.out, hp5.out, hp6.out, hzd.out, colK, hp7.out, hyd.out, hp8.out, hp9.out])
          cases p9 with
          | true => (go_wp2; go_ret; exact ⟨(show Ending.returned (.bool true) = .returned (.bool R) from by rewrite [← hres.out, fin.out]; rfl), bl⟩)
          | false => (go_wp2; go_ret; exact ⟨(show Ending.returned (.bool false) = .returned (.bool R) from by rewrite [← hres.out, fin.out]; rfl), bl⟩)
        · have f1 : (y != 1) = true := by rw [bne_iff_ne]; exact y1
          have f2 : (y == 1) = false := by rw [beq_eq_false_iff_ne]; exact y1
          (go_wp2; go_ret; exact ⟨(show Ending.returned (.bool false) = .returned (.bool R) from by rewrite [← hres.out]; simp [mayO, hzd.out, colK, hp7.out, hyd.out, y1]), bl⟩)
      · have f5 : (qk == 5) = false := by rw [beq_eq_false_iff_ne]; exact k5
        by_cases c0 : qc = 0
        · subst c0
          go_wp2_with fail
          refine (H8.out _).mono ?_
          rintro e w9 ⟨rfl, e2⟩
          replace hX := hX.below e2 hX.lt; replace hQ := hQ.below e2 hQ.lt; replace bl := bnext bl e2; clear e2 o0 o1 o2 o3 o4 o5 a10; have o0 := hQ.cell 0 (v := .int .i64 qk) rfl; have o1 := hQ.cell 1 (v := .int .i64 qr) rfl; have o2 := hQ.cell 2 (v := .int .i64 (ti : Int)) rfl; have o3 := hQ.cell 3 (v := .int .i64 0) rfl; have o4 := hQ.cell 4 (v := .int .i64 ql) rfl; have o5 := hQ.cell 5 (v := .slice B m kk) rfl; have a10 := hX.cell 10 (v := .slice (some ⟨g, o, none⟩) n c) rfl
          cases p8 with
          | false => (go_wp2; go_ret; exact ⟨(show Ending.returned (.bool false) = .returned (.bool R) from by rewrite [← hres.out]; simp [mayO, hzd.out, hp8.out]), bl⟩)
          | true =>
          go_wp2_with fail
          refine (HC.out _ (h2.below bl)).mono ?_
          rintro e w10 ⟨rfl, e2⟩
          replace hX := hX.below e2 hX.lt; replace hQ := hQ.below e2 hQ.lt; replace bl := bnext bl e2; clear e2 o0 o1 o2 o3 o4 o5 a10; have o0 := hQ.cell 0 (v := .int .i64 qk) rfl; have o1 := hQ.cell 1 (v := .int .i64 qr) rfl; have o2 := hQ.cell 2 (v := .int .i64 (ti : Int)) rfl; have o3 := hQ.cell 3 (v := .int .i64 0) rfl; have o4 := hQ.cell 4 (v := .int .i64 ql) rfl; have o5 := hQ.cell 5 (v := .slice B m kk) rfl; have a10 := hX.cell 10 (v := .slice (some ⟨g, o, none⟩) n c) rfl
          have fin := Lib.hid (show mayO x.d n Z ⟨qk, qr, (ti : Int), 0, ql, qa⟩ = p9 by simp [mayO, hp3.out, la.out, hp4.out, ra.out, hp5.out, hp6.out, hzd.out, colK, k5, hp8.out, hp9.out])
          cases p9 with
          | true => (go_wp2; go_ret; exact ⟨(show Ending.returned (.bool true) = .returned (.bool R) from by rewrite [← hres.out, fin.out]; rfl), bl⟩)
          | false => (go_wp2; go_ret; exact ⟨(show Ending.returned (.bool false) = .returned (.bool R) from by rewrite [← hres.out, fin.out]; rfl), bl⟩)
        · have f1 : (qc != 0) = true := by rw [bne_iff_ne]; exact c0
          (go_wp2; go_ret; exact ⟨(show Ending.returned (.bool false) = .returned (.bool R) from by rewrite [← hres.out]; simp [mayO, hzd.out, colK, k5, c0]), bl⟩)
end Go.Proofs.Ytdmjiaicgbcodaa
