/- The document of chapter 19: numbers of arguments, operations. -/
import Derived.Test.YtdmjiaicgbcodaaPgI
import Derived.Test.YtdmjiaicgbcodaaPgD
namespace Go.Proofs.Ytdmjiaicgbcodaa
open Go.ChangeShapes Go.WideShapes Go.ChangeAt Go.RowKit
open Go.ChangeMaps (open_string shut_string)
set_option linter.unusedVariables false
set_option linter.unusedSimpArgs false

/-- How many arguments an operation must have; -1: any. -/
def argN (Z : List (List Int)) (k t : Int) : Int := if k = 1 ∨ k = 4 then 1 else if k = 2 ∨ k = 3 then ((Z.getD t.toNat []).length : Int) else if k = 5 ∨ k = 6 then 2 else -1
set_option maxHeartbeats 2000000 in
set_option maxRecDepth 100000 in
theorem ref_args (x : Cfg) (A : Option Addr) (n c : Nat) (Z : List (List Int)) (qk qr qt qc ql : Int) (B : Option Addr) (m kk : Nat) (v : Int) (w : World) (h : RG w A n c Z) (ht : qk = 2 ∨ qk = 3 → 0 ≤ qt ∧ qt < n) (hv : argN Z qk qt = v) :
    Calls Try.prog 97 #[.agg #[.int .i64 x.h, .int .i64 x.z, .int .i64 x.b, .int .i64 x.r, .int .i64 x.d, .int .i64 x.e, .int .i64 x.s, .int .i64 x.p, .int .i64 x.q, .int .i64 x.t, .slice A n c], .agg #[.int .i64 qk, .int .i64 qr, .int .i64 qt, .int .i64 qc, .int .i64 ql, .slice B m kk]] w fun e w' => e = .returned (.int .i64 v) ∧ Below w.heap.size w w' := by
  have hZn := h.len
  have hX0 := (Blk.new w #[.int .i64 x.h, .int .i64 x.z, .int .i64 x.b, .int .i64 x.r, .int .i64 x.d, .int .i64 x.e, .int .i64 x.s, .int .i64 x.p, .int .i64 x.q, .int .i64 x.t, .slice A n c] 24).alloc (.cells #[.int .i64 qk, .int .i64 qr, .int .i64 qt, .int .i64 qc, .int .i64 ql, .slice B m kk] 51)
  have hQ0 := Blk.new2 w (.cells #[.int .i64 x.h, .int .i64 x.z, .int .i64 x.b, .int .i64 x.r, .int .i64 x.d, .int .i64 x.e, .int .i64 x.s, .int .i64 x.p, .int .i64 x.q, .int .i64 x.t, .slice A n c] 24) #[.int .i64 qk, .int .i64 qr, .int .i64 qt, .int .i64 qc, .int .i64 ql, .slice B m kk] 51
  have bb : Below w.heap.size w ((w.alloc (.cells #[.int .i64 x.h, .int .i64 x.z, .int .i64 x.b, .int .i64 x.r, .int .i64 x.d, .int .i64 x.e, .int .i64 x.s, .int .i64 x.p, .int .i64 x.q, .int .i64 x.t, .slice A n c] 24)).alloc (.cells #[.int .i64 qk, .int .i64 qr, .int .i64 qt, .int .i64 qc, .int .i64 ql, .slice B m kk] 51)) := (by repeat (first | exact Below.refl _ _ | assumption | apply below_drewN' | apply Below.drew | refine Below.alloc ?_ (by first | omega | (simp; done) | (simp; omega)) _ | refine Below.setCell ?_ (by first | omega | (simp; done) | (simp; omega)) _))
  unfold argN at hv
  by_cases k1 : qk = 1
  · rw [if_pos (.inl k1)] at hv
    replace hv := Lib.hid hv
    subst k1
    have hQ := hQ0
    have hX := hX0
    have o0 := hQ.cell 0 (v := .int .i64 1) rfl; have o1 := hQ.cell 1 (v := .int .i64 qr) rfl; have o2 := hQ.cell 2 (v := .int .i64 qt) rfl; have o3 := hQ.cell 3 (v := .int .i64 qc) rfl; have o4 := hQ.cell 4 (v := .int .i64 ql) rfl; have o5 := hQ.cell 5 (v := .slice B m kk) rfl; have a4 := hX.cell 4 (v := .int .i64 x.d) rfl; have a10 := hX.cell 10 (v := .slice A n c) rfl
    go_enter Try.func97, Try.ntmps97
    go_wp2
    go_ret
    exact ⟨(show Ending.returned (.int .i64 (1)) = .returned (.int .i64 v) from by rw [hv.out]), bb⟩
  have f1 : (qk == 1) = false := by rw [beq_eq_false_iff_ne]; exact k1
  by_cases k4 : qk = 4
  · rw [if_pos (.inr k4)] at hv
    replace hv := Lib.hid hv
    subst k4
    have hQ := hQ0
    have hX := hX0
    have o0 := hQ.cell 0 (v := .int .i64 4) rfl; have o1 := hQ.cell 1 (v := .int .i64 qr) rfl; have o2 := hQ.cell 2 (v := .int .i64 qt) rfl; have o3 := hQ.cell 3 (v := .int .i64 qc) rfl; have o4 := hQ.cell 4 (v := .int .i64 ql) rfl; have o5 := hQ.cell 5 (v := .slice B m kk) rfl; have a4 := hX.cell 4 (v := .int .i64 x.d) rfl; have a10 := hX.cell 10 (v := .slice A n c) rfl
    go_enter Try.func97, Try.ntmps97
    go_wp2
    go_ret
    exact ⟨(show Ending.returned (.int .i64 (1)) = .returned (.int .i64 v) from by rw [hv.out]), bb⟩
  have f4 : (qk == 4) = false := by rw [beq_eq_false_iff_ne]; exact k4
  rw [if_neg (by omega)] at hv
  by_cases k2 : qk = 2
  · rw [if_pos (.inl k2)] at hv
    obtain ⟨t0, t1⟩ := ht (by omega)
    obtain ⟨ti, rfl⟩ := Int.eq_ofNat_of_zero_le t0
    obtain ⟨z, hz⟩ : ∃ z, Z[ti]? = some z := ⟨_, List.getElem?_eq_getElem (by omega)⟩
    have hzd : (Z.getD ((ti : Int).toNat) []) = z := by rw [Int.toNat_natCast]; simp [List.getD, hz]
    rw [hzd] at hv
    have hbl := h.below bb
    obtain ⟨g, o, rfl, hc⟩ := hbl.at_ (by omega)
    obtain ⟨Br, kr, hcell, hrow⟩ := hc ti z hz
    clear hc hz hzd hbl ht
    replace hv := Lib.hid hv
    subst k2
    have hQ := hQ0
    have hX := hX0
    have o0 := hQ.cell 0 (v := .int .i64 2) rfl; have o1 := hQ.cell 1 (v := .int .i64 qr) rfl; have o2 := hQ.cell 2 (v := .int .i64 (ti : Int)) rfl; have o3 := hQ.cell 3 (v := .int .i64 qc) rfl; have o4 := hQ.cell 4 (v := .int .i64 ql) rfl; have o5 := hQ.cell 5 (v := .slice B m kk) rfl; have a4 := hX.cell 4 (v := .int .i64 x.d) rfl; have a10 := hX.cell 10 (v := .slice (some ⟨g, o, none⟩) n c) rfl
    go_enter Try.func97, Try.ntmps97
    go_wp2
    go_ret
    exact ⟨(show Ending.returned (.int .i64 ((z.length : Int))) = .returned (.int .i64 v) from by rw [hv.out]), bb⟩
  have f2 : (qk == 2) = false := by rw [beq_eq_false_iff_ne]; exact k2
  by_cases k3 : qk = 3
  · rw [if_pos (.inr k3)] at hv
    obtain ⟨t0, t1⟩ := ht (by omega)
    obtain ⟨ti, rfl⟩ := Int.eq_ofNat_of_zero_le t0
    obtain ⟨z, hz⟩ : ∃ z, Z[ti]? = some z := ⟨_, List.getElem?_eq_getElem (by omega)⟩
    have hzd : (Z.getD ((ti : Int).toNat) []) = z := by rw [Int.toNat_natCast]; simp [List.getD, hz]
    rw [hzd] at hv
    have hbl := h.below bb
    obtain ⟨g, o, rfl, hc⟩ := hbl.at_ (by omega)
    obtain ⟨Br, kr, hcell, hrow⟩ := hc ti z hz
    clear hc hz hzd hbl ht
    replace hv := Lib.hid hv
    subst k3
    have hQ := hQ0
    have hX := hX0
    have o0 := hQ.cell 0 (v := .int .i64 3) rfl; have o1 := hQ.cell 1 (v := .int .i64 qr) rfl; have o2 := hQ.cell 2 (v := .int .i64 (ti : Int)) rfl; have o3 := hQ.cell 3 (v := .int .i64 qc) rfl; have o4 := hQ.cell 4 (v := .int .i64 ql) rfl; have o5 := hQ.cell 5 (v := .slice B m kk) rfl; have a4 := hX.cell 4 (v := .int .i64 x.d) rfl; have a10 := hX.cell 10 (v := .slice (some ⟨g, o, none⟩) n c) rfl
    go_enter Try.func97, Try.ntmps97
    go_wp2
    go_ret
    exact ⟨(show Ending.returned (.int .i64 ((z.length : Int))) = .returned (.int .i64 v) from by rw [hv.out]), bb⟩
  have f3 : (qk == 3) = false := by rw [beq_eq_false_iff_ne]; exact k3
  rw [if_neg (by omega)] at hv
  by_cases k5 : qk = 5
  · rw [if_pos (.inl k5)] at hv
    replace hv := Lib.hid hv
    subst k5
    have hQ := hQ0
    have hX := hX0
    have o0 := hQ.cell 0 (v := .int .i64 5) rfl; have o1 := hQ.cell 1 (v := .int .i64 qr) rfl; have o2 := hQ.cell 2 (v := .int .i64 qt) rfl; have o3 := hQ.cell 3 (v := .int .i64 qc) rfl; have o4 := hQ.cell 4 (v := .int .i64 ql) rfl; have o5 := hQ.cell 5 (v := .slice B m kk) rfl; have a4 := hX.cell 4 (v := .int .i64 x.d) rfl; have a10 := hX.cell 10 (v := .slice A n c) rfl
    go_enter Try.func97, Try.ntmps97
    go_wp2
    go_ret
    exact ⟨(show Ending.returned (.int .i64 (2)) = .returned (.int .i64 v) from by rw [hv.out]), bb⟩
  have f5 : (qk == 5) = false := by rw [beq_eq_false_iff_ne]; exact k5
  by_cases k6 : qk = 6
  · rw [if_pos (.inr k6)] at hv
    replace hv := Lib.hid hv
    subst k6
    have hQ := hQ0
    have hX := hX0
    have o0 := hQ.cell 0 (v := .int .i64 6) rfl; have o1 := hQ.cell 1 (v := .int .i64 qr) rfl; have o2 := hQ.cell 2 (v := .int .i64 qt) rfl; have o3 := hQ.cell 3 (v := .int .i64 qc) rfl; have o4 := hQ.cell 4 (v := .int .i64 ql) rfl; have o5 := hQ.cell 5 (v := .slice B m kk) rfl; have a4 := hX.cell 4 (v := .int .i64 x.d) rfl; have a10 := hX.cell 10 (v := .slice A n c) rfl
    go_enter Try.func97, Try.ntmps97
    go_wp2
    go_ret
    exact ⟨(show Ending.returned (.int .i64 (2)) = .returned (.int .i64 v) from by rw [hv.out]), bb⟩
  have f6 : (qk == 6) = false := by rw [beq_eq_false_iff_ne]; exact k6
  rw [if_neg (by omega)] at hv
  replace hv := Lib.hid hv
  have hQ := hQ0
  have hX := hX0
  have o0 := hQ.cell 0 (v := .int .i64 qk) rfl; have o1 := hQ.cell 1 (v := .int .i64 qr) rfl; have o2 := hQ.cell 2 (v := .int .i64 qt) rfl; have o3 := hQ.cell 3 (v := .int .i64 qc) rfl; have o4 := hQ.cell 4 (v := .int .i64 ql) rfl; have o5 := hQ.cell 5 (v := .slice B m kk) rfl; have a4 := hX.cell 4 (v := .int .i64 x.d) rfl; have a10 := hX.cell 10 (v := .slice A n c) rfl
  go_enter Try.func97, Try.ntmps97
  go_wp2
  go_ret
  exact ⟨(show Ending.returned (.int .i64 (-1)) = .returned (.int .i64 v) from by rw [hv.out]), bb⟩
theorem Blk.six {w : World} {g t : Nat} {u0 u1 u2 u3 u4 u5 : Value} (h : Blk w g #[u0, u1, u2, u3, u4, u5] t) : w.cell? ⟨g, 0, none⟩ = some u0 ∧ w.cell? ⟨g, 1, none⟩ = some u1 ∧ w.cell? ⟨g, 2, none⟩ = some u2 ∧ w.cell? ⟨g, 3, none⟩ = some u3 ∧ w.cell? ⟨g, 4, none⟩ = some u4 ∧ w.cell? ⟨g, 5, none⟩ = some u5 := ⟨h.cell 0 rfl, h.cell 1 rfl, h.cell 2 rfl, h.cell 3 rfl, h.cell 4 rfl, h.cell 5 rfl⟩
theorem Blk.a410 {w : World} {g t : Nat} {u0 u1 u2 u3 u4 u5 u6 u7 u8 u9 u10 : Value} (h : Blk w g #[u0, u1, u2, u3, u4, u5, u6, u7, u8, u9, u10] t) : w.cell? ⟨g, 4, none⟩ = some u4 ∧ w.cell? ⟨g, 10, none⟩ = some u10 := ⟨h.cell 4 rfl, h.cell 10 rfl⟩
theorem args_long {d n : Int} {Z : List (List Int)} {k r t c l : Int} {qa : List ExprR} (h : 4 < qa.length) (hz : ∀ (i : Nat) (z : List Int), Z[i]? = some z → z.length ≤ 4) (h2 : 1 ≤ k ∧ k ≤ 7) : mayO d n Z ⟨k, r, t, c, l, qa⟩ = false := by
  have hr : (Z.getD t.toNat []).length ≤ 4 := by
    cases hh : Z[t.toNat]? with
    | none => simp [List.getD, hh]
    | some z => simp [List.getD, hh]; exact hz _ _ hh
  have : argsK (Z.getD t.toNat []).length k qa.length = false := by
    generalize (Z.getD t.toNat []).length = zl at *
    unfold argsK
    split
    · simp; omega
    · split
      · simp; omega
      · split
        · simp; omega
        · simp; omega
  simp only [mayO]
  rw [this]
  simp
theorem inR_lit1 : inR 1 1 7 = true := by decide
theorem inR_lit2 : inR 2 1 7 = true := by decide
theorem inR_lit3 : inR 3 1 7 = true := by decide
theorem inR_lit4 : inR 4 1 7 = true := by decide
theorem inR_lit5 : inR 5 1 7 = true := by decide
theorem inR_lit6 : inR 6 1 7 = true := by decide
theorem inR_lit7 : inR 7 1 7 = true := by decide
set_option maxHeartbeats 32000000 in
set_option maxRecDepth 100000 in
theorem ref_op1 (x : Cfg) (A : Option Addr) (n c : Nat) (Z : List (List Int)) (qr qt qc ql : Int) (qa : List ExprR) (R : Bool) (B : Option Addr) (m kk : Nat) (w : World) (h : RG w A n c Z) (h2 : RE w B m kk qa) (n1 : 1 ≤ n) (n4 : n ≤ 4) (hrows : ∀ (i : Nat) (z : List Int), Z[i]? = some z → 1 ≤ z.length ∧ z.length ≤ 4) (hres : Hid (mayO x.d n Z ⟨1, qr, qt, qc, ql, qa⟩ = R)) :
  Calls Try.prog 73 #[.agg #[.int .i64 x.h, .int .i64 x.z, .int .i64 x.b, .int .i64 x.r, .int .i64 x.d, .int .i64 x.e, .int .i64 x.s, .int .i64 x.p, .int .i64 x.q, .int .i64 x.t, .slice A n c], .agg #[.int .i64 1, .int .i64 qr, .int .i64 qt, .int .i64 qc, .int .i64 ql, .slice B m kk]] w fun e w' => e = .returned (.bool R) ∧ Below w.heap.size w w' := by
  have hZn := h.len
  have hml := h2.len
  have hmm : m ≤ maxLen := Nat.le_trans h2.cap h2.max
  unfold maxLen at hmm
  have hrows := Lib.hid hrows
  have hX0 := (Blk.new w #[.int .i64 x.h, .int .i64 x.z, .int .i64 x.b, .int .i64 x.r, .int .i64 x.d, .int .i64 x.e, .int .i64 x.s, .int .i64 x.p, .int .i64 x.q, .int .i64 x.t, .slice A n c] 24).alloc (.cells #[.int .i64 1, .int .i64 qr, .int .i64 qt, .int .i64 qc, .int .i64 ql, .slice B m kk] 51)
  have hQ0 := Blk.new2 w (.cells #[.int .i64 x.h, .int .i64 x.z, .int .i64 x.b, .int .i64 x.r, .int .i64 x.d, .int .i64 x.e, .int .i64 x.s, .int .i64 x.p, .int .i64 x.q, .int .i64 x.t, .slice A n c] 24) #[.int .i64 1, .int .i64 qr, .int .i64 qt, .int .i64 qc, .int .i64 ql, .slice B m kk] 51
  have bb : Below w.heap.size w ((w.alloc (.cells #[.int .i64 x.h, .int .i64 x.z, .int .i64 x.b, .int .i64 x.r, .int .i64 x.d, .int .i64 x.e, .int .i64 x.s, .int .i64 x.p, .int .i64 x.q, .int .i64 x.t, .slice A n c] 24)).alloc (.cells #[.int .i64 1, .int .i64 qr, .int .i64 qt, .int .i64 qc, .int .i64 ql, .slice B m kk] 51)) := (by repeat (first | exact Below.refl _ _ | assumption | apply below_drewN' | apply Below.drew | refine Below.alloc ?_ (by first | omega | (simp; done) | (simp; omega)) _ | refine Below.setCell ?_ (by first | omega | (simp; done) | (simp; omega)) _))
  by_cases m5 : 4 < m
  · have hf := Lib.hid (args_long (d := x.d) (n := n) (Z := Z) (r := qr) (t := qt) (c := qc) (l := ql) (qa := qa) (k := 1) (by omega) (fun i z hz => (hrows.out i z hz).2) (by omega))
    have m5' : (4 : Int) < (m : Int) := by omega
    have hX := hX0
    have hQ := hQ0
    have o0 := hQ.cell 0 (v := .int .i64 1) rfl; have o1 := hQ.cell 1 (v := .int .i64 qr) rfl; have o2 := hQ.cell 2 (v := .int .i64 qt) rfl; have o3 := hQ.cell 3 (v := .int .i64 qc) rfl; have o4 := hQ.cell 4 (v := .int .i64 ql) rfl; have o5 := hQ.cell 5 (v := .slice B m kk) rfl; have a4 := hX.cell 4 (v := .int .i64 x.d) rfl; have a10 := hX.cell 10 (v := .slice A n c) rfl
    go_enter Try.func73, Try.ntmps73
    go_wp2
    go_ret
    exact ⟨(show Ending.returned (.bool false) = .returned (.bool R) from by rewrite [← hres.out, hf.out]; rfl), bb⟩
  have m5' : ¬ (4 : Int) < (m : Int) := by omega
  have m4 : (m : Int) ≤ 4 := by omega
  have hX := hX0
  have hQ := hQ0
  have o0 := hQ.cell 0 (v := .int .i64 1) rfl; have o1 := hQ.cell 1 (v := .int .i64 qr) rfl; have o2 := hQ.cell 2 (v := .int .i64 qt) rfl; have o3 := hQ.cell 3 (v := .int .i64 qc) rfl; have o4 := hQ.cell 4 (v := .int .i64 ql) rfl; have o5 := hQ.cell 5 (v := .slice B m kk) rfl; have a4 := hX.cell 4 (v := .int .i64 x.d) rfl; have a10 := hX.cell 10 (v := .slice A n c) rfl
  go_enter Try.func73, Try.ntmps73
  go_wp2
  clear o0 o1 o2 o3 o4 o5 a4 a10 hX hQ
  generalize (w.alloc (.cells #[.int .i64 x.h, .int .i64 x.z, .int .i64 x.b, .int .i64 x.r, .int .i64 x.d, .int .i64 x.e, .int .i64 x.s, .int .i64 x.p, .int .i64 x.q, .int .i64 x.t, .slice A n c] 24)).alloc (.cells #[.int .i64 1, .int .i64 qr, .int .i64 qt, .int .i64 qc, .int .i64 ql, .slice B m kk] 51) = W1 at *
  go_loopw [5] (fun i wr => ∃ k : Nat, k ≤ m ∧ i = .int .i64 k ∧ Blk wr w.heap.size #[.int .i64 x.h, .int .i64 x.z, .int .i64 x.b, .int .i64 x.r, .int .i64 x.d, .int .i64 x.e, .int .i64 x.s, .int .i64 x.p, .int .i64 x.q, .int .i64 x.t, .slice A n c] 24 ∧ Blk wr (w.heap.size + 1) #[.int .i64 1, .int .i64 qr, .int .i64 qt, .int .i64 qc, .int .i64 ql, .slice B m kk] 51 ∧ Below w.heap.size w wr ∧ Hid (∀ (i : Nat) (e : ExprR), i < k → qa[i]? = some e → mayE e = true)) (fun i _ => m - (intOf i).toNat)
  case atStart => exact ⟨0, by omega, rfl, hX0, hQ0, bb, Lib.hid (fun i e hi => absurd hi (by omega))⟩
  case round =>
    obtain ⟨k, hk, rfl, hX, hQ, bl, hall⟩ := hrel
    clear hX0 hQ0 bb
    by_cases hlt : k < m
    · have o0 := hQ.cell 0 (v := .int .i64 1) rfl; have o1 := hQ.cell 1 (v := .int .i64 qr) rfl; have o2 := hQ.cell 2 (v := .int .i64 qt) rfl; have o3 := hQ.cell 3 (v := .int .i64 qc) rfl; have o4 := hQ.cell 4 (v := .int .i64 ql) rfl; have o5 := hQ.cell 5 (v := .slice B m kk) rfl; have a4 := hX.cell 4 (v := .int .i64 x.d) rfl; have a10 := hX.cell 10 (v := .slice A n c) rfl
      obtain ⟨e, he⟩ : ∃ e, qa[k]? = some e := ⟨_, List.getElem?_eq_getElem (by omega)⟩
      obtain ⟨g, o, rfl, hc⟩ := (h2.below bl).at_ (by omega)
      have hcs := hc k e he
      obtain ⟨b, hb⟩ : ∃ b, mayE e = b := ⟨_, rfl⟩
      have HF := Lib.hid (fun w => ref_expr e b w hb)
      have q0 : wr.cell? ⟨g, o + k * 5, none⟩ = some (.int .i64 e.k) := hcs 0 (.int .i64 e.k) rfl
      have q1 := hcs 1 (.int .i64 e.n) rfl
      have q2 := hcs 2 (.string e.s) rfl
      have q3 := hcs 3 (.int .i64 e.r) rfl
      have q4 := hcs 4 (.int .i64 e.c) rfl
      have hbh := Lib.hid hb
      have heh := Lib.hid he
      clear hcs hc hb he
      go_wp2_with fail
      refine (HF.out _).mono ?_
      rintro y w2 ⟨rfl, e2⟩
      replace bl := bnext bl e2
      replace hX := hX.below e2 hX.lt
      replace hQ := hQ.below e2 hQ.lt
      clear e2 o0 o1 o2 o3 o4 o5 a4 a10 q0 q1 q2 q3 q4
      cases b with
      | true =>
        go_wp2
        go_roundw
        case rel =>
          refine ⟨k + 1, by omega, by go_num, hX, hQ, bl, Lib.hid fun i y hi hy => ?_⟩
          by_cases ei : i = k
          · subst ei; rw [heh.out] at hy; injection hy with hy; rw [← hy]; exact hbh.out
          · exact hall.out i y (by omega) hy
        case measure => simp [intOf]; omega
      | false =>
        have hno := Lib.hid (all_no heh.out hbh.out)
        go_wp2
        go_ret
        exact ⟨(show Ending.returned (.bool false) = .returned (.bool R) from by rewrite [← hres.out]; simp [mayO, hno.out]), bl⟩
    · obtain rfl : m = k := by omega
      have hyes := Lib.hid (all_yes (E := qa) (fun i e hi he => hall.out i e (by omega) he))
      clear hall m5
      rcases (show qr < 0 ∨ (¬ qr < 0 ∧ 4 ≤ qr) ∨ (¬ qr < 0 ∧ ¬ 4 ≤ qr) by omega) with r1 | ⟨r1, r2⟩ | ⟨r1, r2⟩
      · skip
        have ff : inR qr 0 (regsK 1) = false := by simp [inR, regsK, readK]; omega
        replace ff := Lib.hid ff
        have hf := Lib.hid (show mayO x.d n Z ⟨1, qr, qt, qc, ql, qa⟩ = false from by simp [mayO, ff.out])
        have o0 := hQ.cell 0 (v := .int .i64 1) rfl; have o1 := hQ.cell 1 (v := .int .i64 qr) rfl; have o2 := hQ.cell 2 (v := .int .i64 qt) rfl; have o3 := hQ.cell 3 (v := .int .i64 qc) rfl; have o4 := hQ.cell 4 (v := .int .i64 ql) rfl; have o5 := hQ.cell 5 (v := .slice B m kk) rfl; have a4 := hX.cell 4 (v := .int .i64 x.d) rfl; have a10 := hX.cell 10 (v := .slice A n c) rfl
        go_wp2
        go_ret
        exact ⟨(show Ending.returned (.bool false) = .returned (.bool R) from by rewrite [← hres.out, hf.out]; rfl), bl⟩
      · skip
        have ff : inR qr 0 (regsK 1) = false := by simp [inR, regsK, readK]; omega
        replace ff := Lib.hid ff
        have hf := Lib.hid (show mayO x.d n Z ⟨1, qr, qt, qc, ql, qa⟩ = false from by simp [mayO, ff.out])
        have o0 := hQ.cell 0 (v := .int .i64 1) rfl; have o1 := hQ.cell 1 (v := .int .i64 qr) rfl; have o2 := hQ.cell 2 (v := .int .i64 qt) rfl; have o3 := hQ.cell 3 (v := .int .i64 qc) rfl; have o4 := hQ.cell 4 (v := .int .i64 ql) rfl; have o5 := hQ.cell 5 (v := .slice B m kk) rfl; have a4 := hX.cell 4 (v := .int .i64 x.d) rfl; have a10 := hX.cell 10 (v := .slice A n c) rfl
        go_wp2
        go_ret
        exact ⟨(show Ending.returned (.bool false) = .returned (.bool R) from by rewrite [← hres.out, hf.out]; rfl), bl⟩
      have hr := Lib.hid (show inR qr 0 (regsK 1) = true from by simp [inR, regsK, readK]; omega)
      rcases (show qt < 0 ∨ (¬ qt < 0 ∧ (n : Int) ≤ qt) ∨ (¬ qt < 0 ∧ ¬ (n : Int) ≤ qt) by omega) with t1 | ⟨t1, t2⟩ | ⟨t1, t2⟩
      · skip
        have ff : inR qt 0 (lastK n 1) = false := by simp [inR, lastK]; omega
        replace ff := Lib.hid ff
        have hf := Lib.hid (show mayO x.d n Z ⟨1, qr, qt, qc, ql, qa⟩ = false from by simp [mayO, ff.out])
        have o0 := hQ.cell 0 (v := .int .i64 1) rfl; have o1 := hQ.cell 1 (v := .int .i64 qr) rfl; have o2 := hQ.cell 2 (v := .int .i64 qt) rfl; have o3 := hQ.cell 3 (v := .int .i64 qc) rfl; have o4 := hQ.cell 4 (v := .int .i64 ql) rfl; have o5 := hQ.cell 5 (v := .slice B m kk) rfl; have a4 := hX.cell 4 (v := .int .i64 x.d) rfl; have a10 := hX.cell 10 (v := .slice A n c) rfl
        go_wp2
        go_ret
        exact ⟨(show Ending.returned (.bool false) = .returned (.bool R) from by rewrite [← hres.out, hf.out]; rfl), bl⟩
      · skip
        have ff : inR qt 0 (lastK n 1) = false := by simp [inR, lastK]; omega
        replace ff := Lib.hid ff
        have hf := Lib.hid (show mayO x.d n Z ⟨1, qr, qt, qc, ql, qa⟩ = false from by simp [mayO, ff.out])
        have o0 := hQ.cell 0 (v := .int .i64 1) rfl; have o1 := hQ.cell 1 (v := .int .i64 qr) rfl; have o2 := hQ.cell 2 (v := .int .i64 qt) rfl; have o3 := hQ.cell 3 (v := .int .i64 qc) rfl; have o4 := hQ.cell 4 (v := .int .i64 ql) rfl; have o5 := hQ.cell 5 (v := .slice B m kk) rfl; have a4 := hX.cell 4 (v := .int .i64 x.d) rfl; have a10 := hX.cell 10 (v := .slice A n c) rfl
        go_wp2
        go_ret
        exact ⟨(show Ending.returned (.bool false) = .returned (.bool R) from by rewrite [← hres.out, hf.out]; rfl), bl⟩
      have ht := Lib.hid (show inR qt 0 (lastK n 1) = true from by simp [inR, lastK]; omega)
      obtain ⟨ti, rfl⟩ := Int.eq_ofNat_of_zero_le (show 0 ≤ qt by omega)
      have htn : ti < n := by omega
      obtain ⟨z, hz⟩ : ∃ z, Z[ti]? = some z := ⟨_, List.getElem?_eq_getElem (by omega)⟩
      have hzl := hrows.out ti z hz
      have hzd : Z[ti]?.getD [] = z := by rw [hz]; rfl
      replace hzd := Lib.hid hzd
      clear hz
      by_cases c1 : qc = 0
      rotate_left
      · have c2 : (qc != 0) = true := by rw [bne_iff_ne]; exact c1
        have hf := Lib.hid (show mayO x.d n Z ⟨1, qr, (ti : Int), qc, ql, qa⟩ = false from by simp [mayO, colK]; omega)
        have o0 := hQ.cell 0 (v := .int .i64 1) rfl; have o1 := hQ.cell 1 (v := .int .i64 qr) rfl; have o2 := hQ.cell 2 (v := .int .i64 (ti : Int)) rfl; have o3 := hQ.cell 3 (v := .int .i64 qc) rfl; have o4 := hQ.cell 4 (v := .int .i64 ql) rfl; have o5 := hQ.cell 5 (v := .slice B m kk) rfl; have a4 := hX.cell 4 (v := .int .i64 x.d) rfl; have a10 := hX.cell 10 (v := .slice A n c) rfl
        go_wp2
        go_ret
        exact ⟨(show Ending.returned (.bool false) = .returned (.bool R) from by rewrite [← hres.out, hf.out]; rfl), bl⟩
      subst c1
      by_cases l1 : ql = 0
      rotate_left
      · have l2 : (ql != 0) = true := by rw [bne_iff_ne]; exact l1
        have ff : limitK x.d 1 ql = false := by simp [limitK]; omega
        replace ff := Lib.hid ff
        have hf := Lib.hid (show mayO x.d n Z ⟨1, qr, (ti : Int), 0, ql, qa⟩ = false from by simp [mayO, ff.out])
        have o0 := hQ.cell 0 (v := .int .i64 1) rfl; have o1 := hQ.cell 1 (v := .int .i64 qr) rfl; have o2 := hQ.cell 2 (v := .int .i64 (ti : Int)) rfl; have o3 := hQ.cell 3 (v := .int .i64 0) rfl; have o4 := hQ.cell 4 (v := .int .i64 ql) rfl; have o5 := hQ.cell 5 (v := .slice B m kk) rfl; have a4 := hX.cell 4 (v := .int .i64 x.d) rfl; have a10 := hX.cell 10 (v := .slice A n c) rfl
        go_wp2
        go_ret
        exact ⟨(show Ending.returned (.bool false) = .returned (.bool R) from by rewrite [← hres.out, hf.out]; rfl), bl⟩
      subst l1
      have hl := Lib.hid (show limitK x.d 1 0 = true from by simp [limitK])
      have hcol := Lib.hid (show colK z 1 0 = true from by simp [colK])
      have HA := Lib.hid (fun w h => ref_args x A n c Z 1 qr (ti : Int) 0 0 B m kk (1) w h (by omega) (by simp [argN]))
      by_cases me : (m : Int) = 1
      · have me2 : (1 == (m : Int)) = true := by rw [beq_iff_eq]; omega
        replace me := Lib.hid me
        have me3 := Lib.hid (show (qa.length : Int) = 1 by have := me.out; omega)
        have fin := Lib.hid (show mayO x.d n Z ⟨1, qr, (ti : Int), 0, 0, qa⟩ = true by simp [mayO, inR_lit1, hr.out, ht.out, hl.out, hzd.out, hcol.out, hyes.out, argsK, me3.out]; try omega)
        have o0 := hQ.cell 0 (v := .int .i64 1) rfl; have o1 := hQ.cell 1 (v := .int .i64 qr) rfl; have o2 := hQ.cell 2 (v := .int .i64 (ti : Int)) rfl; have o3 := hQ.cell 3 (v := .int .i64 0) rfl; have o4 := hQ.cell 4 (v := .int .i64 0) rfl; have o5 := hQ.cell 5 (v := .slice B m kk) rfl; have a4 := hX.cell 4 (v := .int .i64 x.d) rfl; have a10 := hX.cell 10 (v := .slice A n c) rfl; have a0 := hX.cell 0 (v := .int .i64 x.h) rfl; have a1 := hX.cell 1 (v := .int .i64 x.z) rfl; have a2 := hX.cell 2 (v := .int .i64 x.b) rfl; have a3 := hX.cell 3 (v := .int .i64 x.r) rfl; have a5 := hX.cell 5 (v := .int .i64 x.e) rfl; have a6 := hX.cell 6 (v := .int .i64 x.s) rfl; have a7 := hX.cell 7 (v := .int .i64 x.p) rfl; have a8 := hX.cell 8 (v := .int .i64 x.q) rfl; have a9 := hX.cell 9 (v := .int .i64 x.t) rfl
        go_wp2_with fail
        refine (HA.out _ (h.below bl)).mono ?_
        rintro e w9 ⟨rfl, e2⟩
        replace hX := hX.below e2 hX.lt; replace hQ := hQ.below e2 hQ.lt; replace bl := bnext bl e2; clear e2 o0 o1 o2 o3 o4 o5 a0 a1 a2 a3 a4 a5 a6 a7 a8 a9 a10
        have o0 := hQ.cell 0 (v := .int .i64 1) rfl; have o1 := hQ.cell 1 (v := .int .i64 qr) rfl; have o2 := hQ.cell 2 (v := .int .i64 (ti : Int)) rfl; have o3 := hQ.cell 3 (v := .int .i64 0) rfl; have o4 := hQ.cell 4 (v := .int .i64 0) rfl; have o5 := hQ.cell 5 (v := .slice B m kk) rfl; have a4 := hX.cell 4 (v := .int .i64 x.d) rfl; have a10 := hX.cell 10 (v := .slice A n c) rfl
        go_wp2
        go_ret
        exact ⟨(show Ending.returned (.bool true) = .returned (.bool R) from by rewrite [← hres.out, fin.out]; rfl), bl⟩
      · have me2 : (1 == (m : Int)) = false := by rw [beq_eq_false_iff_ne]; omega
        replace me := Lib.hid me
        have me3 := Lib.hid (show ¬ (qa.length : Int) = 1 by have := me.out; omega)
        have fin := Lib.hid (show mayO x.d n Z ⟨1, qr, (ti : Int), 0, 0, qa⟩ = false by simp [mayO, inR_lit1, hr.out, ht.out, hl.out, hzd.out, hcol.out, hyes.out, argsK, me3.out]; try omega)
        have o0 := hQ.cell 0 (v := .int .i64 1) rfl; have o1 := hQ.cell 1 (v := .int .i64 qr) rfl; have o2 := hQ.cell 2 (v := .int .i64 (ti : Int)) rfl; have o3 := hQ.cell 3 (v := .int .i64 0) rfl; have o4 := hQ.cell 4 (v := .int .i64 0) rfl; have o5 := hQ.cell 5 (v := .slice B m kk) rfl; have a4 := hX.cell 4 (v := .int .i64 x.d) rfl; have a10 := hX.cell 10 (v := .slice A n c) rfl; have a0 := hX.cell 0 (v := .int .i64 x.h) rfl; have a1 := hX.cell 1 (v := .int .i64 x.z) rfl; have a2 := hX.cell 2 (v := .int .i64 x.b) rfl; have a3 := hX.cell 3 (v := .int .i64 x.r) rfl; have a5 := hX.cell 5 (v := .int .i64 x.e) rfl; have a6 := hX.cell 6 (v := .int .i64 x.s) rfl; have a7 := hX.cell 7 (v := .int .i64 x.p) rfl; have a8 := hX.cell 8 (v := .int .i64 x.q) rfl; have a9 := hX.cell 9 (v := .int .i64 x.t) rfl
        go_wp2_with fail
        refine (HA.out _ (h.below bl)).mono ?_
        rintro e w9 ⟨rfl, e2⟩
        replace hX := hX.below e2 hX.lt; replace hQ := hQ.below e2 hQ.lt; replace bl := bnext bl e2; clear e2 o0 o1 o2 o3 o4 o5 a0 a1 a2 a3 a4 a5 a6 a7 a8 a9 a10
        have o0 := hQ.cell 0 (v := .int .i64 1) rfl; have o1 := hQ.cell 1 (v := .int .i64 qr) rfl; have o2 := hQ.cell 2 (v := .int .i64 (ti : Int)) rfl; have o3 := hQ.cell 3 (v := .int .i64 0) rfl; have o4 := hQ.cell 4 (v := .int .i64 0) rfl; have o5 := hQ.cell 5 (v := .slice B m kk) rfl; have a4 := hX.cell 4 (v := .int .i64 x.d) rfl; have a10 := hX.cell 10 (v := .slice A n c) rfl
        go_wp2
        go_ret
        exact ⟨(show Ending.returned (.bool false) = .returned (.bool R) from by rewrite [← hres.out, fin.out]; rfl), bl⟩
set_option maxHeartbeats 32000000 in
set_option maxRecDepth 100000 in
theorem ref_op2 (x : Cfg) (A : Option Addr) (n c : Nat) (Z : List (List Int)) (qr qt qc ql : Int) (qa : List ExprR) (R : Bool) (B : Option Addr) (m kk : Nat) (w : World) (h : RG w A n c Z) (h2 : RE w B m kk qa) (n1 : 1 ≤ n) (n4 : n ≤ 4) (hrows : ∀ (i : Nat) (z : List Int), Z[i]? = some z → 1 ≤ z.length ∧ z.length ≤ 4) (hres : Hid (mayO x.d n Z ⟨2, qr, qt, qc, ql, qa⟩ = R)) :
  Calls Try.prog 73 #[.agg #[.int .i64 x.h, .int .i64 x.z, .int .i64 x.b, .int .i64 x.r, .int .i64 x.d, .int .i64 x.e, .int .i64 x.s, .int .i64 x.p, .int .i64 x.q, .int .i64 x.t, .slice A n c], .agg #[.int .i64 2, .int .i64 qr, .int .i64 qt, .int .i64 qc, .int .i64 ql, .slice B m kk]] w fun e w' => e = .returned (.bool R) ∧ Below w.heap.size w w' := by
  have hZn := h.len
  have hml := h2.len
  have hmm : m ≤ maxLen := Nat.le_trans h2.cap h2.max
  unfold maxLen at hmm
  have hrows := Lib.hid hrows
  have hX0 := (Blk.new w #[.int .i64 x.h, .int .i64 x.z, .int .i64 x.b, .int .i64 x.r, .int .i64 x.d, .int .i64 x.e, .int .i64 x.s, .int .i64 x.p, .int .i64 x.q, .int .i64 x.t, .slice A n c] 24).alloc (.cells #[.int .i64 2, .int .i64 qr, .int .i64 qt, .int .i64 qc, .int .i64 ql, .slice B m kk] 51)
  have hQ0 := Blk.new2 w (.cells #[.int .i64 x.h, .int .i64 x.z, .int .i64 x.b, .int .i64 x.r, .int .i64 x.d, .int .i64 x.e, .int .i64 x.s, .int .i64 x.p, .int .i64 x.q, .int .i64 x.t, .slice A n c] 24) #[.int .i64 2, .int .i64 qr, .int .i64 qt, .int .i64 qc, .int .i64 ql, .slice B m kk] 51
  have bb : Below w.heap.size w ((w.alloc (.cells #[.int .i64 x.h, .int .i64 x.z, .int .i64 x.b, .int .i64 x.r, .int .i64 x.d, .int .i64 x.e, .int .i64 x.s, .int .i64 x.p, .int .i64 x.q, .int .i64 x.t, .slice A n c] 24)).alloc (.cells #[.int .i64 2, .int .i64 qr, .int .i64 qt, .int .i64 qc, .int .i64 ql, .slice B m kk] 51)) := (by repeat (first | exact Below.refl _ _ | assumption | apply below_drewN' | apply Below.drew | refine Below.alloc ?_ (by first | omega | (simp; done) | (simp; omega)) _ | refine Below.setCell ?_ (by first | omega | (simp; done) | (simp; omega)) _))
  by_cases m5 : 4 < m
  · have hf := Lib.hid (args_long (d := x.d) (n := n) (Z := Z) (r := qr) (t := qt) (c := qc) (l := ql) (qa := qa) (k := 2) (by omega) (fun i z hz => (hrows.out i z hz).2) (by omega))
    have m5' : (4 : Int) < (m : Int) := by omega
    have hX := hX0
    have hQ := hQ0
    have o0 := hQ.cell 0 (v := .int .i64 2) rfl; have o1 := hQ.cell 1 (v := .int .i64 qr) rfl; have o2 := hQ.cell 2 (v := .int .i64 qt) rfl; have o3 := hQ.cell 3 (v := .int .i64 qc) rfl; have o4 := hQ.cell 4 (v := .int .i64 ql) rfl; have o5 := hQ.cell 5 (v := .slice B m kk) rfl; have a4 := hX.cell 4 (v := .int .i64 x.d) rfl; have a10 := hX.cell 10 (v := .slice A n c) rfl
    go_enter Try.func73, Try.ntmps73
    go_wp2
    go_ret
    exact ⟨(show Ending.returned (.bool false) = .returned (.bool R) from by rewrite [← hres.out, hf.out]; rfl), bb⟩
  have m5' : ¬ (4 : Int) < (m : Int) := by omega
  have m4 : (m : Int) ≤ 4 := by omega
  have hX := hX0
  have hQ := hQ0
  have o0 := hQ.cell 0 (v := .int .i64 2) rfl; have o1 := hQ.cell 1 (v := .int .i64 qr) rfl; have o2 := hQ.cell 2 (v := .int .i64 qt) rfl; have o3 := hQ.cell 3 (v := .int .i64 qc) rfl; have o4 := hQ.cell 4 (v := .int .i64 ql) rfl; have o5 := hQ.cell 5 (v := .slice B m kk) rfl; have a4 := hX.cell 4 (v := .int .i64 x.d) rfl; have a10 := hX.cell 10 (v := .slice A n c) rfl
  go_enter Try.func73, Try.ntmps73
  go_wp2
  clear o0 o1 o2 o3 o4 o5 a4 a10 hX hQ
  generalize (w.alloc (.cells #[.int .i64 x.h, .int .i64 x.z, .int .i64 x.b, .int .i64 x.r, .int .i64 x.d, .int .i64 x.e, .int .i64 x.s, .int .i64 x.p, .int .i64 x.q, .int .i64 x.t, .slice A n c] 24)).alloc (.cells #[.int .i64 2, .int .i64 qr, .int .i64 qt, .int .i64 qc, .int .i64 ql, .slice B m kk] 51) = W1 at *
  go_loopw [5] (fun i wr => ∃ k : Nat, k ≤ m ∧ i = .int .i64 k ∧ Blk wr w.heap.size #[.int .i64 x.h, .int .i64 x.z, .int .i64 x.b, .int .i64 x.r, .int .i64 x.d, .int .i64 x.e, .int .i64 x.s, .int .i64 x.p, .int .i64 x.q, .int .i64 x.t, .slice A n c] 24 ∧ Blk wr (w.heap.size + 1) #[.int .i64 2, .int .i64 qr, .int .i64 qt, .int .i64 qc, .int .i64 ql, .slice B m kk] 51 ∧ Below w.heap.size w wr ∧ Hid (∀ (i : Nat) (e : ExprR), i < k → qa[i]? = some e → mayE e = true)) (fun i _ => m - (intOf i).toNat)
  case atStart => exact ⟨0, by omega, rfl, hX0, hQ0, bb, Lib.hid (fun i e hi => absurd hi (by omega))⟩
  case round =>
    obtain ⟨k, hk, rfl, hX, hQ, bl, hall⟩ := hrel
    clear hX0 hQ0 bb
    by_cases hlt : k < m
    · have o0 := hQ.cell 0 (v := .int .i64 2) rfl; have o1 := hQ.cell 1 (v := .int .i64 qr) rfl; have o2 := hQ.cell 2 (v := .int .i64 qt) rfl; have o3 := hQ.cell 3 (v := .int .i64 qc) rfl; have o4 := hQ.cell 4 (v := .int .i64 ql) rfl; have o5 := hQ.cell 5 (v := .slice B m kk) rfl; have a4 := hX.cell 4 (v := .int .i64 x.d) rfl; have a10 := hX.cell 10 (v := .slice A n c) rfl
      obtain ⟨e, he⟩ : ∃ e, qa[k]? = some e := ⟨_, List.getElem?_eq_getElem (by omega)⟩
      obtain ⟨g, o, rfl, hc⟩ := (h2.below bl).at_ (by omega)
      have hcs := hc k e he
      obtain ⟨b, hb⟩ : ∃ b, mayE e = b := ⟨_, rfl⟩
      have HF := Lib.hid (fun w => ref_expr e b w hb)
      have q0 : wr.cell? ⟨g, o + k * 5, none⟩ = some (.int .i64 e.k) := hcs 0 (.int .i64 e.k) rfl
      have q1 := hcs 1 (.int .i64 e.n) rfl
      have q2 := hcs 2 (.string e.s) rfl
      have q3 := hcs 3 (.int .i64 e.r) rfl
      have q4 := hcs 4 (.int .i64 e.c) rfl
      have hbh := Lib.hid hb
      have heh := Lib.hid he
      clear hcs hc hb he
      go_wp2_with fail
      refine (HF.out _).mono ?_
      rintro y w2 ⟨rfl, e2⟩
      replace bl := bnext bl e2
      replace hX := hX.below e2 hX.lt
      replace hQ := hQ.below e2 hQ.lt
      clear e2 o0 o1 o2 o3 o4 o5 a4 a10 q0 q1 q2 q3 q4
      cases b with
      | true =>
        go_wp2
        go_roundw
        case rel =>
          refine ⟨k + 1, by omega, by go_num, hX, hQ, bl, Lib.hid fun i y hi hy => ?_⟩
          by_cases ei : i = k
          · subst ei; rw [heh.out] at hy; injection hy with hy; rw [← hy]; exact hbh.out
          · exact hall.out i y (by omega) hy
        case measure => simp [intOf]; omega
      | false =>
        have hno := Lib.hid (all_no heh.out hbh.out)
        go_wp2
        go_ret
        exact ⟨(show Ending.returned (.bool false) = .returned (.bool R) from by rewrite [← hres.out]; simp [mayO, hno.out]), bl⟩
    · obtain rfl : m = k := by omega
      have hyes := Lib.hid (all_yes (E := qa) (fun i e hi he => hall.out i e (by omega) he))
      clear hall m5
      by_cases r1 : qr = 0
      rotate_left
      · have r2 : (qr != 0) = true := by rw [bne_iff_ne]; exact r1
        have ff : inR qr 0 (regsK 2) = false := by simp [inR, regsK, readK]; omega
        replace ff := Lib.hid ff
        have hf := Lib.hid (show mayO x.d n Z ⟨2, qr, qt, qc, ql, qa⟩ = false from by simp [mayO, ff.out])
        have o0 := hQ.cell 0 (v := .int .i64 2) rfl; have o1 := hQ.cell 1 (v := .int .i64 qr) rfl; have o2 := hQ.cell 2 (v := .int .i64 qt) rfl; have o3 := hQ.cell 3 (v := .int .i64 qc) rfl; have o4 := hQ.cell 4 (v := .int .i64 ql) rfl; have o5 := hQ.cell 5 (v := .slice B m kk) rfl; have a4 := hX.cell 4 (v := .int .i64 x.d) rfl; have a10 := hX.cell 10 (v := .slice A n c) rfl
        go_wp2
        go_ret
        exact ⟨(show Ending.returned (.bool false) = .returned (.bool R) from by rewrite [← hres.out, hf.out]; rfl), bl⟩
      subst r1
      have hr := Lib.hid (show inR 0 0 (regsK 2) = true from by simp [inR, regsK, readK])
      rcases (show qt < 0 ∨ (¬ qt < 0 ∧ (n : Int) ≤ qt) ∨ (¬ qt < 0 ∧ ¬ (n : Int) ≤ qt) by omega) with t1 | ⟨t1, t2⟩ | ⟨t1, t2⟩
      · skip
        have ff : inR qt 0 (lastK n 2) = false := by simp [inR, lastK]; omega
        replace ff := Lib.hid ff
        have hf := Lib.hid (show mayO x.d n Z ⟨2, 0, qt, qc, ql, qa⟩ = false from by simp [mayO, ff.out])
        have o0 := hQ.cell 0 (v := .int .i64 2) rfl; have o1 := hQ.cell 1 (v := .int .i64 0) rfl; have o2 := hQ.cell 2 (v := .int .i64 qt) rfl; have o3 := hQ.cell 3 (v := .int .i64 qc) rfl; have o4 := hQ.cell 4 (v := .int .i64 ql) rfl; have o5 := hQ.cell 5 (v := .slice B m kk) rfl; have a4 := hX.cell 4 (v := .int .i64 x.d) rfl; have a10 := hX.cell 10 (v := .slice A n c) rfl
        go_wp2
        go_ret
        exact ⟨(show Ending.returned (.bool false) = .returned (.bool R) from by rewrite [← hres.out, hf.out]; rfl), bl⟩
      · skip
        have ff : inR qt 0 (lastK n 2) = false := by simp [inR, lastK]; omega
        replace ff := Lib.hid ff
        have hf := Lib.hid (show mayO x.d n Z ⟨2, 0, qt, qc, ql, qa⟩ = false from by simp [mayO, ff.out])
        have o0 := hQ.cell 0 (v := .int .i64 2) rfl; have o1 := hQ.cell 1 (v := .int .i64 0) rfl; have o2 := hQ.cell 2 (v := .int .i64 qt) rfl; have o3 := hQ.cell 3 (v := .int .i64 qc) rfl; have o4 := hQ.cell 4 (v := .int .i64 ql) rfl; have o5 := hQ.cell 5 (v := .slice B m kk) rfl; have a4 := hX.cell 4 (v := .int .i64 x.d) rfl; have a10 := hX.cell 10 (v := .slice A n c) rfl
        go_wp2
        go_ret
        exact ⟨(show Ending.returned (.bool false) = .returned (.bool R) from by rewrite [← hres.out, hf.out]; rfl), bl⟩
      have ht := Lib.hid (show inR qt 0 (lastK n 2) = true from by simp [inR, lastK]; omega)
      obtain ⟨ti, rfl⟩ := Int.eq_ofNat_of_zero_le (show 0 ≤ qt by omega)
      have htn : ti < n := by omega
      obtain ⟨z, hz⟩ : ∃ z, Z[ti]? = some z := ⟨_, List.getElem?_eq_getElem (by omega)⟩
      have hzl := hrows.out ti z hz
      have hzd : Z[ti]?.getD [] = z := by rw [hz]; rfl
      replace hzd := Lib.hid hzd
      clear hz
      by_cases c1 : qc = 0
      rotate_left
      · have c2 : (qc != 0) = true := by rw [bne_iff_ne]; exact c1
        have hf := Lib.hid (show mayO x.d n Z ⟨2, 0, (ti : Int), qc, ql, qa⟩ = false from by simp [mayO, colK]; omega)
        have o0 := hQ.cell 0 (v := .int .i64 2) rfl; have o1 := hQ.cell 1 (v := .int .i64 0) rfl; have o2 := hQ.cell 2 (v := .int .i64 (ti : Int)) rfl; have o3 := hQ.cell 3 (v := .int .i64 qc) rfl; have o4 := hQ.cell 4 (v := .int .i64 ql) rfl; have o5 := hQ.cell 5 (v := .slice B m kk) rfl; have a4 := hX.cell 4 (v := .int .i64 x.d) rfl; have a10 := hX.cell 10 (v := .slice A n c) rfl
        go_wp2
        go_ret
        exact ⟨(show Ending.returned (.bool false) = .returned (.bool R) from by rewrite [← hres.out, hf.out]; rfl), bl⟩
      subst c1
      by_cases l1 : ql = 0
      rotate_left
      · have l2 : (ql != 0) = true := by rw [bne_iff_ne]; exact l1
        have ff : limitK x.d 2 ql = false := by simp [limitK]; omega
        replace ff := Lib.hid ff
        have hf := Lib.hid (show mayO x.d n Z ⟨2, 0, (ti : Int), 0, ql, qa⟩ = false from by simp [mayO, ff.out])
        have o0 := hQ.cell 0 (v := .int .i64 2) rfl; have o1 := hQ.cell 1 (v := .int .i64 0) rfl; have o2 := hQ.cell 2 (v := .int .i64 (ti : Int)) rfl; have o3 := hQ.cell 3 (v := .int .i64 0) rfl; have o4 := hQ.cell 4 (v := .int .i64 ql) rfl; have o5 := hQ.cell 5 (v := .slice B m kk) rfl; have a4 := hX.cell 4 (v := .int .i64 x.d) rfl; have a10 := hX.cell 10 (v := .slice A n c) rfl
        go_wp2
        go_ret
        exact ⟨(show Ending.returned (.bool false) = .returned (.bool R) from by rewrite [← hres.out, hf.out]; rfl), bl⟩
      subst l1
      have hl := Lib.hid (show limitK x.d 2 0 = true from by simp [limitK])
      have hcol := Lib.hid (show colK z 2 0 = true from by simp [colK])
      have HA := Lib.hid (fun w h => ref_args x A n c Z 2 0 (ti : Int) 0 0 B m kk ((z.length : Int)) w h (by omega) (by simp [argN]; rw [hzd.out]))
      by_cases me : (m : Int) = (z.length : Int)
      · have me2 : ((z.length : Int) == (m : Int)) = true := by rw [beq_iff_eq]; omega
        replace me := Lib.hid me
        have me3 := Lib.hid (show (qa.length : Int) = (z.length : Int) by have := me.out; omega)
        have fin := Lib.hid (show mayO x.d n Z ⟨2, 0, (ti : Int), 0, 0, qa⟩ = true by simp [mayO, inR_lit2, hr.out, ht.out, hl.out, hzd.out, hcol.out, hyes.out, argsK, me3.out]; try omega)
        have o0 := hQ.cell 0 (v := .int .i64 2) rfl; have o1 := hQ.cell 1 (v := .int .i64 0) rfl; have o2 := hQ.cell 2 (v := .int .i64 (ti : Int)) rfl; have o3 := hQ.cell 3 (v := .int .i64 0) rfl; have o4 := hQ.cell 4 (v := .int .i64 0) rfl; have o5 := hQ.cell 5 (v := .slice B m kk) rfl; have a4 := hX.cell 4 (v := .int .i64 x.d) rfl; have a10 := hX.cell 10 (v := .slice A n c) rfl; have a0 := hX.cell 0 (v := .int .i64 x.h) rfl; have a1 := hX.cell 1 (v := .int .i64 x.z) rfl; have a2 := hX.cell 2 (v := .int .i64 x.b) rfl; have a3 := hX.cell 3 (v := .int .i64 x.r) rfl; have a5 := hX.cell 5 (v := .int .i64 x.e) rfl; have a6 := hX.cell 6 (v := .int .i64 x.s) rfl; have a7 := hX.cell 7 (v := .int .i64 x.p) rfl; have a8 := hX.cell 8 (v := .int .i64 x.q) rfl; have a9 := hX.cell 9 (v := .int .i64 x.t) rfl
        go_wp2_with fail
        refine (HA.out _ (h.below bl)).mono ?_
        rintro e w9 ⟨rfl, e2⟩
        replace hX := hX.below e2 hX.lt; replace hQ := hQ.below e2 hQ.lt; replace bl := bnext bl e2; clear e2 o0 o1 o2 o3 o4 o5 a0 a1 a2 a3 a4 a5 a6 a7 a8 a9 a10
        have o0 := hQ.cell 0 (v := .int .i64 2) rfl; have o1 := hQ.cell 1 (v := .int .i64 0) rfl; have o2 := hQ.cell 2 (v := .int .i64 (ti : Int)) rfl; have o3 := hQ.cell 3 (v := .int .i64 0) rfl; have o4 := hQ.cell 4 (v := .int .i64 0) rfl; have o5 := hQ.cell 5 (v := .slice B m kk) rfl; have a4 := hX.cell 4 (v := .int .i64 x.d) rfl; have a10 := hX.cell 10 (v := .slice A n c) rfl
        go_wp2
        go_ret
        exact ⟨(show Ending.returned (.bool true) = .returned (.bool R) from by rewrite [← hres.out, fin.out]; rfl), bl⟩
      · have me2 : ((z.length : Int) == (m : Int)) = false := by rw [beq_eq_false_iff_ne]; omega
        replace me := Lib.hid me
        have me3 := Lib.hid (show ¬ (qa.length : Int) = (z.length : Int) by have := me.out; omega)
        have fin := Lib.hid (show mayO x.d n Z ⟨2, 0, (ti : Int), 0, 0, qa⟩ = false by simp [mayO, inR_lit2, hr.out, ht.out, hl.out, hzd.out, hcol.out, hyes.out, argsK, me3.out]; try omega)
        have o0 := hQ.cell 0 (v := .int .i64 2) rfl; have o1 := hQ.cell 1 (v := .int .i64 0) rfl; have o2 := hQ.cell 2 (v := .int .i64 (ti : Int)) rfl; have o3 := hQ.cell 3 (v := .int .i64 0) rfl; have o4 := hQ.cell 4 (v := .int .i64 0) rfl; have o5 := hQ.cell 5 (v := .slice B m kk) rfl; have a4 := hX.cell 4 (v := .int .i64 x.d) rfl; have a10 := hX.cell 10 (v := .slice A n c) rfl; have a0 := hX.cell 0 (v := .int .i64 x.h) rfl; have a1 := hX.cell 1 (v := .int .i64 x.z) rfl; have a2 := hX.cell 2 (v := .int .i64 x.b) rfl; have a3 := hX.cell 3 (v := .int .i64 x.r) rfl; have a5 := hX.cell 5 (v := .int .i64 x.e) rfl; have a6 := hX.cell 6 (v := .int .i64 x.s) rfl; have a7 := hX.cell 7 (v := .int .i64 x.p) rfl; have a8 := hX.cell 8 (v := .int .i64 x.q) rfl; have a9 := hX.cell 9 (v := .int .i64 x.t) rfl
        go_wp2_with fail
        refine (HA.out _ (h.below bl)).mono ?_
        rintro e w9 ⟨rfl, e2⟩
        replace hX := hX.below e2 hX.lt; replace hQ := hQ.below e2 hQ.lt; replace bl := bnext bl e2; clear e2 o0 o1 o2 o3 o4 o5 a0 a1 a2 a3 a4 a5 a6 a7 a8 a9 a10
        have o0 := hQ.cell 0 (v := .int .i64 2) rfl; have o1 := hQ.cell 1 (v := .int .i64 0) rfl; have o2 := hQ.cell 2 (v := .int .i64 (ti : Int)) rfl; have o3 := hQ.cell 3 (v := .int .i64 0) rfl; have o4 := hQ.cell 4 (v := .int .i64 0) rfl; have o5 := hQ.cell 5 (v := .slice B m kk) rfl; have a4 := hX.cell 4 (v := .int .i64 x.d) rfl; have a10 := hX.cell 10 (v := .slice A n c) rfl
        go_wp2
        go_ret
        exact ⟨(show Ending.returned (.bool false) = .returned (.bool R) from by rewrite [← hres.out, fin.out]; rfl), bl⟩
set_option maxHeartbeats 32000000 in
set_option maxRecDepth 100000 in
theorem ref_op3 (x : Cfg) (A : Option Addr) (n c : Nat) (Z : List (List Int)) (qr qt qc ql : Int) (qa : List ExprR) (R : Bool) (B : Option Addr) (m kk : Nat) (w : World) (h : RG w A n c Z) (h2 : RE w B m kk qa) (n1 : 1 ≤ n) (n4 : n ≤ 4) (hrows : ∀ (i : Nat) (z : List Int), Z[i]? = some z → 1 ≤ z.length ∧ z.length ≤ 4) (hres : Hid (mayO x.d n Z ⟨3, qr, qt, qc, ql, qa⟩ = R)) :
  Calls Try.prog 73 #[.agg #[.int .i64 x.h, .int .i64 x.z, .int .i64 x.b, .int .i64 x.r, .int .i64 x.d, .int .i64 x.e, .int .i64 x.s, .int .i64 x.p, .int .i64 x.q, .int .i64 x.t, .slice A n c], .agg #[.int .i64 3, .int .i64 qr, .int .i64 qt, .int .i64 qc, .int .i64 ql, .slice B m kk]] w fun e w' => e = .returned (.bool R) ∧ Below w.heap.size w w' := by
  have hZn := h.len
  have hml := h2.len
  have hmm : m ≤ maxLen := Nat.le_trans h2.cap h2.max
  unfold maxLen at hmm
  have hrows := Lib.hid hrows
  have hX0 := (Blk.new w #[.int .i64 x.h, .int .i64 x.z, .int .i64 x.b, .int .i64 x.r, .int .i64 x.d, .int .i64 x.e, .int .i64 x.s, .int .i64 x.p, .int .i64 x.q, .int .i64 x.t, .slice A n c] 24).alloc (.cells #[.int .i64 3, .int .i64 qr, .int .i64 qt, .int .i64 qc, .int .i64 ql, .slice B m kk] 51)
  have hQ0 := Blk.new2 w (.cells #[.int .i64 x.h, .int .i64 x.z, .int .i64 x.b, .int .i64 x.r, .int .i64 x.d, .int .i64 x.e, .int .i64 x.s, .int .i64 x.p, .int .i64 x.q, .int .i64 x.t, .slice A n c] 24) #[.int .i64 3, .int .i64 qr, .int .i64 qt, .int .i64 qc, .int .i64 ql, .slice B m kk] 51
  have bb : Below w.heap.size w ((w.alloc (.cells #[.int .i64 x.h, .int .i64 x.z, .int .i64 x.b, .int .i64 x.r, .int .i64 x.d, .int .i64 x.e, .int .i64 x.s, .int .i64 x.p, .int .i64 x.q, .int .i64 x.t, .slice A n c] 24)).alloc (.cells #[.int .i64 3, .int .i64 qr, .int .i64 qt, .int .i64 qc, .int .i64 ql, .slice B m kk] 51)) := (by repeat (first | exact Below.refl _ _ | assumption | apply below_drewN' | apply Below.drew | refine Below.alloc ?_ (by first | omega | (simp; done) | (simp; omega)) _ | refine Below.setCell ?_ (by first | omega | (simp; done) | (simp; omega)) _))
  by_cases m5 : 4 < m
  · have hf := Lib.hid (args_long (d := x.d) (n := n) (Z := Z) (r := qr) (t := qt) (c := qc) (l := ql) (qa := qa) (k := 3) (by omega) (fun i z hz => (hrows.out i z hz).2) (by omega))
    have m5' : (4 : Int) < (m : Int) := by omega
    have hX := hX0
    have hQ := hQ0
    have o0 := hQ.cell 0 (v := .int .i64 3) rfl; have o1 := hQ.cell 1 (v := .int .i64 qr) rfl; have o2 := hQ.cell 2 (v := .int .i64 qt) rfl; have o3 := hQ.cell 3 (v := .int .i64 qc) rfl; have o4 := hQ.cell 4 (v := .int .i64 ql) rfl; have o5 := hQ.cell 5 (v := .slice B m kk) rfl; have a4 := hX.cell 4 (v := .int .i64 x.d) rfl; have a10 := hX.cell 10 (v := .slice A n c) rfl
    go_enter Try.func73, Try.ntmps73
    go_wp2
    go_ret
    exact ⟨(show Ending.returned (.bool false) = .returned (.bool R) from by rewrite [← hres.out, hf.out]; rfl), bb⟩
  have m5' : ¬ (4 : Int) < (m : Int) := by omega
  have m4 : (m : Int) ≤ 4 := by omega
  have hX := hX0
  have hQ := hQ0
  have o0 := hQ.cell 0 (v := .int .i64 3) rfl; have o1 := hQ.cell 1 (v := .int .i64 qr) rfl; have o2 := hQ.cell 2 (v := .int .i64 qt) rfl; have o3 := hQ.cell 3 (v := .int .i64 qc) rfl; have o4 := hQ.cell 4 (v := .int .i64 ql) rfl; have o5 := hQ.cell 5 (v := .slice B m kk) rfl; have a4 := hX.cell 4 (v := .int .i64 x.d) rfl; have a10 := hX.cell 10 (v := .slice A n c) rfl
  go_enter Try.func73, Try.ntmps73
  go_wp2
  clear o0 o1 o2 o3 o4 o5 a4 a10 hX hQ
  generalize (w.alloc (.cells #[.int .i64 x.h, .int .i64 x.z, .int .i64 x.b, .int .i64 x.r, .int .i64 x.d, .int .i64 x.e, .int .i64 x.s, .int .i64 x.p, .int .i64 x.q, .int .i64 x.t, .slice A n c] 24)).alloc (.cells #[.int .i64 3, .int .i64 qr, .int .i64 qt, .int .i64 qc, .int .i64 ql, .slice B m kk] 51) = W1 at *
  go_loopw [5] (fun i wr => ∃ k : Nat, k ≤ m ∧ i = .int .i64 k ∧ Blk wr w.heap.size #[.int .i64 x.h, .int .i64 x.z, .int .i64 x.b, .int .i64 x.r, .int .i64 x.d, .int .i64 x.e, .int .i64 x.s, .int .i64 x.p, .int .i64 x.q, .int .i64 x.t, .slice A n c] 24 ∧ Blk wr (w.heap.size + 1) #[.int .i64 3, .int .i64 qr, .int .i64 qt, .int .i64 qc, .int .i64 ql, .slice B m kk] 51 ∧ Below w.heap.size w wr ∧ Hid (∀ (i : Nat) (e : ExprR), i < k → qa[i]? = some e → mayE e = true)) (fun i _ => m - (intOf i).toNat)
  case atStart => exact ⟨0, by omega, rfl, hX0, hQ0, bb, Lib.hid (fun i e hi => absurd hi (by omega))⟩
  case round =>
    obtain ⟨k, hk, rfl, hX, hQ, bl, hall⟩ := hrel
    clear hX0 hQ0 bb
    by_cases hlt : k < m
    · have o0 := hQ.cell 0 (v := .int .i64 3) rfl; have o1 := hQ.cell 1 (v := .int .i64 qr) rfl; have o2 := hQ.cell 2 (v := .int .i64 qt) rfl; have o3 := hQ.cell 3 (v := .int .i64 qc) rfl; have o4 := hQ.cell 4 (v := .int .i64 ql) rfl; have o5 := hQ.cell 5 (v := .slice B m kk) rfl; have a4 := hX.cell 4 (v := .int .i64 x.d) rfl; have a10 := hX.cell 10 (v := .slice A n c) rfl
      obtain ⟨e, he⟩ : ∃ e, qa[k]? = some e := ⟨_, List.getElem?_eq_getElem (by omega)⟩
      obtain ⟨g, o, rfl, hc⟩ := (h2.below bl).at_ (by omega)
      have hcs := hc k e he
      obtain ⟨b, hb⟩ : ∃ b, mayE e = b := ⟨_, rfl⟩
      have HF := Lib.hid (fun w => ref_expr e b w hb)
      have q0 : wr.cell? ⟨g, o + k * 5, none⟩ = some (.int .i64 e.k) := hcs 0 (.int .i64 e.k) rfl
      have q1 := hcs 1 (.int .i64 e.n) rfl
      have q2 := hcs 2 (.string e.s) rfl
      have q3 := hcs 3 (.int .i64 e.r) rfl
      have q4 := hcs 4 (.int .i64 e.c) rfl
      have hbh := Lib.hid hb
      have heh := Lib.hid he
      clear hcs hc hb he
      go_wp2_with fail
      refine (HF.out _).mono ?_
      rintro y w2 ⟨rfl, e2⟩
      replace bl := bnext bl e2
      replace hX := hX.below e2 hX.lt
      replace hQ := hQ.below e2 hQ.lt
      clear e2 o0 o1 o2 o3 o4 o5 a4 a10 q0 q1 q2 q3 q4
      cases b with
      | true =>
        go_wp2
        go_roundw
        case rel =>
          refine ⟨k + 1, by omega, by go_num, hX, hQ, bl, Lib.hid fun i y hi hy => ?_⟩
          by_cases ei : i = k
          · subst ei; rw [heh.out] at hy; injection hy with hy; rw [← hy]; exact hbh.out
          · exact hall.out i y (by omega) hy
        case measure => simp [intOf]; omega
      | false =>
        have hno := Lib.hid (all_no heh.out hbh.out)
        go_wp2
        go_ret
        exact ⟨(show Ending.returned (.bool false) = .returned (.bool R) from by rewrite [← hres.out]; simp [mayO, hno.out]), bl⟩
    · obtain rfl : m = k := by omega
      have hyes := Lib.hid (all_yes (E := qa) (fun i e hi he => hall.out i e (by omega) he))
      clear hall m5
      by_cases r1 : qr = 0
      rotate_left
      · have r2 : (qr != 0) = true := by rw [bne_iff_ne]; exact r1
        have ff : inR qr 0 (regsK 3) = false := by simp [inR, regsK, readK]; omega
        replace ff := Lib.hid ff
        have hf := Lib.hid (show mayO x.d n Z ⟨3, qr, qt, qc, ql, qa⟩ = false from by simp [mayO, ff.out])
        have o0 := hQ.cell 0 (v := .int .i64 3) rfl; have o1 := hQ.cell 1 (v := .int .i64 qr) rfl; have o2 := hQ.cell 2 (v := .int .i64 qt) rfl; have o3 := hQ.cell 3 (v := .int .i64 qc) rfl; have o4 := hQ.cell 4 (v := .int .i64 ql) rfl; have o5 := hQ.cell 5 (v := .slice B m kk) rfl; have a4 := hX.cell 4 (v := .int .i64 x.d) rfl; have a10 := hX.cell 10 (v := .slice A n c) rfl
        go_wp2
        go_ret
        exact ⟨(show Ending.returned (.bool false) = .returned (.bool R) from by rewrite [← hres.out, hf.out]; rfl), bl⟩
      subst r1
      have hr := Lib.hid (show inR 0 0 (regsK 3) = true from by simp [inR, regsK, readK])
      rcases (show qt < 0 ∨ (¬ qt < 0 ∧ (n : Int) ≤ qt) ∨ (¬ qt < 0 ∧ ¬ (n : Int) ≤ qt) by omega) with t1 | ⟨t1, t2⟩ | ⟨t1, t2⟩
      · skip
        have ff : inR qt 0 (lastK n 3) = false := by simp [inR, lastK]; omega
        replace ff := Lib.hid ff
        have hf := Lib.hid (show mayO x.d n Z ⟨3, 0, qt, qc, ql, qa⟩ = false from by simp [mayO, ff.out])
        have o0 := hQ.cell 0 (v := .int .i64 3) rfl; have o1 := hQ.cell 1 (v := .int .i64 0) rfl; have o2 := hQ.cell 2 (v := .int .i64 qt) rfl; have o3 := hQ.cell 3 (v := .int .i64 qc) rfl; have o4 := hQ.cell 4 (v := .int .i64 ql) rfl; have o5 := hQ.cell 5 (v := .slice B m kk) rfl; have a4 := hX.cell 4 (v := .int .i64 x.d) rfl; have a10 := hX.cell 10 (v := .slice A n c) rfl
        go_wp2
        go_ret
        exact ⟨(show Ending.returned (.bool false) = .returned (.bool R) from by rewrite [← hres.out, hf.out]; rfl), bl⟩
      · skip
        have ff : inR qt 0 (lastK n 3) = false := by simp [inR, lastK]; omega
        replace ff := Lib.hid ff
        have hf := Lib.hid (show mayO x.d n Z ⟨3, 0, qt, qc, ql, qa⟩ = false from by simp [mayO, ff.out])
        have o0 := hQ.cell 0 (v := .int .i64 3) rfl; have o1 := hQ.cell 1 (v := .int .i64 0) rfl; have o2 := hQ.cell 2 (v := .int .i64 qt) rfl; have o3 := hQ.cell 3 (v := .int .i64 qc) rfl; have o4 := hQ.cell 4 (v := .int .i64 ql) rfl; have o5 := hQ.cell 5 (v := .slice B m kk) rfl; have a4 := hX.cell 4 (v := .int .i64 x.d) rfl; have a10 := hX.cell 10 (v := .slice A n c) rfl
        go_wp2
        go_ret
        exact ⟨(show Ending.returned (.bool false) = .returned (.bool R) from by rewrite [← hres.out, hf.out]; rfl), bl⟩
      have ht := Lib.hid (show inR qt 0 (lastK n 3) = true from by simp [inR, lastK]; omega)
      obtain ⟨ti, rfl⟩ := Int.eq_ofNat_of_zero_le (show 0 ≤ qt by omega)
      have htn : ti < n := by omega
      obtain ⟨z, hz⟩ : ∃ z, Z[ti]? = some z := ⟨_, List.getElem?_eq_getElem (by omega)⟩
      have hzl := hrows.out ti z hz
      have hzd : Z[ti]?.getD [] = z := by rw [hz]; rfl
      replace hzd := Lib.hid hzd
      clear hz
      by_cases c1 : qc = 0
      rotate_left
      · have c2 : (qc != 0) = true := by rw [bne_iff_ne]; exact c1
        have hf := Lib.hid (show mayO x.d n Z ⟨3, 0, (ti : Int), qc, ql, qa⟩ = false from by simp [mayO, colK]; omega)
        have o0 := hQ.cell 0 (v := .int .i64 3) rfl; have o1 := hQ.cell 1 (v := .int .i64 0) rfl; have o2 := hQ.cell 2 (v := .int .i64 (ti : Int)) rfl; have o3 := hQ.cell 3 (v := .int .i64 qc) rfl; have o4 := hQ.cell 4 (v := .int .i64 ql) rfl; have o5 := hQ.cell 5 (v := .slice B m kk) rfl; have a4 := hX.cell 4 (v := .int .i64 x.d) rfl; have a10 := hX.cell 10 (v := .slice A n c) rfl
        go_wp2
        go_ret
        exact ⟨(show Ending.returned (.bool false) = .returned (.bool R) from by rewrite [← hres.out, hf.out]; rfl), bl⟩
      subst c1
      by_cases l1 : ql = 0
      rotate_left
      · have l2 : (ql != 0) = true := by rw [bne_iff_ne]; exact l1
        have ff : limitK x.d 3 ql = false := by simp [limitK]; omega
        replace ff := Lib.hid ff
        have hf := Lib.hid (show mayO x.d n Z ⟨3, 0, (ti : Int), 0, ql, qa⟩ = false from by simp [mayO, ff.out])
        have o0 := hQ.cell 0 (v := .int .i64 3) rfl; have o1 := hQ.cell 1 (v := .int .i64 0) rfl; have o2 := hQ.cell 2 (v := .int .i64 (ti : Int)) rfl; have o3 := hQ.cell 3 (v := .int .i64 0) rfl; have o4 := hQ.cell 4 (v := .int .i64 ql) rfl; have o5 := hQ.cell 5 (v := .slice B m kk) rfl; have a4 := hX.cell 4 (v := .int .i64 x.d) rfl; have a10 := hX.cell 10 (v := .slice A n c) rfl
        go_wp2
        go_ret
        exact ⟨(show Ending.returned (.bool false) = .returned (.bool R) from by rewrite [← hres.out, hf.out]; rfl), bl⟩
      subst l1
      have hl := Lib.hid (show limitK x.d 3 0 = true from by simp [limitK])
      have hcol := Lib.hid (show colK z 3 0 = true from by simp [colK])
      have HA := Lib.hid (fun w h => ref_args x A n c Z 3 0 (ti : Int) 0 0 B m kk ((z.length : Int)) w h (by omega) (by simp [argN]; rw [hzd.out]))
      by_cases me : (m : Int) = (z.length : Int)
      · have me2 : ((z.length : Int) == (m : Int)) = true := by rw [beq_iff_eq]; omega
        replace me := Lib.hid me
        have me3 := Lib.hid (show (qa.length : Int) = (z.length : Int) by have := me.out; omega)
        have fin := Lib.hid (show mayO x.d n Z ⟨3, 0, (ti : Int), 0, 0, qa⟩ = true by simp [mayO, inR_lit3, hr.out, ht.out, hl.out, hzd.out, hcol.out, hyes.out, argsK, me3.out]; try omega)
        have o0 := hQ.cell 0 (v := .int .i64 3) rfl; have o1 := hQ.cell 1 (v := .int .i64 0) rfl; have o2 := hQ.cell 2 (v := .int .i64 (ti : Int)) rfl; have o3 := hQ.cell 3 (v := .int .i64 0) rfl; have o4 := hQ.cell 4 (v := .int .i64 0) rfl; have o5 := hQ.cell 5 (v := .slice B m kk) rfl; have a4 := hX.cell 4 (v := .int .i64 x.d) rfl; have a10 := hX.cell 10 (v := .slice A n c) rfl; have a0 := hX.cell 0 (v := .int .i64 x.h) rfl; have a1 := hX.cell 1 (v := .int .i64 x.z) rfl; have a2 := hX.cell 2 (v := .int .i64 x.b) rfl; have a3 := hX.cell 3 (v := .int .i64 x.r) rfl; have a5 := hX.cell 5 (v := .int .i64 x.e) rfl; have a6 := hX.cell 6 (v := .int .i64 x.s) rfl; have a7 := hX.cell 7 (v := .int .i64 x.p) rfl; have a8 := hX.cell 8 (v := .int .i64 x.q) rfl; have a9 := hX.cell 9 (v := .int .i64 x.t) rfl
        go_wp2_with fail
        refine (HA.out _ (h.below bl)).mono ?_
        rintro e w9 ⟨rfl, e2⟩
        replace hX := hX.below e2 hX.lt; replace hQ := hQ.below e2 hQ.lt; replace bl := bnext bl e2; clear e2 o0 o1 o2 o3 o4 o5 a0 a1 a2 a3 a4 a5 a6 a7 a8 a9 a10
        have o0 := hQ.cell 0 (v := .int .i64 3) rfl; have o1 := hQ.cell 1 (v := .int .i64 0) rfl; have o2 := hQ.cell 2 (v := .int .i64 (ti : Int)) rfl; have o3 := hQ.cell 3 (v := .int .i64 0) rfl; have o4 := hQ.cell 4 (v := .int .i64 0) rfl; have o5 := hQ.cell 5 (v := .slice B m kk) rfl; have a4 := hX.cell 4 (v := .int .i64 x.d) rfl; have a10 := hX.cell 10 (v := .slice A n c) rfl
        go_wp2
        go_ret
        exact ⟨(show Ending.returned (.bool true) = .returned (.bool R) from by rewrite [← hres.out, fin.out]; rfl), bl⟩
      · have me2 : ((z.length : Int) == (m : Int)) = false := by rw [beq_eq_false_iff_ne]; omega
        replace me := Lib.hid me
        have me3 := Lib.hid (show ¬ (qa.length : Int) = (z.length : Int) by have := me.out; omega)
        have fin := Lib.hid (show mayO x.d n Z ⟨3, 0, (ti : Int), 0, 0, qa⟩ = false by simp [mayO, inR_lit3, hr.out, ht.out, hl.out, hzd.out, hcol.out, hyes.out, argsK, me3.out]; try omega)
        have o0 := hQ.cell 0 (v := .int .i64 3) rfl; have o1 := hQ.cell 1 (v := .int .i64 0) rfl; have o2 := hQ.cell 2 (v := .int .i64 (ti : Int)) rfl; have o3 := hQ.cell 3 (v := .int .i64 0) rfl; have o4 := hQ.cell 4 (v := .int .i64 0) rfl; have o5 := hQ.cell 5 (v := .slice B m kk) rfl; have a4 := hX.cell 4 (v := .int .i64 x.d) rfl; have a10 := hX.cell 10 (v := .slice A n c) rfl; have a0 := hX.cell 0 (v := .int .i64 x.h) rfl; have a1 := hX.cell 1 (v := .int .i64 x.z) rfl; have a2 := hX.cell 2 (v := .int .i64 x.b) rfl; have a3 := hX.cell 3 (v := .int .i64 x.r) rfl; have a5 := hX.cell 5 (v := .int .i64 x.e) rfl; have a6 := hX.cell 6 (v := .int .i64 x.s) rfl; have a7 := hX.cell 7 (v := .int .i64 x.p) rfl; have a8 := hX.cell 8 (v := .int .i64 x.q) rfl; have a9 := hX.cell 9 (v := .int .i64 x.t) rfl
        go_wp2_with fail
        refine (HA.out _ (h.below bl)).mono ?_
        rintro e w9 ⟨rfl, e2⟩
        replace hX := hX.below e2 hX.lt; replace hQ := hQ.below e2 hQ.lt; replace bl := bnext bl e2; clear e2 o0 o1 o2 o3 o4 o5 a0 a1 a2 a3 a4 a5 a6 a7 a8 a9 a10
        have o0 := hQ.cell 0 (v := .int .i64 3) rfl; have o1 := hQ.cell 1 (v := .int .i64 0) rfl; have o2 := hQ.cell 2 (v := .int .i64 (ti : Int)) rfl; have o3 := hQ.cell 3 (v := .int .i64 0) rfl; have o4 := hQ.cell 4 (v := .int .i64 0) rfl; have o5 := hQ.cell 5 (v := .slice B m kk) rfl; have a4 := hX.cell 4 (v := .int .i64 x.d) rfl; have a10 := hX.cell 10 (v := .slice A n c) rfl
        go_wp2
        go_ret
        exact ⟨(show Ending.returned (.bool false) = .returned (.bool R) from by rewrite [← hres.out, fin.out]; rfl), bl⟩
set_option maxHeartbeats 32000000 in
set_option maxRecDepth 100000 in
theorem ref_op4 (x : Cfg) (A : Option Addr) (n c : Nat) (Z : List (List Int)) (qr qt qc ql : Int) (qa : List ExprR) (R : Bool) (B : Option Addr) (m kk : Nat) (w : World) (h : RG w A n c Z) (h2 : RE w B m kk qa) (n1 : 1 ≤ n) (n4 : n ≤ 4) (hrows : ∀ (i : Nat) (z : List Int), Z[i]? = some z → 1 ≤ z.length ∧ z.length ≤ 4) (hres : Hid (mayO x.d n Z ⟨4, qr, qt, qc, ql, qa⟩ = R)) :
  Calls Try.prog 73 #[.agg #[.int .i64 x.h, .int .i64 x.z, .int .i64 x.b, .int .i64 x.r, .int .i64 x.d, .int .i64 x.e, .int .i64 x.s, .int .i64 x.p, .int .i64 x.q, .int .i64 x.t, .slice A n c], .agg #[.int .i64 4, .int .i64 qr, .int .i64 qt, .int .i64 qc, .int .i64 ql, .slice B m kk]] w fun e w' => e = .returned (.bool R) ∧ Below w.heap.size w w' := by
  have hZn := h.len
  have hml := h2.len
  have hmm : m ≤ maxLen := Nat.le_trans h2.cap h2.max
  unfold maxLen at hmm
  have hrows := Lib.hid hrows
  have hX0 := (Blk.new w #[.int .i64 x.h, .int .i64 x.z, .int .i64 x.b, .int .i64 x.r, .int .i64 x.d, .int .i64 x.e, .int .i64 x.s, .int .i64 x.p, .int .i64 x.q, .int .i64 x.t, .slice A n c] 24).alloc (.cells #[.int .i64 4, .int .i64 qr, .int .i64 qt, .int .i64 qc, .int .i64 ql, .slice B m kk] 51)
  have hQ0 := Blk.new2 w (.cells #[.int .i64 x.h, .int .i64 x.z, .int .i64 x.b, .int .i64 x.r, .int .i64 x.d, .int .i64 x.e, .int .i64 x.s, .int .i64 x.p, .int .i64 x.q, .int .i64 x.t, .slice A n c] 24) #[.int .i64 4, .int .i64 qr, .int .i64 qt, .int .i64 qc, .int .i64 ql, .slice B m kk] 51
  have bb : Below w.heap.size w ((w.alloc (.cells #[.int .i64 x.h, .int .i64 x.z, .int .i64 x.b, .int .i64 x.r, .int .i64 x.d, .int .i64 x.e, .int .i64 x.s, .int .i64 x.p, .int .i64 x.q, .int .i64 x.t, .slice A n c] 24)).alloc (.cells #[.int .i64 4, .int .i64 qr, .int .i64 qt, .int .i64 qc, .int .i64 ql, .slice B m kk] 51)) := (by repeat (first | exact Below.refl _ _ | assumption | apply below_drewN' | apply Below.drew | refine Below.alloc ?_ (by first | omega | (simp; done) | (simp; omega)) _ | refine Below.setCell ?_ (by first | omega | (simp; done) | (simp; omega)) _))
  by_cases m5 : 4 < m
  · have hf := Lib.hid (args_long (d := x.d) (n := n) (Z := Z) (r := qr) (t := qt) (c := qc) (l := ql) (qa := qa) (k := 4) (by omega) (fun i z hz => (hrows.out i z hz).2) (by omega))
    have m5' : (4 : Int) < (m : Int) := by omega
    have hX := hX0
    have hQ := hQ0
    have o0 := hQ.cell 0 (v := .int .i64 4) rfl; have o1 := hQ.cell 1 (v := .int .i64 qr) rfl; have o2 := hQ.cell 2 (v := .int .i64 qt) rfl; have o3 := hQ.cell 3 (v := .int .i64 qc) rfl; have o4 := hQ.cell 4 (v := .int .i64 ql) rfl; have o5 := hQ.cell 5 (v := .slice B m kk) rfl; have a4 := hX.cell 4 (v := .int .i64 x.d) rfl; have a10 := hX.cell 10 (v := .slice A n c) rfl
    go_enter Try.func73, Try.ntmps73
    go_wp2
    go_ret
    exact ⟨(show Ending.returned (.bool false) = .returned (.bool R) from by rewrite [← hres.out, hf.out]; rfl), bb⟩
  have m5' : ¬ (4 : Int) < (m : Int) := by omega
  have m4 : (m : Int) ≤ 4 := by omega
  have hX := hX0
  have hQ := hQ0
  have o0 := hQ.cell 0 (v := .int .i64 4) rfl; have o1 := hQ.cell 1 (v := .int .i64 qr) rfl; have o2 := hQ.cell 2 (v := .int .i64 qt) rfl; have o3 := hQ.cell 3 (v := .int .i64 qc) rfl; have o4 := hQ.cell 4 (v := .int .i64 ql) rfl; have o5 := hQ.cell 5 (v := .slice B m kk) rfl; have a4 := hX.cell 4 (v := .int .i64 x.d) rfl; have a10 := hX.cell 10 (v := .slice A n c) rfl
  go_enter Try.func73, Try.ntmps73
  go_wp2
  clear o0 o1 o2 o3 o4 o5 a4 a10 hX hQ
  generalize (w.alloc (.cells #[.int .i64 x.h, .int .i64 x.z, .int .i64 x.b, .int .i64 x.r, .int .i64 x.d, .int .i64 x.e, .int .i64 x.s, .int .i64 x.p, .int .i64 x.q, .int .i64 x.t, .slice A n c] 24)).alloc (.cells #[.int .i64 4, .int .i64 qr, .int .i64 qt, .int .i64 qc, .int .i64 ql, .slice B m kk] 51) = W1 at *
  go_loopw [5] (fun i wr => ∃ k : Nat, k ≤ m ∧ i = .int .i64 k ∧ Blk wr w.heap.size #[.int .i64 x.h, .int .i64 x.z, .int .i64 x.b, .int .i64 x.r, .int .i64 x.d, .int .i64 x.e, .int .i64 x.s, .int .i64 x.p, .int .i64 x.q, .int .i64 x.t, .slice A n c] 24 ∧ Blk wr (w.heap.size + 1) #[.int .i64 4, .int .i64 qr, .int .i64 qt, .int .i64 qc, .int .i64 ql, .slice B m kk] 51 ∧ Below w.heap.size w wr ∧ Hid (∀ (i : Nat) (e : ExprR), i < k → qa[i]? = some e → mayE e = true)) (fun i _ => m - (intOf i).toNat)
  case atStart => exact ⟨0, by omega, rfl, hX0, hQ0, bb, Lib.hid (fun i e hi => absurd hi (by omega))⟩
  case round =>
    obtain ⟨k, hk, rfl, hX, hQ, bl, hall⟩ := hrel
    clear hX0 hQ0 bb
    by_cases hlt : k < m
    · have o0 := hQ.cell 0 (v := .int .i64 4) rfl; have o1 := hQ.cell 1 (v := .int .i64 qr) rfl; have o2 := hQ.cell 2 (v := .int .i64 qt) rfl; have o3 := hQ.cell 3 (v := .int .i64 qc) rfl; have o4 := hQ.cell 4 (v := .int .i64 ql) rfl; have o5 := hQ.cell 5 (v := .slice B m kk) rfl; have a4 := hX.cell 4 (v := .int .i64 x.d) rfl; have a10 := hX.cell 10 (v := .slice A n c) rfl
      obtain ⟨e, he⟩ : ∃ e, qa[k]? = some e := ⟨_, List.getElem?_eq_getElem (by omega)⟩
      obtain ⟨g, o, rfl, hc⟩ := (h2.below bl).at_ (by omega)
      have hcs := hc k e he
      obtain ⟨b, hb⟩ : ∃ b, mayE e = b := ⟨_, rfl⟩
      have HF := Lib.hid (fun w => ref_expr e b w hb)
      have q0 : wr.cell? ⟨g, o + k * 5, none⟩ = some (.int .i64 e.k) := hcs 0 (.int .i64 e.k) rfl
      have q1 := hcs 1 (.int .i64 e.n) rfl
      have q2 := hcs 2 (.string e.s) rfl
      have q3 := hcs 3 (.int .i64 e.r) rfl
      have q4 := hcs 4 (.int .i64 e.c) rfl
      have hbh := Lib.hid hb
      have heh := Lib.hid he
      clear hcs hc hb he
      go_wp2_with fail
      refine (HF.out _).mono ?_
      rintro y w2 ⟨rfl, e2⟩
      replace bl := bnext bl e2
      replace hX := hX.below e2 hX.lt
      replace hQ := hQ.below e2 hQ.lt
      clear e2 o0 o1 o2 o3 o4 o5 a4 a10 q0 q1 q2 q3 q4
      cases b with
      | true =>
        go_wp2
        go_roundw
        case rel =>
          refine ⟨k + 1, by omega, by go_num, hX, hQ, bl, Lib.hid fun i y hi hy => ?_⟩
          by_cases ei : i = k
          · subst ei; rw [heh.out] at hy; injection hy with hy; rw [← hy]; exact hbh.out
          · exact hall.out i y (by omega) hy
        case measure => simp [intOf]; omega
      | false =>
        have hno := Lib.hid (all_no heh.out hbh.out)
        go_wp2
        go_ret
        exact ⟨(show Ending.returned (.bool false) = .returned (.bool R) from by rewrite [← hres.out]; simp [mayO, hno.out]), bl⟩
    · obtain rfl : m = k := by omega
      have hyes := Lib.hid (all_yes (E := qa) (fun i e hi he => hall.out i e (by omega) he))
      clear hall m5
      by_cases r1 : qr = 0
      rotate_left
      · have r2 : (qr != 0) = true := by rw [bne_iff_ne]; exact r1
        have ff : inR qr 0 (regsK 4) = false := by simp [inR, regsK, readK]; omega
        replace ff := Lib.hid ff
        have hf := Lib.hid (show mayO x.d n Z ⟨4, qr, qt, qc, ql, qa⟩ = false from by simp [mayO, ff.out])
        have o0 := hQ.cell 0 (v := .int .i64 4) rfl; have o1 := hQ.cell 1 (v := .int .i64 qr) rfl; have o2 := hQ.cell 2 (v := .int .i64 qt) rfl; have o3 := hQ.cell 3 (v := .int .i64 qc) rfl; have o4 := hQ.cell 4 (v := .int .i64 ql) rfl; have o5 := hQ.cell 5 (v := .slice B m kk) rfl; have a4 := hX.cell 4 (v := .int .i64 x.d) rfl; have a10 := hX.cell 10 (v := .slice A n c) rfl
        go_wp2
        go_ret
        exact ⟨(show Ending.returned (.bool false) = .returned (.bool R) from by rewrite [← hres.out, hf.out]; rfl), bl⟩
      subst r1
      have hr := Lib.hid (show inR 0 0 (regsK 4) = true from by simp [inR, regsK, readK])
      rcases (show qt < 0 ∨ (¬ qt < 0 ∧ (n : Int) ≤ qt) ∨ (¬ qt < 0 ∧ ¬ (n : Int) ≤ qt) by omega) with t1 | ⟨t1, t2⟩ | ⟨t1, t2⟩
      · skip
        have ff : inR qt 0 (lastK n 4) = false := by simp [inR, lastK]; omega
        replace ff := Lib.hid ff
        have hf := Lib.hid (show mayO x.d n Z ⟨4, 0, qt, qc, ql, qa⟩ = false from by simp [mayO, ff.out])
        have o0 := hQ.cell 0 (v := .int .i64 4) rfl; have o1 := hQ.cell 1 (v := .int .i64 0) rfl; have o2 := hQ.cell 2 (v := .int .i64 qt) rfl; have o3 := hQ.cell 3 (v := .int .i64 qc) rfl; have o4 := hQ.cell 4 (v := .int .i64 ql) rfl; have o5 := hQ.cell 5 (v := .slice B m kk) rfl; have a4 := hX.cell 4 (v := .int .i64 x.d) rfl; have a10 := hX.cell 10 (v := .slice A n c) rfl
        go_wp2
        go_ret
        exact ⟨(show Ending.returned (.bool false) = .returned (.bool R) from by rewrite [← hres.out, hf.out]; rfl), bl⟩
      · skip
        have ff : inR qt 0 (lastK n 4) = false := by simp [inR, lastK]; omega
        replace ff := Lib.hid ff
        have hf := Lib.hid (show mayO x.d n Z ⟨4, 0, qt, qc, ql, qa⟩ = false from by simp [mayO, ff.out])
        have o0 := hQ.cell 0 (v := .int .i64 4) rfl; have o1 := hQ.cell 1 (v := .int .i64 0) rfl; have o2 := hQ.cell 2 (v := .int .i64 qt) rfl; have o3 := hQ.cell 3 (v := .int .i64 qc) rfl; have o4 := hQ.cell 4 (v := .int .i64 ql) rfl; have o5 := hQ.cell 5 (v := .slice B m kk) rfl; have a4 := hX.cell 4 (v := .int .i64 x.d) rfl; have a10 := hX.cell 10 (v := .slice A n c) rfl
        go_wp2
        go_ret
        exact ⟨(show Ending.returned (.bool false) = .returned (.bool R) from by rewrite [← hres.out, hf.out]; rfl), bl⟩
      have ht := Lib.hid (show inR qt 0 (lastK n 4) = true from by simp [inR, lastK]; omega)
      obtain ⟨ti, rfl⟩ := Int.eq_ofNat_of_zero_le (show 0 ≤ qt by omega)
      have htn : ti < n := by omega
      obtain ⟨z, hz⟩ : ∃ z, Z[ti]? = some z := ⟨_, List.getElem?_eq_getElem (by omega)⟩
      have hzl := hrows.out ti z hz
      have hzd : Z[ti]?.getD [] = z := by rw [hz]; rfl
      replace hzd := Lib.hid hzd
      clear hz
      by_cases c1 : qc = 0
      rotate_left
      · have c2 : (qc != 0) = true := by rw [bne_iff_ne]; exact c1
        have hf := Lib.hid (show mayO x.d n Z ⟨4, 0, (ti : Int), qc, ql, qa⟩ = false from by simp [mayO, colK]; omega)
        have o0 := hQ.cell 0 (v := .int .i64 4) rfl; have o1 := hQ.cell 1 (v := .int .i64 0) rfl; have o2 := hQ.cell 2 (v := .int .i64 (ti : Int)) rfl; have o3 := hQ.cell 3 (v := .int .i64 qc) rfl; have o4 := hQ.cell 4 (v := .int .i64 ql) rfl; have o5 := hQ.cell 5 (v := .slice B m kk) rfl; have a4 := hX.cell 4 (v := .int .i64 x.d) rfl; have a10 := hX.cell 10 (v := .slice A n c) rfl
        go_wp2
        go_ret
        exact ⟨(show Ending.returned (.bool false) = .returned (.bool R) from by rewrite [← hres.out, hf.out]; rfl), bl⟩
      subst c1
      by_cases l1 : ql = 0
      rotate_left
      · have l2 : (ql != 0) = true := by rw [bne_iff_ne]; exact l1
        have ff : limitK x.d 4 ql = false := by simp [limitK]; omega
        replace ff := Lib.hid ff
        have hf := Lib.hid (show mayO x.d n Z ⟨4, 0, (ti : Int), 0, ql, qa⟩ = false from by simp [mayO, ff.out])
        have o0 := hQ.cell 0 (v := .int .i64 4) rfl; have o1 := hQ.cell 1 (v := .int .i64 0) rfl; have o2 := hQ.cell 2 (v := .int .i64 (ti : Int)) rfl; have o3 := hQ.cell 3 (v := .int .i64 0) rfl; have o4 := hQ.cell 4 (v := .int .i64 ql) rfl; have o5 := hQ.cell 5 (v := .slice B m kk) rfl; have a4 := hX.cell 4 (v := .int .i64 x.d) rfl; have a10 := hX.cell 10 (v := .slice A n c) rfl
        go_wp2
        go_ret
        exact ⟨(show Ending.returned (.bool false) = .returned (.bool R) from by rewrite [← hres.out, hf.out]; rfl), bl⟩
      subst l1
      have hl := Lib.hid (show limitK x.d 4 0 = true from by simp [limitK])
      have hcol := Lib.hid (show colK z 4 0 = true from by simp [colK])
      have HA := Lib.hid (fun w h => ref_args x A n c Z 4 0 (ti : Int) 0 0 B m kk (1) w h (by omega) (by simp [argN]))
      by_cases me : (m : Int) = 1
      · have me2 : (1 == (m : Int)) = true := by rw [beq_iff_eq]; omega
        replace me := Lib.hid me
        have me3 := Lib.hid (show (qa.length : Int) = 1 by have := me.out; omega)
        have fin := Lib.hid (show mayO x.d n Z ⟨4, 0, (ti : Int), 0, 0, qa⟩ = true by simp [mayO, inR_lit4, hr.out, ht.out, hl.out, hzd.out, hcol.out, hyes.out, argsK, me3.out]; try omega)
        have o0 := hQ.cell 0 (v := .int .i64 4) rfl; have o1 := hQ.cell 1 (v := .int .i64 0) rfl; have o2 := hQ.cell 2 (v := .int .i64 (ti : Int)) rfl; have o3 := hQ.cell 3 (v := .int .i64 0) rfl; have o4 := hQ.cell 4 (v := .int .i64 0) rfl; have o5 := hQ.cell 5 (v := .slice B m kk) rfl; have a4 := hX.cell 4 (v := .int .i64 x.d) rfl; have a10 := hX.cell 10 (v := .slice A n c) rfl; have a0 := hX.cell 0 (v := .int .i64 x.h) rfl; have a1 := hX.cell 1 (v := .int .i64 x.z) rfl; have a2 := hX.cell 2 (v := .int .i64 x.b) rfl; have a3 := hX.cell 3 (v := .int .i64 x.r) rfl; have a5 := hX.cell 5 (v := .int .i64 x.e) rfl; have a6 := hX.cell 6 (v := .int .i64 x.s) rfl; have a7 := hX.cell 7 (v := .int .i64 x.p) rfl; have a8 := hX.cell 8 (v := .int .i64 x.q) rfl; have a9 := hX.cell 9 (v := .int .i64 x.t) rfl
        go_wp2_with fail
        refine (HA.out _ (h.below bl)).mono ?_
        rintro e w9 ⟨rfl, e2⟩
        replace hX := hX.below e2 hX.lt; replace hQ := hQ.below e2 hQ.lt; replace bl := bnext bl e2; clear e2 o0 o1 o2 o3 o4 o5 a0 a1 a2 a3 a4 a5 a6 a7 a8 a9 a10
        have o0 := hQ.cell 0 (v := .int .i64 4) rfl; have o1 := hQ.cell 1 (v := .int .i64 0) rfl; have o2 := hQ.cell 2 (v := .int .i64 (ti : Int)) rfl; have o3 := hQ.cell 3 (v := .int .i64 0) rfl; have o4 := hQ.cell 4 (v := .int .i64 0) rfl; have o5 := hQ.cell 5 (v := .slice B m kk) rfl; have a4 := hX.cell 4 (v := .int .i64 x.d) rfl; have a10 := hX.cell 10 (v := .slice A n c) rfl
        go_wp2
        go_ret
        exact ⟨(show Ending.returned (.bool true) = .returned (.bool R) from by rewrite [← hres.out, fin.out]; rfl), bl⟩
      · have me2 : (1 == (m : Int)) = false := by rw [beq_eq_false_iff_ne]; omega
        replace me := Lib.hid me
        have me3 := Lib.hid (show ¬ (qa.length : Int) = 1 by have := me.out; omega)
        have fin := Lib.hid (show mayO x.d n Z ⟨4, 0, (ti : Int), 0, 0, qa⟩ = false by simp [mayO, inR_lit4, hr.out, ht.out, hl.out, hzd.out, hcol.out, hyes.out, argsK, me3.out]; try omega)
        have o0 := hQ.cell 0 (v := .int .i64 4) rfl; have o1 := hQ.cell 1 (v := .int .i64 0) rfl; have o2 := hQ.cell 2 (v := .int .i64 (ti : Int)) rfl; have o3 := hQ.cell 3 (v := .int .i64 0) rfl; have o4 := hQ.cell 4 (v := .int .i64 0) rfl; have o5 := hQ.cell 5 (v := .slice B m kk) rfl; have a4 := hX.cell 4 (v := .int .i64 x.d) rfl; have a10 := hX.cell 10 (v := .slice A n c) rfl; have a0 := hX.cell 0 (v := .int .i64 x.h) rfl; have a1 := hX.cell 1 (v := .int .i64 x.z) rfl; have a2 := hX.cell 2 (v := .int .i64 x.b) rfl; have a3 := hX.cell 3 (v := .int .i64 x.r) rfl; have a5 := hX.cell 5 (v := .int .i64 x.e) rfl; have a6 := hX.cell 6 (v := .int .i64 x.s) rfl; have a7 := hX.cell 7 (v := .int .i64 x.p) rfl; have a8 := hX.cell 8 (v := .int .i64 x.q) rfl; have a9 := hX.cell 9 (v := .int .i64 x.t) rfl
        go_wp2_with fail
        refine (HA.out _ (h.below bl)).mono ?_
        rintro e w9 ⟨rfl, e2⟩
        replace hX := hX.below e2 hX.lt; replace hQ := hQ.below e2 hQ.lt; replace bl := bnext bl e2; clear e2 o0 o1 o2 o3 o4 o5 a0 a1 a2 a3 a4 a5 a6 a7 a8 a9 a10
        have o0 := hQ.cell 0 (v := .int .i64 4) rfl; have o1 := hQ.cell 1 (v := .int .i64 0) rfl; have o2 := hQ.cell 2 (v := .int .i64 (ti : Int)) rfl; have o3 := hQ.cell 3 (v := .int .i64 0) rfl; have o4 := hQ.cell 4 (v := .int .i64 0) rfl; have o5 := hQ.cell 5 (v := .slice B m kk) rfl; have a4 := hX.cell 4 (v := .int .i64 x.d) rfl; have a10 := hX.cell 10 (v := .slice A n c) rfl
        go_wp2
        go_ret
        exact ⟨(show Ending.returned (.bool false) = .returned (.bool R) from by rewrite [← hres.out, fin.out]; rfl), bl⟩
end Go.Proofs.Ytdmjiaicgbcodaa
