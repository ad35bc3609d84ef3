/- Contracts of package prog: expressions. -/
import Derived.Test.YtdmjiaicgbcodaaPgA
namespace Go.Proofs.Ytdmjiaicgbcodaa
open Go.ChangeShapes Go.WideShapes Go.ChangeAt Go.RowKit
open Go.ChangeMaps (open_string shut_string)
set_option linter.unusedVariables false
set_option linter.unusedSimpArgs false

/-- May an expression be? -/
def noS (s : ByteArray) : Bool := s.toList.isEmpty
def fieldK (e : ExprR) : Bool := inR e.r 0 3 && (inR e.c 0 3 && noS e.s)
def mayE (e : ExprR) : Bool :=
  if e.k = 1 then noS e.s && (e.r == 0 && e.c == 0) else if e.k = 2 then (e.n == 0 && (e.r == 0 && e.c == 0)) && decide ((e.s.size : Int) ≤ 8)
  else if e.k = 3 then fieldK e && e.n == 0 else if e.k = 4 then (fieldK e && e.n == 0) && e.c == 0 else if e.k = 5 then fieldK e else false
set_option maxHeartbeats 1000000 in
set_option maxRecDepth 100000 in
theorem prog_mayExpr (e : ExprR) (b : Bool) (w : World) (hb : mayE e = b) : Calls Try.prog 95 #[.agg #[.int .i64 e.k, .int .i64 e.n, .string e.s, .int .i64 e.r, .int .i64 e.c]] w fun x w' => x = .returned (.bool b) ∧ Below w.heap.size w w' := by
  obtain ⟨k, n, s, r, c⟩ := e
  unfold mayE fieldK at hb
  simp only at hb
  have bb : Below w.heap.size w (w.alloc (.cells #[.int .i64 k, .int .i64 n, .string s, .int .i64 r, .int .i64 c] 67)) := (by repeat (first | exact Below.refl _ _ | assumption | apply below_drewN' | apply Below.drew | refine Below.alloc ?_ (by first | omega | (simp; done) | (simp; omega)) _ | refine Below.setCell ?_ (by first | omega | (simp; done) | (simp; omega)) _))
  have hX := Blk.new w #[.int .i64 k, .int .i64 n, .string s, .int .i64 r, .int .i64 c] 67
  obtain ⟨p, hp⟩ : ∃ p, inR r 0 3 = p := ⟨_, rfl⟩
  obtain ⟨q, hq⟩ : ∃ q, inR c 0 3 = q := ⟨_, rfl⟩
  have HP := Lib.hid (fun w => prog_within r 0 3 p w hp)
  have HQ := Lib.hid (fun w => prog_within c 0 3 q w hq)
  rw [hp, hq] at hb
  clear hp hq
  have hb := Lib.hid hb
  go_enter Try.func95, Try.ntmps95
  go_wp2_with fail
  generalize w.alloc (.cells #[.int .i64 k, .int .i64 n, .string s, .int .i64 r, .int .i64 c] 67) = W1 at *
  refine (HP.out _).mono ?_
  rintro x w2 ⟨rfl, e2⟩
  replace hX := hX.below e2 hX.lt
  replace bb := bnext bb e2
  clear e2
  have x0 := hX.cell 0 (v := .int .i64 k) rfl
  have x1 := hX.cell 1 (v := .int .i64 n) rfl
  have x2 := hX.cell 2 (v := .string s) rfl
  have x3 := hX.cell 3 (v := .int .i64 r) rfl
  have x4 := hX.cell 4 (v := .int .i64 c) rfl
  cases p with
  | true =>
    go_wp2_with fail
    refine (HQ.out _).mono ?_
    rintro x w3 ⟨rfl, e2⟩
    replace hX := hX.below e2 hX.lt
    replace bb := bnext bb e2
    clear e2 x0 x1 x2 x3 x4
    have x0 := hX.cell 0 (v := .int .i64 k) rfl
    have x1 := hX.cell 1 (v := .int .i64 n) rfl
    have x2 := hX.cell 2 (v := .string s) rfl
    have x3 := hX.cell 3 (v := .int .i64 r) rfl
    have x4 := hX.cell 4 (v := .int .i64 c) rfl
    by_cases k1 : k = 1
    · subst k1
      go_wp2
      all_goals (go_ret; exact ⟨by rewrite [← hb.out]; simp [noS, *], bb⟩)
    have f1 : (k == 1) = false := by rw [beq_eq_false_iff_ne]; exact k1
    by_cases k2 : k = 2
    · subst k2
      go_wp2
      all_goals (go_ret; exact ⟨by rewrite [← hb.out]; simp [noS, *], bb⟩)
    have f2 : (k == 2) = false := by rw [beq_eq_false_iff_ne]; exact k2
    by_cases k3 : k = 3
    · subst k3
      go_wp2
      all_goals (go_ret; exact ⟨by rewrite [← hb.out]; simp [noS, *], bb⟩)
    have f3 : (k == 3) = false := by rw [beq_eq_false_iff_ne]; exact k3
    by_cases k4 : k = 4
    · subst k4
      go_wp2
      all_goals (go_ret; exact ⟨by rewrite [← hb.out]; simp [noS, *], bb⟩)
    have f4 : (k == 4) = false := by rw [beq_eq_false_iff_ne]; exact k4
    by_cases k5 : k = 5
    · subst k5
      go_wp2
      all_goals (go_ret; exact ⟨by rewrite [← hb.out]; simp [noS, *], bb⟩)
    have f5 : (k == 5) = false := by rw [beq_eq_false_iff_ne]; exact k5
    go_wp2
    all_goals (go_ret; exact ⟨by rewrite [← hb.out]; simp [noS, *], bb⟩)
  | false =>
    by_cases k1 : k = 1
    · subst k1
      go_wp2
      all_goals (go_ret; exact ⟨by rewrite [← hb.out]; simp [noS, *], bb⟩)
    have f1 : (k == 1) = false := by rw [beq_eq_false_iff_ne]; exact k1
    by_cases k2 : k = 2
    · subst k2
      go_wp2
      all_goals (go_ret; exact ⟨by rewrite [← hb.out]; simp [noS, *], bb⟩)
    have f2 : (k == 2) = false := by rw [beq_eq_false_iff_ne]; exact k2
    by_cases k3 : k = 3
    · subst k3
      go_wp2
      all_goals (go_ret; exact ⟨by rewrite [← hb.out]; simp [noS, *], bb⟩)
    have f3 : (k == 3) = false := by rw [beq_eq_false_iff_ne]; exact k3
    by_cases k4 : k = 4
    · subst k4
      go_wp2
      all_goals (go_ret; exact ⟨by rewrite [← hb.out]; simp [noS, *], bb⟩)
    have f4 : (k == 4) = false := by rw [beq_eq_false_iff_ne]; exact k4
    by_cases k5 : k = 5
    · subst k5
      go_wp2
      all_goals (go_ret; exact ⟨by rewrite [← hb.out]; simp [noS, *], bb⟩)
    have f5 : (k == 5) = false := by rw [beq_eq_false_iff_ne]; exact k5
    go_wp2
    all_goals (go_ret; exact ⟨by rewrite [← hb.out]; simp [noS, *], bb⟩)
end Go.Proofs.Ytdmjiaicgbcodaa
