/- Contracts of package prog: arguments. -/
import Derived.Test.YtdmjiaicgbcodaaPgB
namespace Go.Proofs.Ytdmjiaicgbcodaa
open Go.ChangeShapes Go.WideShapes Go.ChangeAt Go.RowKit
open Go.ChangeMaps (open_string shut_string)
set_option linter.unusedVariables false
set_option linter.unusedSimpArgs false

theorem prog_notExpr (e : ExprR) (b : Bool) (w : World) (hb : mayE e = b) : Calls Try.prog 94 #[.agg #[.int .i64 e.k, .int .i64 e.n, .string e.s, .int .i64 e.r, .int .i64 e.c]] w fun x w' => x = .returned (.bool !b) ∧ Below w.heap.size w w' := by
  have HE := Lib.hid (fun w => prog_mayExpr e b w hb)
  clear hb
  have bb : Below w.heap.size w (w.alloc (.cells #[.int .i64 e.k, .int .i64 e.n, .string e.s, .int .i64 e.r, .int .i64 e.c] 67)) := (by repeat (first | exact Below.refl _ _ | assumption | apply below_drewN' | apply Below.drew | refine Below.alloc ?_ (by first | omega | (simp; done) | (simp; omega)) _ | refine Below.setCell ?_ (by first | omega | (simp; done) | (simp; omega)) _))
  go_enter Try.func94, Try.ntmps94
  go_wp2_with fail
  refine (HE.out _).mono ?_
  rintro x w2 ⟨rfl, hb⟩
  go_wp2
  go_ret
  exact ⟨rfl, bnext bb hb⟩
/-- The first that may not be, or -1. -/
def Idx (E : List ExprR) (r : Int) : Prop := if E.all mayE = true then r = -1 else 0 ≤ r ∧ r ≤ 9223372036854775807
theorem all_no {E : List ExprR} {e : ExprR} {k : Nat} (h : E[k]? = some e) (hm : mayE e = false) : E.all mayE = false := by
  rw [List.all_eq_false]
  exact ⟨e, List.mem_of_getElem? h, by rw [hm]; simp⟩
theorem all_yes {E : List ExprR} (h : ∀ (i : Nat) (e : ExprR), i < E.length → E[i]? = some e → mayE e = true) : E.all mayE = true := by
  rw [List.all_eq_true]
  intro e he
  obtain ⟨i, hi⟩ := List.mem_iff_getElem?.1 he
  exact h i e (List.getElem?_eq_some_iff.1 hi).1 hi
set_option maxHeartbeats 1000000 in
set_option maxRecDepth 100000 in
theorem prog_index (A : Option Addr) (n c : Nat) (E : List ExprR) (w : World) (h : RE w A n c E) : Calls Try.prog 99 #[.slice A n c, .func (.func 94) #[] #[]] w fun x w' => ∃ r, x = .returned (.int .i64 r) ∧ Idx E r ∧ Below w.heap.size w w' := by
  have hLn := h.len
  have hnm : n ≤ maxLen := Nat.le_trans h.cap h.max
  unfold maxLen at hnm
  go_enter Try.func99, Try.ntmps99
  go_wp2
  go_loopw [8] (fun i wr => ∃ k : Nat, k ≤ n ∧ i = .int .i64 k ∧ Below w.heap.size w wr ∧ Hid (∀ (i : Nat) (e : ExprR), i < k → E[i]? = some e → mayE e = true)) (fun i _ => n - (intOf i).toNat)
  case atStart => exact ⟨0, by omega, rfl, (by repeat (first | exact Below.refl _ _ | assumption | apply below_drewN' | apply Below.drew | refine Below.alloc ?_ (by first | omega | (simp; done) | (simp; omega)) _ | refine Below.setCell ?_ (by first | omega | (simp; done) | (simp; omega)) _)), Lib.hid (fun i e hi => absurd hi (by omega))⟩
  case round =>
    obtain ⟨k, hk, rfl, bl, hall⟩ := hrel
    by_cases hlt : k < n
    · obtain ⟨q, hq⟩ : ∃ q, E[k]? = some q := ⟨_, List.getElem?_eq_getElem (by omega)⟩
      obtain ⟨g, o, rfl, hc⟩ := (h.below bl).at_ (by omega)
      have hcs := hc k q hq
      obtain ⟨b, hb⟩ : ∃ b, mayE q = b := ⟨_, rfl⟩
      have HF := Lib.hid (fun w => prog_notExpr q b w hb)
      have o0 : wr.cell? ⟨g, o + k * 5, none⟩ = some (.int .i64 q.k) := hcs 0 (.int .i64 q.k) rfl
      have o1 := hcs 1 (.int .i64 q.n) rfl
      have o2 := hcs 2 (.string q.s) rfl
      have o3 := hcs 3 (.int .i64 q.r) rfl
      have o4 := hcs 4 (.int .i64 q.c) rfl
      have hbh := Lib.hid hb
      have hqh := Lib.hid hq
      clear hcs hc hb hq
      go_wp2_with fail
      refine (HF.out _).mono ?_
      rintro x w2 ⟨rfl, hb2⟩
      replace bl := bnext bl hb2
      cases b with
      | true =>
        go_wp2
        go_roundw
        case rel =>
          refine ⟨k + 1, by omega, by go_num, bl, Lib.hid fun i e hi he => ?_⟩
          by_cases ei : i = k
          · subst ei; rw [hqh.out] at he; injection he with he; rw [← he]; exact hbh.out
          · exact hall.out i e (by omega) he
        case measure => simp [intOf]; omega
      | false =>
        have hno := Lib.hid (all_no hqh.out hbh.out)
        go_wp2
        go_ret
        exact ⟨k, rfl, by unfold Idx; rw [hno.out]; simp only [Bool.false_eq_true, if_false]; omega, bl⟩
    · have hkn : n = k := by omega
      subst hkn
      have hyes := Lib.hid (all_yes (E := E) (fun i e hi he => hall.out i e (by omega) he))
      go_wp2
      go_ret
      exact ⟨-1, rfl, by unfold Idx; rw [if_pos hyes.out], bl⟩
theorem prog_contains (A : Option Addr) (n c : Nat) (E : List ExprR) (w : World) (h : RE w A n c E) : Calls Try.prog 93 #[.slice A n c, .func (.func 94) #[] #[]] w fun x w' => x = .returned (.bool !(E.all mayE)) ∧ Below w.heap.size w w' := by
  have HI := Lib.hid (fun w h => prog_index A n c E w h)
  obtain ⟨b, hb⟩ : ∃ b, E.all mayE = b := ⟨_, rfl⟩
  rw [hb]
  go_enter Try.func93, Try.ntmps93
  go_wp2_with fail
  refine (HI.out _ h).mono ?_
  rintro x w2 ⟨r, rfl, hr, hb2⟩
  unfold Idx at hr
  rw [hb] at hr
  cases b with
  | true =>
    rw [if_pos rfl] at hr
    subst hr
    go_wp2
    go_ret
    exact ⟨rfl, hb2⟩
  | false =>
    rw [if_neg (by simp)] at hr
    go_wp2
    go_ret
    exact ⟨rfl, hb2⟩
end Go.Proofs.Ytdmjiaicgbcodaa
