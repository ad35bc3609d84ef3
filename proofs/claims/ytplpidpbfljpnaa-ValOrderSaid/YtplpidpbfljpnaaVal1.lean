/- Contracts of values: May, Same, Less, Zero, and the document's. -/
import Derived.Test.YtplpidpbfljpnaaBytes
import Derived.WalkLawsBesides
namespace Go.Proofs.Ytplpidpbfljpnaa
open Go.ChangeShapes Go.WideShapes Go.ChangeAt Go.RowKit
open Go.ChangeMaps (open_string shut_string)
set_option linter.unusedVariables false
set_option linter.unusedSimpArgs false

theorem str_size (l : List UInt8) : (str l).size = l.length := by rw [← ByteArray.size_data]; simp [str]

/-- May a value be? -/
def mayV (k n : Int) (l : List UInt8) : Bool := (k == 1 && l == []) || (k == 2 && (n == 0 && decide (l.length ≤ 8)))
/-- Are two alike? -/
def sameV (k n : Int) (l : List UInt8) (k' n' : Int) (l' : List UInt8) : Bool := k == k' && (n == n' && l == l')
/-- Does one stand ahead of the other? -/
def lessV (k n : Int) (l : List UInt8) (k' n' : Int) (l' : List UInt8) : Bool :=
  if k = k' then (if k = 1 then decide (n < n') else (k == 2 && Op.bytesLess l l')) else decide (k < k')

set_option maxRecDepth 100000 in
theorem val_may (k n : Int) (l : List UInt8) (w : World) : Calls Try.prog 19 #[.agg #[.int .i64 (k), .int .i64 (n), .string (str (l))]] w fun e w' => e = .returned (.bool (mayV k n l)) ∧ Below w.heap.size w w' := by
  have hz := str_size l
  have hl := str_list l
  by_cases h1 : k = 1
  · subst h1
    go_enter Try.func19, Try.ntmps19
    go_wp2
    go_ret
    exact ⟨by simp [mayV], (by repeat (first | exact Below.refl _ _ | assumption | apply below_drewN' | apply Below.drew | refine Below.alloc ?_ (by first | omega | (simp; done) | (simp; omega)) _ | refine Below.setCell ?_ (by first | omega | (simp; done) | (simp; omega)) _))⟩
  · by_cases h2 : k = 2
    · subst h2
      by_cases h3 : n = 0
      · subst h3
        go_enter Try.func19, Try.ntmps19
        go_wp2
        go_ret
        exact ⟨by simp [mayV]; omega, (by repeat (first | exact Below.refl _ _ | assumption | apply below_drewN' | apply Below.drew | refine Below.alloc ?_ (by first | omega | (simp; done) | (simp; omega)) _ | refine Below.setCell ?_ (by first | omega | (simp; done) | (simp; omega)) _))⟩
      · go_enter Try.func19, Try.ntmps19
        go_wp2
        go_ret
        exact ⟨by simp [mayV, h3], (by repeat (first | exact Below.refl _ _ | assumption | apply below_drewN' | apply Below.drew | refine Below.alloc ?_ (by first | omega | (simp; done) | (simp; omega)) _ | refine Below.setCell ?_ (by first | omega | (simp; done) | (simp; omega)) _))⟩
    · go_enter Try.func19, Try.ntmps19
      go_wp2
      go_ret
      exact ⟨by simp [mayV, h1, h2], (by repeat (first | exact Below.refl _ _ | assumption | apply below_drewN' | apply Below.drew | refine Below.alloc ?_ (by first | omega | (simp; done) | (simp; omega)) _ | refine Below.setCell ?_ (by first | omega | (simp; done) | (simp; omega)) _))⟩

set_option maxRecDepth 100000 in
theorem ref_may15 (k n : Int) (l : List UInt8) (w : World) : Calls Try.prog 26 #[.agg #[.int .i64 (k), .int .i64 (n), .string (str (l))]] w fun e w' => e = .returned (.bool (mayV k n l)) ∧ Below w.heap.size w w' := by
  have hz := str_size l
  have hl := str_list l
  by_cases h1 : k = 1
  · subst h1
    by_cases h3 : l = []
    · subst h3
      go_enter Try.func26, Try.ntmps26
      go_wp2
      go_ret
      exact ⟨by simp [mayV], (by repeat (first | exact Below.refl _ _ | assumption | apply below_drewN' | apply Below.drew | refine Below.alloc ?_ (by first | omega | (simp; done) | (simp; omega)) _ | refine Below.setCell ?_ (by first | omega | (simp; done) | (simp; omega)) _))⟩
    · have h4 : (l == []) = false := by rw [beq_eq_false_iff_ne]; exact h3
      go_enter Try.func26, Try.ntmps26
      go_wp2
      go_ret
      exact ⟨by simp [mayV, h3], (by repeat (first | exact Below.refl _ _ | assumption | apply below_drewN' | apply Below.drew | refine Below.alloc ?_ (by first | omega | (simp; done) | (simp; omega)) _ | refine Below.setCell ?_ (by first | omega | (simp; done) | (simp; omega)) _))⟩
  · by_cases h2 : k = 2
    · subst h2
      by_cases h3 : n = 0
      · subst h3
        go_enter Try.func26, Try.ntmps26
        go_wp2
        go_ret
        exact ⟨by simp [mayV]; omega, (by repeat (first | exact Below.refl _ _ | assumption | apply below_drewN' | apply Below.drew | refine Below.alloc ?_ (by first | omega | (simp; done) | (simp; omega)) _ | refine Below.setCell ?_ (by first | omega | (simp; done) | (simp; omega)) _))⟩
      · go_enter Try.func26, Try.ntmps26
        go_wp2
        go_ret
        exact ⟨by simp [mayV, h3], (by repeat (first | exact Below.refl _ _ | assumption | apply below_drewN' | apply Below.drew | refine Below.alloc ?_ (by first | omega | (simp; done) | (simp; omega)) _ | refine Below.setCell ?_ (by first | omega | (simp; done) | (simp; omega)) _))⟩
    · go_enter Try.func26, Try.ntmps26
      go_wp2
      go_ret
      exact ⟨by simp [mayV, h1, h2], (by repeat (first | exact Below.refl _ _ | assumption | apply below_drewN' | apply Below.drew | refine Below.alloc ?_ (by first | omega | (simp; done) | (simp; omega)) _ | refine Below.setCell ?_ (by first | omega | (simp; done) | (simp; omega)) _))⟩

set_option maxRecDepth 100000 in
theorem val_same (k n : Int) (l : List UInt8) (k' n' : Int) (l' : List UInt8) (w : World) : Calls Try.prog 21 #[.agg #[.int .i64 (k), .int .i64 (n), .string (str (l))], .agg #[.int .i64 (k'), .int .i64 (n'), .string (str (l'))]] w fun e w' => e = .returned (.bool (sameV k n l k' n' l')) ∧ Below w.heap.size w w' := by
  have hl := str_list l
  have hl' := str_list l'
  by_cases h1 : k = k'
  · subst h1
    by_cases h2 : n = n'
    · subst h2
      by_cases h3 : l = l'
      · subst h3
        go_enter Try.func21, Try.ntmps21
        go_wp2
        go_ret
        exact ⟨by simp [sameV], (by repeat (first | exact Below.refl _ _ | assumption | apply below_drewN' | apply Below.drew | refine Below.alloc ?_ (by first | omega | (simp; done) | (simp; omega)) _ | refine Below.setCell ?_ (by first | omega | (simp; done) | (simp; omega)) _))⟩
      · have h4 : (l == l') = false := by rw [beq_eq_false_iff_ne]; exact h3
        go_enter Try.func21, Try.ntmps21
        go_wp2
        go_ret
        exact ⟨by simp [sameV, h4], (by repeat (first | exact Below.refl _ _ | assumption | apply below_drewN' | apply Below.drew | refine Below.alloc ?_ (by first | omega | (simp; done) | (simp; omega)) _ | refine Below.setCell ?_ (by first | omega | (simp; done) | (simp; omega)) _))⟩
    · have h4 : (n == n') = false := by rw [beq_eq_false_iff_ne]; exact h2
      go_enter Try.func21, Try.ntmps21
      go_wp2
      go_ret
      exact ⟨by simp [sameV, h4], (by repeat (first | exact Below.refl _ _ | assumption | apply below_drewN' | apply Below.drew | refine Below.alloc ?_ (by first | omega | (simp; done) | (simp; omega)) _ | refine Below.setCell ?_ (by first | omega | (simp; done) | (simp; omega)) _))⟩
  · have h4 : (k == k') = false := by rw [beq_eq_false_iff_ne]; exact h1
    go_enter Try.func21, Try.ntmps21
    go_wp2
    go_ret
    exact ⟨by simp [sameV, h4], (by repeat (first | exact Below.refl _ _ | assumption | apply below_drewN' | apply Below.drew | refine Below.alloc ?_ (by first | omega | (simp; done) | (simp; omega)) _ | refine Below.setCell ?_ (by first | omega | (simp; done) | (simp; omega)) _))⟩

set_option maxRecDepth 100000 in
theorem ref_same (k n : Int) (l : List UInt8) (k' n' : Int) (l' : List UInt8) (w : World) : Calls Try.prog 27 #[.agg #[.int .i64 (k), .int .i64 (n), .string (str (l))], .agg #[.int .i64 (k'), .int .i64 (n'), .string (str (l'))]] w fun e w' => e = .returned (.bool (sameV k n l k' n' l')) ∧ Below w.heap.size w w' := by
  have hl := str_list l
  have hl' := str_list l'
  by_cases h1 : k = k'
  · subst h1
    by_cases h2 : n = n'
    · subst h2
      go_enter Try.func27, Try.ntmps27
      go_wp2
      go_ret
      exact ⟨by simp [sameV], (by repeat (first | exact Below.refl _ _ | assumption | apply below_drewN' | apply Below.drew | refine Below.alloc ?_ (by first | omega | (simp; done) | (simp; omega)) _ | refine Below.setCell ?_ (by first | omega | (simp; done) | (simp; omega)) _))⟩
    · have h4 : (n == n') = false := by rw [beq_eq_false_iff_ne]; exact h2
      go_enter Try.func27, Try.ntmps27
      go_wp2
      go_ret
      exact ⟨by simp [sameV, h4], (by repeat (first | exact Below.refl _ _ | assumption | apply below_drewN' | apply Below.drew | refine Below.alloc ?_ (by first | omega | (simp; done) | (simp; omega)) _ | refine Below.setCell ?_ (by first | omega | (simp; done) | (simp; omega)) _))⟩
  · have h4 : (k == k') = false := by rw [beq_eq_false_iff_ne]; exact h1
    go_enter Try.func27, Try.ntmps27
    go_wp2
    go_ret
    exact ⟨by simp [sameV, h4], (by repeat (first | exact Below.refl _ _ | assumption | apply below_drewN' | apply Below.drew | refine Below.alloc ?_ (by first | omega | (simp; done) | (simp; omega)) _ | refine Below.setCell ?_ (by first | omega | (simp; done) | (simp; omega)) _))⟩

set_option maxRecDepth 100000 in
theorem val_less (k n : Int) (l : List UInt8) (k' n' : Int) (l' : List UInt8) (w : World) : Calls Try.prog 20 #[.agg #[.int .i64 (k), .int .i64 (n), .string (str (l))], .agg #[.int .i64 (k'), .int .i64 (n'), .string (str (l'))]] w fun e w' => e = .returned (.bool (lessV k n l k' n' l')) ∧ Below w.heap.size w w' := by
  have hl := str_list l
  have hl' := str_list l'
  by_cases h1 : k = k'
  · subst h1
    by_cases h2 : k = 1
    · subst h2
      go_enter Try.func20, Try.ntmps20
      go_wp2
      go_ret
      exact ⟨by simp [lessV], (by repeat (first | exact Below.refl _ _ | assumption | apply below_drewN' | apply Below.drew | refine Below.alloc ?_ (by first | omega | (simp; done) | (simp; omega)) _ | refine Below.setCell ?_ (by first | omega | (simp; done) | (simp; omega)) _))⟩
    · by_cases h3 : k = 2
      · subst h3
        go_enter Try.func20, Try.ntmps20
        go_wp2
        go_ret
        exact ⟨by simp [lessV], (by repeat (first | exact Below.refl _ _ | assumption | apply below_drewN' | apply Below.drew | refine Below.alloc ?_ (by first | omega | (simp; done) | (simp; omega)) _ | refine Below.setCell ?_ (by first | omega | (simp; done) | (simp; omega)) _))⟩
      · go_enter Try.func20, Try.ntmps20
        go_wp2
        go_ret
        exact ⟨by simp [lessV, h2, h3], (by repeat (first | exact Below.refl _ _ | assumption | apply below_drewN' | apply Below.drew | refine Below.alloc ?_ (by first | omega | (simp; done) | (simp; omega)) _ | refine Below.setCell ?_ (by first | omega | (simp; done) | (simp; omega)) _))⟩
  · go_enter Try.func20, Try.ntmps20
    go_wp2
    go_ret
    exact ⟨by simp [lessV, h1], (by repeat (first | exact Below.refl _ _ | assumption | apply below_drewN' | apply Below.drew | refine Below.alloc ?_ (by first | omega | (simp; done) | (simp; omega)) _ | refine Below.setCell ?_ (by first | omega | (simp; done) | (simp; omega)) _))⟩
set_option maxRecDepth 100000 in
theorem ref_less15 (k n : Int) (l : List UInt8) (k' n' : Int) (l' : List UInt8) (w : World) : Calls Try.prog 28 #[.agg #[.int .i64 (k), .int .i64 (n), .string (str (l))], .agg #[.int .i64 (k'), .int .i64 (n'), .string (str (l'))]] w fun e w' => e = .returned (.bool (lessV k n l k' n' l')) ∧ Below w.heap.size w w' := by
  have hl := str_list l
  have hl' := str_list l'
  by_cases h1 : k = k'
  · subst h1
    by_cases h2 : k = 1
    · subst h2
      go_enter Try.func28, Try.ntmps28
      go_wp2
      go_ret
      exact ⟨by simp [lessV], (by repeat (first | exact Below.refl _ _ | assumption | apply below_drewN' | apply Below.drew | refine Below.alloc ?_ (by first | omega | (simp; done) | (simp; omega)) _ | refine Below.setCell ?_ (by first | omega | (simp; done) | (simp; omega)) _))⟩
    · by_cases h3 : k = 2
      · subst h3
        go_enter Try.func28, Try.ntmps28
        go_wp2
        go_ret
        exact ⟨by simp [lessV], (by repeat (first | exact Below.refl _ _ | assumption | apply below_drewN' | apply Below.drew | refine Below.alloc ?_ (by first | omega | (simp; done) | (simp; omega)) _ | refine Below.setCell ?_ (by first | omega | (simp; done) | (simp; omega)) _))⟩
      · go_enter Try.func28, Try.ntmps28
        go_wp2
        go_ret
        exact ⟨by simp [lessV, h2, h3], (by repeat (first | exact Below.refl _ _ | assumption | apply below_drewN' | apply Below.drew | refine Below.alloc ?_ (by first | omega | (simp; done) | (simp; omega)) _ | refine Below.setCell ?_ (by first | omega | (simp; done) | (simp; omega)) _))⟩
  · go_enter Try.func28, Try.ntmps28
    go_wp2
    go_ret
    exact ⟨by simp [lessV, h1], (by repeat (first | exact Below.refl _ _ | assumption | apply below_drewN' | apply Below.drew | refine Below.alloc ?_ (by first | omega | (simp; done) | (simp; omega)) _ | refine Below.setCell ?_ (by first | omega | (simp; done) | (simp; omega)) _))⟩

theorem val_zero (k : Int) (w : World) : Calls Try.prog 29 #[.int .i64 k] w fun e w' => e = .returned (.agg #[.int .i64 (k), .int .i64 (0), .string (str ([]))]) ∧ Below w.heap.size w w' := by
  go_enter Try.func29, Try.ntmps29
  go_wp2
  refine bodyPost_ret (v := .agg #[.int .i64 (k), .int .i64 (0), .string (str ([]))]) (by simp [results, Try.results29, go_sem, str]) rfl ⟨rfl, (by repeat (first | exact Below.refl _ _ | assumption | apply below_drewN' | apply Below.drew | refine Below.alloc ?_ (by first | omega | (simp; done) | (simp; omega)) _ | refine Below.setCell ?_ (by first | omega | (simp; done) | (simp; omega)) _))⟩
end Go.Proofs.Ytplpidpbfljpnaa
