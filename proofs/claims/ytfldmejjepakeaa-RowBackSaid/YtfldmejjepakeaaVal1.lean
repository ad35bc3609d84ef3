/- Contracts of values: May, Same, Less, Zero, and the document's. -/
import Derived.Test.YtfldmejjepakeaaBytes
import Derived.WalkLawsBesides
namespace Go.Proofs.Ytfldmejjepakeaa
open Go.ChangeShapes Go.WideShapes Go.ChangeAt Go.RowKit
open Go.ChangeMaps (open_string shut_string)
set_option linter.unusedVariables false
set_option linter.unusedSimpArgs false
set_option maxRecDepth 100000

theorem str_size (l : List UInt8) : (str l).size = l.length := by rw [← ByteArray.size_data]; simp [str]

/-- May a value be? -/
def mayV (k n : Int) (l : List UInt8) : Bool := (k == 1 && l == []) || (k == 2 && (n == 0 && decide (l.length ≤ 8)))
/-- Are two alike? -/
def sameV (k n : Int) (l : List UInt8) (k' n' : Int) (l' : List UInt8) : Bool := k == k' && (n == n' && l == l')
/-- Does one stand ahead of the other? -/
def lessV (k n : Int) (l : List UInt8) (k' n' : Int) (l' : List UInt8) : Bool :=
  if k = k' then (if k = 1 then decide (n < n') else (k == 2 && Op.bytesLess l l')) else decide (k < k')

set_option maxRecDepth 100000 in
theorem val_may (k n : Int) (l : List UInt8) (w : World) : Calls Try.prog 65 #[.agg #[.int .i64 (k), .int .i64 (n), .string (str (l))]] w fun e w' => e = .returned (.bool (mayV k n l)) ∧ Below w.heap.size w w' := by
  have hz := str_size l
  have hl := str_list l
  by_cases h1 : k = 1
  · subst h1
    go_enter Try.func65, Try.ntmps65
    go_wp2
    go_ret
    exact ⟨by simp [mayV], (by repeat (first | exact Below.refl _ _ | assumption | apply below_drewN' | apply Below.drew | refine Below.alloc ?_ (by first | omega | (simp; done) | (simp; omega)) _ | refine Below.setCell ?_ (by first | omega | (simp; done) | (simp; omega)) _))⟩
  · by_cases h2 : k = 2
    · subst h2
      by_cases h3 : n = 0
      · subst h3
        go_enter Try.func65, Try.ntmps65
        go_wp2
        go_ret
        exact ⟨by simp [mayV]; omega, (by repeat (first | exact Below.refl _ _ | assumption | apply below_drewN' | apply Below.drew | refine Below.alloc ?_ (by first | omega | (simp; done) | (simp; omega)) _ | refine Below.setCell ?_ (by first | omega | (simp; done) | (simp; omega)) _))⟩
      · go_enter Try.func65, Try.ntmps65
        go_wp2
        go_ret
        exact ⟨by simp [mayV, h3], (by repeat (first | exact Below.refl _ _ | assumption | apply below_drewN' | apply Below.drew | refine Below.alloc ?_ (by first | omega | (simp; done) | (simp; omega)) _ | refine Below.setCell ?_ (by first | omega | (simp; done) | (simp; omega)) _))⟩
    · go_enter Try.func65, Try.ntmps65
      go_wp2
      go_ret
      exact ⟨by simp [mayV, h1, h2], (by repeat (first | exact Below.refl _ _ | assumption | apply below_drewN' | apply Below.drew | refine Below.alloc ?_ (by first | omega | (simp; done) | (simp; omega)) _ | refine Below.setCell ?_ (by first | omega | (simp; done) | (simp; omega)) _))⟩

set_option maxRecDepth 100000 in
theorem ref_may15 (k n : Int) (l : List UInt8) (w : World) : Calls Try.prog 66 #[.agg #[.int .i64 (k), .int .i64 (n), .string (str (l))]] w fun e w' => e = .returned (.bool (mayV k n l)) ∧ Below w.heap.size w w' := by
  have hz := str_size l
  have hl := str_list l
  by_cases h1 : k = 1
  · subst h1
    by_cases h3 : l = []
    · subst h3
      go_enter Try.func66, Try.ntmps66
      go_wp2
      go_ret
      exact ⟨by simp [mayV], (by repeat (first | exact Below.refl _ _ | assumption | apply below_drewN' | apply Below.drew | refine Below.alloc ?_ (by first | omega | (simp; done) | (simp; omega)) _ | refine Below.setCell ?_ (by first | omega | (simp; done) | (simp; omega)) _))⟩
    · have h4 : (l == []) = false := by rw [beq_eq_false_iff_ne]; exact h3
      go_enter Try.func66, Try.ntmps66
      go_wp2
      go_ret
      exact ⟨by simp [mayV, h3], (by repeat (first | exact Below.refl _ _ | assumption | apply below_drewN' | apply Below.drew | refine Below.alloc ?_ (by first | omega | (simp; done) | (simp; omega)) _ | refine Below.setCell ?_ (by first | omega | (simp; done) | (simp; omega)) _))⟩
  · by_cases h2 : k = 2
    · subst h2
      by_cases h3 : n = 0
      · subst h3
        go_enter Try.func66, Try.ntmps66
        go_wp2
        go_ret
        exact ⟨by simp [mayV]; omega, (by repeat (first | exact Below.refl _ _ | assumption | apply below_drewN' | apply Below.drew | refine Below.alloc ?_ (by first | omega | (simp; done) | (simp; omega)) _ | refine Below.setCell ?_ (by first | omega | (simp; done) | (simp; omega)) _))⟩
      · go_enter Try.func66, Try.ntmps66
        go_wp2
        go_ret
        exact ⟨by simp [mayV, h3], (by repeat (first | exact Below.refl _ _ | assumption | apply below_drewN' | apply Below.drew | refine Below.alloc ?_ (by first | omega | (simp; done) | (simp; omega)) _ | refine Below.setCell ?_ (by first | omega | (simp; done) | (simp; omega)) _))⟩
    · go_enter Try.func66, Try.ntmps66
      go_wp2
      go_ret
      exact ⟨by simp [mayV, h1, h2], (by repeat (first | exact Below.refl _ _ | assumption | apply below_drewN' | apply Below.drew | refine Below.alloc ?_ (by first | omega | (simp; done) | (simp; omega)) _ | refine Below.setCell ?_ (by first | omega | (simp; done) | (simp; omega)) _))⟩

set_option maxRecDepth 100000 in
theorem val_same (k n : Int) (l : List UInt8) (k' n' : Int) (l' : List UInt8) (w : World) : Calls Try.prog 34 #[.agg #[.int .i64 (k), .int .i64 (n), .string (str (l))], .agg #[.int .i64 (k'), .int .i64 (n'), .string (str (l'))]] w fun e w' => e = .returned (.bool (sameV k n l k' n' l')) ∧ Below w.heap.size w w' := by
  have hl := str_list l
  have hl' := str_list l'
  by_cases h1 : k = k'
  · subst h1
    by_cases h2 : n = n'
    · subst h2
      by_cases h3 : l = l'
      · subst h3
        go_enter Try.func34, Try.ntmps34
        go_wp2
        go_ret
        exact ⟨by simp [sameV], (by repeat (first | exact Below.refl _ _ | assumption | apply below_drewN' | apply Below.drew | refine Below.alloc ?_ (by first | omega | (simp; done) | (simp; omega)) _ | refine Below.setCell ?_ (by first | omega | (simp; done) | (simp; omega)) _))⟩
      · have h4 : (l == l') = false := by rw [beq_eq_false_iff_ne]; exact h3
        go_enter Try.func34, Try.ntmps34
        go_wp2
        go_ret
        exact ⟨by simp [sameV, h4], (by repeat (first | exact Below.refl _ _ | assumption | apply below_drewN' | apply Below.drew | refine Below.alloc ?_ (by first | omega | (simp; done) | (simp; omega)) _ | refine Below.setCell ?_ (by first | omega | (simp; done) | (simp; omega)) _))⟩
    · have h4 : (n == n') = false := by rw [beq_eq_false_iff_ne]; exact h2
      go_enter Try.func34, Try.ntmps34
      go_wp2
      go_ret
      exact ⟨by simp [sameV, h4], (by repeat (first | exact Below.refl _ _ | assumption | apply below_drewN' | apply Below.drew | refine Below.alloc ?_ (by first | omega | (simp; done) | (simp; omega)) _ | refine Below.setCell ?_ (by first | omega | (simp; done) | (simp; omega)) _))⟩
  · have h4 : (k == k') = false := by rw [beq_eq_false_iff_ne]; exact h1
    go_enter Try.func34, Try.ntmps34
    go_wp2
    go_ret
    exact ⟨by simp [sameV, h4], (by repeat (first | exact Below.refl _ _ | assumption | apply below_drewN' | apply Below.drew | refine Below.alloc ?_ (by first | omega | (simp; done) | (simp; omega)) _ | refine Below.setCell ?_ (by first | omega | (simp; done) | (simp; omega)) _))⟩

set_option maxRecDepth 100000 in
theorem ref_same (k n : Int) (l : List UInt8) (k' n' : Int) (l' : List UInt8) (w : World) : Calls Try.prog 74 #[.agg #[.int .i64 (k), .int .i64 (n), .string (str (l))], .agg #[.int .i64 (k'), .int .i64 (n'), .string (str (l'))]] w fun e w' => e = .returned (.bool (sameV k n l k' n' l')) ∧ Below w.heap.size w w' := by
  have hl := str_list l
  have hl' := str_list l'
  by_cases h1 : k = k'
  · subst h1
    by_cases h2 : n = n'
    · subst h2
      go_enter Try.func74, Try.ntmps74
      go_wp2
      go_ret
      exact ⟨by simp [sameV], (by repeat (first | exact Below.refl _ _ | assumption | apply below_drewN' | apply Below.drew | refine Below.alloc ?_ (by first | omega | (simp; done) | (simp; omega)) _ | refine Below.setCell ?_ (by first | omega | (simp; done) | (simp; omega)) _))⟩
    · have h4 : (n == n') = false := by rw [beq_eq_false_iff_ne]; exact h2
      go_enter Try.func74, Try.ntmps74
      go_wp2
      go_ret
      exact ⟨by simp [sameV, h4], (by repeat (first | exact Below.refl _ _ | assumption | apply below_drewN' | apply Below.drew | refine Below.alloc ?_ (by first | omega | (simp; done) | (simp; omega)) _ | refine Below.setCell ?_ (by first | omega | (simp; done) | (simp; omega)) _))⟩
  · have h4 : (k == k') = false := by rw [beq_eq_false_iff_ne]; exact h1
    go_enter Try.func74, Try.ntmps74
    go_wp2
    go_ret
    exact ⟨by simp [sameV, h4], (by repeat (first | exact Below.refl _ _ | assumption | apply below_drewN' | apply Below.drew | refine Below.alloc ?_ (by first | omega | (simp; done) | (simp; omega)) _ | refine Below.setCell ?_ (by first | omega | (simp; done) | (simp; omega)) _))⟩

set_option maxRecDepth 100000 in
theorem val_less (k n : Int) (l : List UInt8) (k' n' : Int) (l' : List UInt8) (w : World) : Calls Try.prog 33 #[.agg #[.int .i64 (k), .int .i64 (n), .string (str (l))], .agg #[.int .i64 (k'), .int .i64 (n'), .string (str (l'))]] w fun e w' => e = .returned (.bool (lessV k n l k' n' l')) ∧ Below w.heap.size w w' := by
  have hl := str_list l
  have hl' := str_list l'
  by_cases h1 : k = k'
  · subst h1
    by_cases h2 : k = 1
    · subst h2
      go_enter Try.func33, Try.ntmps33
      go_wp2
      go_ret
      exact ⟨by simp [lessV], (by repeat (first | exact Below.refl _ _ | assumption | apply below_drewN' | apply Below.drew | refine Below.alloc ?_ (by first | omega | (simp; done) | (simp; omega)) _ | refine Below.setCell ?_ (by first | omega | (simp; done) | (simp; omega)) _))⟩
    · by_cases h3 : k = 2
      · subst h3
        go_enter Try.func33, Try.ntmps33
        go_wp2
        go_ret
        exact ⟨by simp [lessV], (by repeat (first | exact Below.refl _ _ | assumption | apply below_drewN' | apply Below.drew | refine Below.alloc ?_ (by first | omega | (simp; done) | (simp; omega)) _ | refine Below.setCell ?_ (by first | omega | (simp; done) | (simp; omega)) _))⟩
      · go_enter Try.func33, Try.ntmps33
        go_wp2
        go_ret
        exact ⟨by simp [lessV, h2, h3], (by repeat (first | exact Below.refl _ _ | assumption | apply below_drewN' | apply Below.drew | refine Below.alloc ?_ (by first | omega | (simp; done) | (simp; omega)) _ | refine Below.setCell ?_ (by first | omega | (simp; done) | (simp; omega)) _))⟩
  · go_enter Try.func33, Try.ntmps33
    go_wp2
    go_ret
    exact ⟨by simp [lessV, h1], (by repeat (first | exact Below.refl _ _ | assumption | apply below_drewN' | apply Below.drew | refine Below.alloc ?_ (by first | omega | (simp; done) | (simp; omega)) _ | refine Below.setCell ?_ (by first | omega | (simp; done) | (simp; omega)) _))⟩
theorem val_zero (k : Int) (w : World) : Calls Try.prog 60 #[.int .i64 k] w fun e w' => e = .returned (.agg #[.int .i64 (k), .int .i64 (0), .string (str ([]))]) ∧ Below w.heap.size w w' := by
  go_enter Try.func60, Try.ntmps60
  go_wp2
  refine bodyPost_ret (v := .agg #[.int .i64 (k), .int .i64 (0), .string (str ([]))]) (by simp [results, Try.results60, go_sem, str]) rfl ⟨rfl, (by repeat (first | exact Below.refl _ _ | assumption | apply below_drewN' | apply Below.drew | refine Below.alloc ?_ (by first | omega | (simp; done) | (simp; omega)) _ | refine Below.setCell ?_ (by first | omega | (simp; done) | (simp; omega)) _))⟩
end Go.Proofs.Ytfldmejjepakeaa
