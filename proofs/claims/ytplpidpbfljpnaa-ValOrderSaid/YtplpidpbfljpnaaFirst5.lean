/- The chapter's examples hold: what 'first' of chapter 5 tells. -/
import Derived.Test.YtplpidpbfljpnaaNonce
namespace Go.Proofs.Ytplpidpbfljpnaa
open Go.ChangeShapes Go.WideShapes Go.ChangeAt Go.RowKit
open Go.ChangeMaps (open_string shut_string)
set_option linter.unusedVariables false
set_option linter.unusedSimpArgs false

theorem first5_calls (w : World) : Calls Try.prog 13 #[] w fun e w' => e = .returned (.bool true) ∧ Below w.heap.size w w' := by
  have hs0 := Blk.new w (src 2 0 1099511627776) 32
  have hfn := fun w => from_none 0 w (by rfl)
  go_enter Try.func13, Try.ntmps13
  go_wp2_with fail
  refine (from_some 2 _ (by omega) (by omega)).mono ?_
  rintro e w' ⟨rfl, rfl⟩
  go_wp2_with fail
  refine (next_some _ 2 0 1099511627776 _ hs0 (by omega) (by omega) (by omega)).mono ?_
  rintro e w1 ⟨rfl, hs1, hk1⟩
  have b1 : Below w.heap.size w w1 := ((Below.refl w.heap.size w).alloc (Nat.le_refl _) _).keeps hk1 (by omega) (Nat.le_refl _)
  go_wp2_with fail
  have hlt1 := hs1.lt
  refine (next_some _ 2 (0 + 1) 1099511627776 _ (hs1.alloc _) (by omega) (by omega) (by omega)).mono ?_
  rintro e w2 ⟨rfl, hs2, hk2⟩
  have hb2 := (Blk.new w1 #[.int .i64 2, .int .i64 0] 27).keeps hk2 (by omega)
  have d0 := hb2.cell 0 (v := .int .i64 2) rfl
  have d1 := hb2.cell 1 (v := .int .i64 0) rfl
  have s1 := hs2.cell 1 (v := .int .i64 2) rfl
  have z2 := hb2.lt
  have z3 := hs2.lt
  have b2 : Below w.heap.size w w2 := (b1.alloc b1.size _).keeps hk2 (by omega) (Nat.le_refl _)
  have q2 := b2.size
  go_wp2_with (go_at_call 31; refine (hfn _).mono ?_; rintro e w' ⟨rfl, rfl⟩)
  go_ret
  exact ⟨rfl, (by repeat (first | exact Below.refl _ _ | assumption | apply below_drewN' | apply Below.drew | refine Below.alloc ?_ (by first | omega | (simp; done) | (simp; omega)) _ | refine Below.setCell ?_ (by first | omega | (simp; done) | (simp; omega)) _))⟩

end Go.Proofs.Ytplpidpbfljpnaa
