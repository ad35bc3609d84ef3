/- The document's source of nonces: Next. -/
import Derived.Test.YtplpidpbfljpnaaPlain5
import Derived.Test.YtplpidpbfljpnaaFacts
import Derived.Test.YtplpidpbfljpnaaLawNonce1
namespace Go.Proofs.Ytplpidpbfljpnaa
open Go.ChangeShapes Go.WideShapes Go.ChangeAt Go.RowKit
open Go.ChangeMaps (open_string shut_string)
set_option linter.unusedVariables false
set_option linter.unusedSimpArgs false

set_option maxRecDepth 100000 in
theorem rnext_none (g : Nat) (gen count : Int) (w : World) (hs : Blk w g (src gen count count) 51) :
    Calls Try.prog 32 #[.pointer (some ⟨g, 0, none⟩)] w fun e w' => e = .returned (.tuple #[.agg #[.int .i64 0, .int .i64 0], .int .i64 11]) ∧ Blk w' g (src gen count count) 51 ∧ Keeps (· = g) w w' := by
  have hs1 := hs.alloc (.cells #[.int .i64 0, .int .i64 0] 49)
  have c1 := hs1.cell 1 (v := .int .i64 count) rfl
  have c2 := hs1.cell 2 (v := .int .i64 count) rfl
  have hlt := hs.lt
  go_enter Try.func32, Try.ntmps32
  go_wp2_with fail
  go_quiet (fail)
  go_wp2
  refine bodyPost_ret (v := .tuple #[.agg #[.int .i64 0, .int .i64 0], .int .i64 11]) (by simp [results, Try.results32, go_sem]) rfl ⟨rfl, ?_, ?_⟩
  · exact (((hs.alloc _).drewN _).other (by simp; omega) _).other (by simp; omega) _
  · exact ((((Keeps.refl _ _).alloc _).drewN _).setCell (.inr (by simp)) _).setCell (.inr (by simp)) _

set_option maxHeartbeats 2000000 in
set_option maxRecDepth 100000 in
theorem rnext_some (g : Nat) (gen count most : Int) (w : World) (hs : Blk w g (src gen count most) 51) (h0 : 0 ≤ count) (h1 : count < most) (h2 : most ≤ 1099511627776) :
    Calls Try.prog 32 #[.pointer (some ⟨g, 0, none⟩)] w fun e w' => e = .returned (.tuple #[.agg #[.int .i64 gen, .int .i64 count], .int .i64 0]) ∧ Blk w' g (src gen (count + 1) most) 51 ∧ Keeps (· = g) w w' := by
  have hs1 := hs.alloc (.cells #[.int .i64 0, .int .i64 0] 49)
  have e0 : (count == most) = false := by rw [beq_eq_false_iff_ne]; omega
  have c0 := hs1.cell 0 (v := .int .i64 gen) rfl
  have c1 := hs1.cell 1 (v := .int .i64 count) rfl
  have c2 := hs1.cell 2 (v := .int .i64 most) rfl
  have fz := hs1.fz 1
  have hlt := hs.lt
  go_enter Try.func32, Try.ntmps32
  go_wp2_with fail
  go_quiet (fail)
  go_wp2
  refine bodyPost_ret (v := .tuple #[.agg #[.int .i64 gen, .int .i64 count], .int .i64 0]) (by simp [results, Try.results32, go_sem]) rfl ⟨rfl, ?_, ?_⟩
  · exact ((((((hs.alloc _).drewN _).set 1 _).other (by simp; omega) _).other (by simp; omega) _).alloc _)
  · exact (by repeat (first | exact Keeps.refl _ _ | assumption | apply Keeps.drewN | apply Keeps.drew | apply Keeps.alloc | refine Keeps.setCell ?_ (by first | (left; rfl) | (right; omega) | (right; simp; done) | (right; simp; omega)) _))

end Go.Proofs.Ytplpidpbfljpnaa
