/- The statement NonceOrder, for every three nonces: of two that may be one is less just as its bytes are; of three the order goes through. -/
import Derived.Test.YtplpidpbfljpnaaLawOrder5
import Derived.Lib.SmallJoins
namespace Go.Proofs.Ytplpidpbfljpnaa
open Go.ChangeShapes Go.WideShapes Go.ChangeAt Go.RowKit
open Go.ChangeMaps (open_string shut_string)
set_option linter.unusedVariables false
set_option linter.unusedSimpArgs false
open Go.Joins
theorem cells_nonce : Try.prog.cellsOf 27 = 2 := by kernel_rfl
set_option linter.unusedVariables false
namespace nonceOrder
theorem own : ownKnob Try.prog.godebug = none := by kernel_rfl
theorem laidOut : laidOutB Try.prog = true := by kernel_rfl
set_option maxRecDepth 100000 in
theorem lifted (os : Os) (started : os.Started) (H : Type) (enc : TypeId × Value → H) :
    ReturnsInHanded {} Try.checked os 12 .any (Rows.nonceOrderSpec.pre6 enc Try.prog Try.f12 Rows.nonceOrderRow.domain false) (Rows.nonceOrderSpec.post enc Try.prog Try.f12 false true false false) := by
  refine returnsInHanded_of_change_sized (C := Try.checked) own started (by kernel_rfl) Try.func12
    (ChangeSpec.witness6 (enc := enc) (C := Try.checked) false ⟨#[], #[.agg #[.int .i64 0, .int .i64 0], .agg #[.int .i64 0, .int .i64 0], .agg #[.int .i64 0, .int .i64 0]], []⟩ 8 (by kernel_rfl) (by kernel_rfl) (by kernel_rfl) (by kernel_rfl)) ?_
  intro W base args ds gs before hval0 hW hcnd hsz0 _
  have hsz : (DataW.weightsEach Try.prog (Try.f12.params.toList ++ Rows.nonceOrderSpec.plain.varTypes Try.prog) (ds ++ gs)).all (· ≤ reachBytes) = true := hsz0
  have hval : ∀ (j : Nat) t v, Try.f12.params[j]? = some t → args[j]? = some v → Value.okWide Try.prog W .any base t v := hval0
  have hW' := hW
  obtain ⟨p, q, hA0, hV, rfl, hfz, hnd⟩ := hW
  have hA : DataW.TrodAll enc Try.prog W 0 (fun _ => true) true Try.f12.params.toList args.toList ds p := hA0
  rw [Try.params12] at hA hval hsz
  obtain ⟨v0, vs0, d0, ds0, p0, q0, hargs, rfl, rfl, h0, r0⟩ := trodAll_cons hA
  obtain ⟨v1, vs1, d1, ds1, p1, q1, rfl, rfl, rfl, h1, r1⟩ := trodAll_cons r0
  obtain ⟨v2, vs2, d2, ds2, p2, q2, rfl, rfl, rfl, h2, r2⟩ := trodAll_cons r1
  obtain ⟨rfl, rfl, rfl⟩ := trodAll_nil r2
  obtain rfl : args = #[v0, v1, v2] := by cases args; simp_all
  obtain ⟨rfl, rfl⟩ := trodVars_none hV
  have k0 := h0
  have o0 := (hval 0 27 v0 rfl rfl)
  have lt0 : ∀ x ∈ p0, x.block < W.heap.size := by obtain ⟨m, hm⟩ := k0; exact DataW.trod_lt m _ _ _ hm
  obtain ⟨x0, xx0, y0, yy0, m0, rfl, hd0, hq0, hy0, hyy0⟩ := open_agg2 Try.underlying27 (by kernel_rfl) cells_nonce o0 k0; obtain ⟨g0, e0, _, _⟩ := DataW.trod_int Try.underlying3 hy0; obtain ⟨n0, ee0, _, _⟩ := DataW.trod_int Try.underlying3 hyy0; simp at e0 ee0; subst e0 ee0
  have k1 := h1
  have o1 := (hval 1 27 v1 rfl rfl)
  have lt1 : ∀ x ∈ p1, x.block < W.heap.size := by obtain ⟨m, hm⟩ := k1; exact DataW.trod_lt m _ _ _ hm
  obtain ⟨x1, xx1, y1, yy1, m1, rfl, hd1, hq1, hy1, hyy1⟩ := open_agg2 Try.underlying27 (by kernel_rfl) cells_nonce o1 k1; obtain ⟨g1, e1, _, _⟩ := DataW.trod_int Try.underlying3 hy1; obtain ⟨n1, ee1, _, _⟩ := DataW.trod_int Try.underlying3 hyy1; simp at e1 ee1; subst e1 ee1
  have k2 := h2
  have o2 := (hval 2 27 v2 rfl rfl)
  have lt2 : ∀ x ∈ p2, x.block < W.heap.size := by obtain ⟨m, hm⟩ := k2; exact DataW.trod_lt m _ _ _ hm
  obtain ⟨x2, xx2, y2, yy2, m2, rfl, hd2, hq2, hy2, hyy2⟩ := open_agg2 Try.underlying27 (by kernel_rfl) cells_nonce o2 k2; obtain ⟨g2, e2, _, _⟩ := DataW.trod_int Try.underlying3 hy2; obtain ⟨n2, ee2, _, _⟩ := DataW.trod_int Try.underlying3 hyy2; simp at e2 ee2; subst e2 ee2
  refine (nonceOrder_all _ _ _ _ _ _ W).mono fun e W' ⟨he, bel⟩ => ?_
  subst he
  exact ⟨_, rfl, _, _, _, [], _, [], hW', trodAll_mk1 (shut_bool Try.underlying4 _), (trodAll_cons_mk (Below.trod laidOut (by kernel_rfl) (of_decide_eq_true (by kernel_rfl)) k0 bel lt0) (trodAll_cons_mk (Below.trod laidOut (by kernel_rfl) (of_decide_eq_true (by kernel_rfl)) k1 bel lt1) (trodAll_cons_mk (Below.trod laidOut (by kernel_rfl) (of_decide_eq_true (by kernel_rfl)) k2 bel lt2) trodAll_mk0))), rfl, bel.frame _, fun h => by cases h⟩
theorem over : Rows.nonceOrderRow.holds Try.pinned (OpenSpec.ofChange Rows.nonceOrderSpec) :=
  OpenClaim.holds_of_wide 12 Try.f12 rfl rfl rfl rfl rfl rfl rfl ⟨rfl, rfl, rfl, rfl, rfl⟩ rfl rfl rfl rfl rfl (by kernel_rfl) Try.func12 (by kernel_rfl)
    (of_decide_eq_true (by kernel_rfl)) (by unfold Func.isWrapper; first | (rw [if_pos (by decide +kernel)]; kernel_rfl) | (rw [if_neg (by decide +kernel)]; exact ⟨rfl, rfl⟩))
    (fun os started H enc _ => lifted os started H enc)
end nonceOrder
/-- The statement. -/
theorem nonceOrder_holds : Rows.NonceOrderSaid := nonceOrder.over
#print axioms nonceOrder_holds
end Go.Proofs.Ytplpidpbfljpnaa
