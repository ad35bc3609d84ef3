/- The statements NonceEnds and NonceNext of chapter 5: their walks. -/
import Derived.Test.YtplpidpbfljpnaaNonce
namespace Go.Proofs.Ytplpidpbfljpnaa
open Go.ChangeShapes Go.WideShapes Go.ChangeAt Go.RowKit
open Go.ChangeMaps (open_string shut_string)
set_option linter.unusedVariables false
set_option linter.unusedSimpArgs false

theorem first5_calls (w : World) : Calls Try.prog 13 #[] w fun e w' => e = .returned (.bool true) ∧ Below w.heap.size w w' := by
  have hs0 := Blk.new w (src 2 0 1099511627776) 32
  have hfn := fun w => from_none 0 w (by rfl)
  go_enter Try.func13, Try.ntmps13
  go_wp2_with fail
  refine (from_some 2 _ (by omega) (by omega)).mono ?_
  rintro e w' ⟨rfl, rfl⟩
  go_wp2_with fail
  refine (next_some _ 2 0 1099511627776 _ hs0 (by omega) (by omega) (by omega)).mono ?_
  rintro e w1 ⟨rfl, hs1, hk1⟩
  have b1 : Below w.heap.size w w1 := ((Below.refl w.heap.size w).alloc (Nat.le_refl _) _).keeps hk1 (by omega) (Nat.le_refl _)
  go_wp2_with fail
  have hlt1 := hs1.lt
  refine (next_some _ 2 (0 + 1) 1099511627776 _ (hs1.alloc _) (by omega) (by omega) (by omega)).mono ?_
  rintro e w2 ⟨rfl, hs2, hk2⟩
  have hb2 := (Blk.new w1 #[.int .i64 2, .int .i64 0] 27).keeps hk2 (by omega)
  have d0 := hb2.cell 0 (v := .int .i64 2) rfl
  have d1 := hb2.cell 1 (v := .int .i64 0) rfl
  have s1 := hs2.cell 1 (v := .int .i64 2) rfl
  have z2 := hb2.lt
  have z3 := hs2.lt
  have b2 : Below w.heap.size w w2 := (b1.alloc b1.size _).keeps hk2 (by omega) (Nat.le_refl _)
  have q2 := b2.size
  go_wp2_with (go_at_call 31; refine (hfn _).mono ?_; rintro e w' ⟨rfl, rfl⟩)
  go_ret
  exact ⟨rfl, (by repeat (first | exact Below.refl _ _ | assumption | apply below_drewN' | apply Below.drew | refine Below.alloc ?_ (by first | omega | (simp; done) | (simp; omega)) _ | refine Below.setCell ?_ (by first | omega | (simp; done) | (simp; omega)) _))⟩

theorem may_calls (gen count : Int) (w : World) : Calls Try.prog 17 #[.agg #[.int .i64 gen, .int .i64 count]] w fun e w' => e = .returned (.bool (amongB gen && amongB count)) ∧ Below w.heap.size w w' := by
  rcases h : amongB gen with _ | _
  all_goals
    go_enter Try.func17, Try.ntmps17
    go_wp2_with (go_at_call 44; refine (among_calls _ _).mono ?_; rintro e w' ⟨rfl, rfl⟩)
    go_ret
    exact ⟨by simp, (by repeat (first | exact Below.refl _ _ | assumption | apply below_drewN' | apply Below.drew | refine Below.alloc ?_ (by first | omega | (simp; done) | (simp; omega)) _ | refine Below.setCell ?_ (by first | omega | (simp; done) | (simp; omega)) _))⟩

theorem may_true (gen count : Int) (w : World) (h1 : amongB gen = true) (h2 : amongB count = true) : Calls Try.prog 17 #[.agg #[.int .i64 gen, .int .i64 count]] w fun e w' => e = .returned (.bool true) ∧ Below w.heap.size w w' := by
  have := may_calls gen count w
  rw [h1, h2] at this
  exact this

theorem nonceEnds_walk (gen more : Int) (l : Nat) (w : World) (hg : 1 ≤ gen) (hg2 : gen ≤ 1099511627776) (hl : l ≤ 200) (hm : 0 ≤ more) (hm2 : more ≤ 20) :
    Calls Try.prog 3 #[.int .i64 gen, .int .i64 l, .int .i64 more] w fun e w' => e = .returned (.bool true) ∧ Below w.heap.size w w' := by
  have hmay : amongB gen = true := by simp [amongB]; omega
  go_enter Try.func3, Try.ntmps3
  go_wp2_with fail
  refine (first5_calls _).mono ?_
  rintro e w1 ⟨rfl, b1⟩
  have q1 := b1.size
  go_wp2_with fail
  refine (at_some gen _ _ _ (by omega) (by omega) (by omega) (by omega) (by omega)).mono ?_
  rintro e w' ⟨rfl, rfl⟩
  have hs1 := Blk.new w1 (src gen (1099511627776 - (l : Int)) 1099511627776) 32
  go_wp2_with fail
  refine (left_is _ gen _ _ (l : Int) _ hs1 (by omega) (by omega) (by omega) (by omega)).mono ?_
  rintro e w' ⟨rfl, n, rfl⟩
  go_wp2_with fail
  go_loopw [8] (fun i wr => ∃ k : Nat, k ≤ l ∧ i = .int .i64 k ∧ Blk wr w1.heap.size (src gen (1099511627776 - (l : Int) + k) 1099511627776) 32 ∧ Below w.heap.size w wr) (fun i _ => l - (intOf i).toNat)
  case atStart => exact ⟨0, by omega, rfl, by simpa using hs1.drewN n, (by repeat (first | exact Below.refl _ _ | assumption | apply below_drewN' | apply Below.drew | refine Below.alloc ?_ (by first | omega | (simp; done) | (simp; omega)) _ | refine Below.setCell ?_ (by first | omega | (simp; done) | (simp; omega)) _))⟩
  case round =>
    obtain ⟨k, hk, rfl, hsr, br⟩ := hrel
    have qr := br.size
    have gr := hsr.lt
    by_cases hlt : k < l
    · have tn : (1099511627776 - (l : Int) + k != 1099511627776 - (l : Int) + k) = false := by simp
      have hc : amongB (1099511627776 - (l : Int) + k) = true := by simp [amongB]; omega
      go_wp2_with fail
      refine (next_some _ gen _ _ _ hsr (by omega) (by omega) (by omega)).mono ?_
      rintro e w3 ⟨rfl, hs3, k3⟩
      have b3 := br.keeps k3 (by omega) (by omega)
      have q3 := b3.size
      have g3 := hs3.lt
      go_wp2_with fail
      refine (may_true _ _ _ hmay hc).mono ?_
      rintro e w4 ⟨rfl, b4⟩
      have hn4 := (Blk.new w3 #[.int .i64 gen, .int .i64 (1099511627776 - (l : Int) + k)] 27).below b4 (by simp)
      have d0 := hn4.cell 0 (v := .int .i64 gen) rfl
      have d1 := hn4.cell 1 (v := .int .i64 (1099511627776 - (l : Int) + k)) rfl
      have g4 := hn4.lt
      have hs4 := (hs3.alloc (.cells #[.int .i64 gen, .int .i64 (1099511627776 - (l : Int) + k)] 27)).below b4 (by simp; omega)
      have b5 : Below w.heap.size w w4 := (b3.alloc q3 _).trans (b4.mono (by simp; omega))
      clear hsr hs3 k3 b3 b4 br hn4 hc
      go_wp2
      go_roundw
      case rel => exact ⟨k + 1, by omega, by go_num, (by rw [show 1099511627776 - (l : Int) + ((k + 1 : Nat) : Int) = 1099511627776 - (l : Int) + k + 1 from by omega]; exact hs4), b5⟩
      case measure => simp [intOf]; omega
    · obtain rfl : k = l := by omega
      have e1 : 1099511627776 - (k : Int) + k = 1099511627776 := by omega
      rw [e1] at hsr
      clear e1 hs1
      go_wp2_with fail
      go_loopw [11] (fun i wq => ∃ j : Nat, (j : Int) ≤ more ∧ i = .int .i64 j ∧ Blk wq w1.heap.size (src gen 1099511627776 1099511627776) 32 ∧ Below w.heap.size w wq) (fun i _ => more.toNat - (intOf i).toNat)
      case atStart => exact ⟨0, by omega, rfl, hsr, br⟩
      case round =>
        obtain ⟨j, hj, rfl, hsq, bq⟩ := hrel
        have qq := bq.size
        have gq := hsq.lt
        clear hsr br gr qr
        by_cases hlt2 : (j : Int) < more
        · go_wp2_with fail
          refine (next_none _ gen _ _ hsq (by omega) (by omega)).mono ?_
          rintro e w3 ⟨rfl, hs3, k3⟩
          have b3 := bq.keeps k3 (by omega) (by omega)
          have q3 := b3.size
          have g3 := hs3.lt
          go_wp2_with fail
          refine (left_is _ gen _ _ 0 _ (hs3.alloc _) (by omega) (by omega) (by omega) (by omega)).mono ?_
          rintro e w' ⟨rfl, n2, rfl⟩
          have c1 := hs3.cell 1 (v := .int .i64 1099511627776) rfl
          go_wp2
          go_roundw
          case rel => exact ⟨j + 1, by omega, by go_num, (hs3.alloc _).drewN _, (by repeat (first | exact Below.refl _ _ | assumption | apply below_drewN' | apply Below.drew | refine Below.alloc ?_ (by first | omega | (simp; done) | (simp; omega)) _ | refine Below.setCell ?_ (by first | omega | (simp; done) | (simp; omega)) _))⟩
          case measure => simp [intOf]; omega
        · go_wp2_with fail
          refine (first5_calls _).mono ?_
          rintro e w5 ⟨rfl, b5⟩
          have b6 : Below w.heap.size w w5 := bq.trans (b5.mono (by omega))
          go_wp2_with fail
          refine (at_none _ _ _ _ (by simp [mayAt])).mono ?_
          rintro e w' ⟨rfl, rfl⟩
          go_wp2
          go_ret
          exact ⟨rfl, b6⟩

theorem nonceEnds_skip (gen left more : Int) (w : World) (h : ¬ (1 ≤ gen ∧ gen ≤ 1099511627776 ∧ 0 ≤ left ∧ left ≤ 200 ∧ 0 ≤ more ∧ more ≤ 20)) :
    Calls Try.prog 3 #[.int .i64 gen, .int .i64 left, .int .i64 more] w fun e w' => e = .returned (.bool true) ∧ Below w.heap.size w w' := by
  by_cases h1 : gen < 1
  case neg =>
    by_cases h2 : 1099511627776 < gen
    case neg =>
      by_cases h3 : left < 0
      case neg =>
        by_cases h4 : 200 < left
        case neg =>
          by_cases h5 : more < 0
          case neg =>
            have h6 : 20 < more := by omega
            go_enter Try.func3, Try.ntmps3; go_wp2_with fail; refine (first5_calls _).mono ?_; rintro e w1 ⟨rfl, b1⟩; have q1 := b1.size; go_wp2_with fail; refine (first5_calls _).mono ?_; rintro e w2 ⟨rfl, b2⟩; go_wp2; go_ret; exact ⟨rfl, b1.trans (b2.mono q1)⟩
          go_enter Try.func3, Try.ntmps3; go_wp2_with fail; refine (first5_calls _).mono ?_; rintro e w1 ⟨rfl, b1⟩; have q1 := b1.size; go_wp2_with fail; refine (first5_calls _).mono ?_; rintro e w2 ⟨rfl, b2⟩; go_wp2; go_ret; exact ⟨rfl, b1.trans (b2.mono q1)⟩
        go_enter Try.func3, Try.ntmps3; go_wp2_with fail; refine (first5_calls _).mono ?_; rintro e w1 ⟨rfl, b1⟩; have q1 := b1.size; go_wp2_with fail; refine (first5_calls _).mono ?_; rintro e w2 ⟨rfl, b2⟩; go_wp2; go_ret; exact ⟨rfl, b1.trans (b2.mono q1)⟩
      go_enter Try.func3, Try.ntmps3; go_wp2_with fail; refine (first5_calls _).mono ?_; rintro e w1 ⟨rfl, b1⟩; have q1 := b1.size; go_wp2_with fail; refine (first5_calls _).mono ?_; rintro e w2 ⟨rfl, b2⟩; go_wp2; go_ret; exact ⟨rfl, b1.trans (b2.mono q1)⟩
    go_enter Try.func3, Try.ntmps3; go_wp2_with fail; refine (first5_calls _).mono ?_; rintro e w1 ⟨rfl, b1⟩; have q1 := b1.size; go_wp2_with fail; refine (first5_calls _).mono ?_; rintro e w2 ⟨rfl, b2⟩; go_wp2; go_ret; exact ⟨rfl, b1.trans (b2.mono q1)⟩
  go_enter Try.func3, Try.ntmps3; go_wp2_with fail; refine (first5_calls _).mono ?_; rintro e w1 ⟨rfl, b1⟩; have q1 := b1.size; go_wp2_with fail; refine (first5_calls _).mono ?_; rintro e w2 ⟨rfl, b2⟩; go_wp2; go_ret; exact ⟨rfl, b1.trans (b2.mono q1)⟩

theorem nonceEnds_all (gen left more : Int) (w : World) :
    Calls Try.prog 3 #[.int .i64 gen, .int .i64 left, .int .i64 more] w fun e w' => e = .returned (.bool true) ∧ Below w.heap.size w w' := by
  by_cases h : 1 ≤ gen ∧ gen ≤ 1099511627776 ∧ 0 ≤ left ∧ left ≤ 200 ∧ 0 ≤ more ∧ more ≤ 20
  · obtain ⟨l, rfl⟩ := Int.eq_ofNat_of_zero_le h.2.2.1
    exact nonceEnds_walk gen more l w h.1 h.2.1 (by omega) h.2.2.2.2.1 h.2.2.2.2.2
  · exact nonceEnds_skip gen left more w h

set_option linter.unusedVariables false
namespace nonceEnds
theorem own : ownKnob Try.prog.godebug = none := by kernel_rfl
theorem laidOut : laidOutB Try.prog = true := by kernel_rfl
set_option maxRecDepth 100000 in
theorem lifted (os : Os) (started : os.Started) (H : Type) (enc : TypeId × Value → H) :
    ReturnsInHanded {} Try.checked os 3 .any (Rows.nonceEndsSpec.pre6 enc Try.prog Try.f3 Rows.nonceEndsRow.domain false) (Rows.nonceEndsSpec.post enc Try.prog Try.f3 false true false false) := by
  refine returnsInHanded_of_change_sized (C := Try.checked) own started (by kernel_rfl) Try.func3
    (ChangeSpec.witness6 (enc := enc) (C := Try.checked) false ⟨#[], #[.int .i64 0, .int .i64 0, .int .i64 0], []⟩ 8 (by kernel_rfl) (by kernel_rfl) (by kernel_rfl) (by kernel_rfl)) ?_
  intro W base args ds gs before hval0 hW hcnd hsz0 _
  have hsz : (DataW.weightsEach Try.prog (Try.f3.params.toList ++ Rows.nonceEndsSpec.plain.varTypes Try.prog) (ds ++ gs)).all (· ≤ reachBytes) = true := hsz0
  have hval : ∀ (j : Nat) t v, Try.f3.params[j]? = some t → args[j]? = some v → Value.okWide Try.prog W .any base t v := hval0
  have hW' := hW
  obtain ⟨p, q, hA0, hV, rfl, hfz, hnd⟩ := hW
  have hA : DataW.TrodAll enc Try.prog W 0 (fun _ => true) true Try.f3.params.toList args.toList ds p := hA0
  rw [Try.params3] at hA hval hsz
  obtain ⟨v0, vs0, d0, ds0, p0, q0, hargs, rfl, rfl, h0, r0⟩ := trodAll_cons hA
  obtain ⟨v1, vs1, d1, ds1, p1, q1, rfl, rfl, rfl, h1, r1⟩ := trodAll_cons r0
  obtain ⟨v2, vs2, d2, ds2, p2, q2, rfl, rfl, rfl, h2, r2⟩ := trodAll_cons r1
  obtain ⟨rfl, rfl, rfl⟩ := trodAll_nil r2
  obtain rfl : args = #[v0, v1, v2] := by cases args; simp_all
  obtain ⟨rfl, rfl⟩ := trodVars_none hV
  obtain ⟨a0, rfl, rfl, rfl, w0⟩ := open_int Try.underlying3 (hval 0 3 v0 rfl rfl) h0
  obtain ⟨a1, rfl, rfl, rfl, w1⟩ := open_int Try.underlying3 (hval 1 3 v1 rfl rfl) h1
  obtain ⟨a2, rfl, rfl, rfl, w2⟩ := open_int Try.underlying3 (hval 2 3 v2 rfl rfl) h2
  refine (nonceEnds_all a0 a1 a2 W).mono fun e W' ⟨he, bel⟩ => ?_
  subst he
  exact ⟨_, rfl, _, _, _, [], _, [], hW', trodAll_mk1 (shut_bool Try.underlying4 _), (trodAll_cons_mk (shut_int Try.underlying3 w0) (trodAll_cons_mk (shut_int Try.underlying3 w1) (trodAll_cons_mk (shut_int Try.underlying3 w2) trodAll_mk0))), rfl, bel.frame _, fun h => by cases h⟩
theorem over : Rows.nonceEndsRow.holds Try.pinned (OpenSpec.ofChange Rows.nonceEndsSpec) :=
  OpenClaim.holds_of_wide 3 Try.f3 rfl rfl rfl rfl rfl rfl rfl ⟨rfl, rfl, rfl, rfl, rfl⟩ rfl rfl rfl rfl rfl (by kernel_rfl) Try.func3 (by kernel_rfl)
    (of_decide_eq_true (by kernel_rfl)) (by unfold Func.isWrapper; first | (rw [if_pos (by decide +kernel)]; kernel_rfl) | (rw [if_neg (by decide +kernel)]; exact ⟨rfl, rfl⟩))
    (fun os started H enc _ => lifted os started H enc)
end nonceEnds
/-- The statement. -/
theorem nonceEnds_holds : Rows.NonceEndsSaid := nonceEnds.over
#print axioms nonceEnds_holds
end Go.Proofs.Ytplpidpbfljpnaa
