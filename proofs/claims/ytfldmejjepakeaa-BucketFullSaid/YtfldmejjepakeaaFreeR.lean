/- Free.wp_facts where facts are stable under a relation of one's own, and what holds of the world turns at the operations ss (an append onto a row that was there, a call that writes). -/
import Derived.Test.YtfldmejjepakeaaFree
import Derived.Test.YtfldmejjepakeaaFreeW
namespace Go.Proofs.Ytfldmejjepakeaa
open Go.ChangeShapes Go.WideShapes Go.ChangeAt Go.RowKit
open Go.ChangeMaps (open_string shut_string)
set_option linter.unusedVariables false
set_option linter.unusedSimpArgs false
set_option maxRecDepth 100000
namespace Free
variable {P : Program} {ops : Array Oper} {M : List Nat} {D : List (List Nat)} {outs soles pures : List Nat} {N : Nat}
/-- As chkS, where the facts of pures speak of no world. -/
def chkSP (ops : Array Oper) (M : List Nat) (D : List (List Nat)) (outs pures : List Nat) (j : Nat) : Bool :=
  ((List.range ops.size).all fun k => k == j || bit M j k || (D.getD k []).all fun i => pures.contains i || i == j || bit M i j) && outs.all fun i => pures.contains i || i == j || bit M i j
/-- How many of ss have been carried out, where j is about to be. -/
def agrees (M ss : List Nat) (j st : Nat) : Prop := (ss.filter (bit M j)).length ≤ st ∧ st ≤ (ss.filter fun s => !(j == s || bit M s j)).length
def done (ss : List Nat) (listed : Array Bool) : Nat := (ss.filter fun s => listed.getD s false).length
theorem filter_le {p q : Nat → Bool} : ∀ L : List Nat, (∀ x ∈ L, p x = true → q x = true) → (L.filter p).length ≤ (L.filter q).length
  | [], _ => Nat.le_refl _
  | x :: r, h => by
    have ih := filter_le r (fun y hy => h y (by simp [hy]))
    rw [List.filter_cons, List.filter_cons]
    by_cases hp : p x = true
    · rw [if_pos hp, if_pos (h x (by simp) hp)]; simp; exact ih
    · rw [if_neg hp]
      split
      · simp; omega
      · exact ih
theorem done_set {listed : Array Bool} {j : Nat} (hj : j < listed.size) (hun : listed.getD j false = false) : ∀ ss : List Nat, done ss (listed.setIfInBounds j true) = done ss listed + (ss.filter fun s => j == s).length
  | [] => rfl
  | x :: r => by
    have ih := done_set hj hun r
    unfold done at *
    rw [List.filter_cons, List.filter_cons, List.filter_cons]
    by_cases e : j = x
    · subst e
      have e1 : (listed.setIfInBounds j true).getD j false = true := by simp [hj]
      rw [e1, hun, beq_self_eq_true]
      simp only [if_true, Bool.false_eq_true, if_false, List.length_cons]
      omega
    · rw [getD_set_ne false e, beq_eq_false_iff_ne.2 e]
      split
      · simp only [List.length_cons, Bool.false_eq_true, if_false]; omega
      · simp only [Bool.false_eq_true, if_false]; exact ih
def StepAtR (R : World → World → Prop) (P : Program) (ops : Array Oper) (S : World → Prop) (F : Nat → Value → World → Prop) (soles : List Nat) (j : Nat) (o : Oper) (dfs : List Deferred) (w : World) (a : Act) : Prop :=
  ∀ K : Value → World → Prop, Shut (∀ v w', F j v w' → S w' → (soles.contains j = true ∨ R w w') → K v w') →
    if Region.wanted o (yielded ops a.tmps) = true then o.wp P a w (fun a' w' => a'.defers = dfs ∧ K (valOf o.dst a') w') (fun _ _ _ => False) else K undef w

structure InvR (ops : Array Oper) (D : List (List Nat)) (outs : List Nat) (N : Nat) (ss : List Nat) (S : Nat → World → Prop) (F : Nat → Value → World → Prop) (a : Act) (listed : Array Bool) (vs : Nat → Value) (a' : Act) (w' : World) : Prop where
  size : listed.size = ops.size
  closed : ∀ j, listed.getD j false = true → ∀ d ∈ deps ops j, listed.getD d false = true
  dfs : a'.defers = a.defers
  n : a'.tmps.size = N
  new : ∀ i d, listed.getD i false = true → dst ops i = some d → a'.tmps[d]? = some (vs i)
  old : ∀ t, (∀ i, listed.getD i false = true → dst ops i ≠ some t) → a'.tmps[t]? = a.tmps[t]?
  st : S (done ss listed) w'
  f : ∀ i, listed.getD i false = true → Need D outs ops listed i → F i (vs i) w'

section
variable {ss : List Nat} {S : Nat → World → Prop} {F : Nat → Value → World → Prop} {a : Act} {Q : Exit → Act → World → Prop}
theorem seesR (hc : chk ops M D outs soles N = true) {listed : Array Bool} {vs : Nat → Value} {a' : Act} {w' : World} (hI : InvR ops D outs N ss S F a listed vs a' w') (hN : a.tmps.size = N) {j : Nat} {o : Oper} (hj : ops[j]? = some o)
    (hd : ∀ d ∈ deps ops j, listed.getD d false = true) (hun : listed.getD j false = false) :
    execOp a'.eval o = execOp (putAll ops vs (D.getD j []) a).eval o ∧ Region.wanted o (yielded ops a'.tmps) = Region.wanted o (yielded ops (putAll ops vs (D.getD j []) a).tmps) ∧ ∀ i ∈ D.getD j [], listed.getD i false = true := by
  have hlt := (Array.getElem?_eq_some_iff.1 hj).1
  have h1 := chk_one hc hj
  unfold chk1 at h1
  simp only [Bool.and_eq_true] at h1
  have hanc : ∀ i ∈ D.getD j [], listed.getD i false = true := fun i hi => by
    have := h1.1.1.2
    rw [List.all_eq_true] at this
    exact anc_listed hc hI.closed j i hd hlt (this i hi)
  have hlk := h1.1.2
  rw [List.all_eq_true] at hlk
  have same : ∀ t ∈ o.looksAt ops, a'.tmps[t]? = (putAll ops vs (D.getD j []) a).tmps[t]? := by
    intro t ht
    have hall := hlk t ht
    rw [List.all_eq_true] at hall
    by_cases hex : ∃ i ∈ D.getD j [], dst ops i = some t
    · obtain ⟨i, hi, hdi⟩ := hex
      rw [hI.new i t (hanc i hi) hdi, putAll_in vs (dst_inj hc) _ i t hdi a hi (by rw [hN]; exact dst_lt hc hdi)]
    · rw [putAll_out vs _ t a (fun i hi e => hex ⟨i, hi, e⟩)]
      refine hI.old t fun i hli hdi => ?_
      have hin : i < ops.size := by rw [← hI.size]; exact listed_lt hli
      have := hall i (List.mem_range.2 hin)
      simp only [Bool.or_eq_true, bne_iff_ne, ne_eq, List.contains_iff_mem, beq_iff_eq] at this
      rcases this with ((h | h) | h) | h
      · exact h hdi
      · exact hex ⟨i, h, hdi⟩
      · subst h; rw [hun] at hli; cases hli
      · have := anc_listed hc hI.closed i j (hI.closed i hli) hin h
        rw [hun] at this; cases this
  refine ⟨?_, ?_, hanc⟩
  · refine execOp_congr o (Region.noSelect_spec (chk_sel hc) j o · · hj) fun x hx => ?_
    cases x with
    | tmp t =>
      have ht : t ∈ o.looksAt ops := List.mem_append_left _ (List.mem_filterMap.2 ⟨.tmp t, by simpa using hx, rfl⟩)
      have := same t ht
      simp only [Act.eval, Array.getD_eq_getD_getElem?, this]
    | _ => rfl
  · unfold Region.wanted
    cases hg : o.guard with
    | none => rfl
    | some gw =>
      obtain ⟨g, want⟩ := gw
      have hy : yielded ops a'.tmps g = yielded ops (putAll ops vs (D.getD j []) a).tmps g := by
        unfold yielded
        cases ht : (ops[g]?).bind (·.dst) with
        | none => rfl
        | some t =>
          have := same t (List.mem_append_right _ (by simp [hg, ht]))
          simp only [Option.bind_some, this]
      simp only [hy]

theorem inv_stepR (R : World → World → Prop) (hc : chk ops M D outs [] N = true) (hso : soles.all (chkSP ops M D outs pures) = true) (hpu : ∀ i, pures.contains i = true → ∀ v w w', F i v w → F i v w') {listed : Array Bool} {vs : Nat → Value} {a' : Act} {w' : World} (hI : InvR ops D outs N ss S F a listed vs a' w') {j : Nat} {o : Oper} (hj : ops[j]? = some o)
    (hd : ∀ d ∈ deps ops j, listed.getD d false = true) (hun : listed.getD j true = false)
    (hstab : ∀ i v w w', F i v w → R w w' → F i v w') (v : Value) (w2 : World) (hF : F j v w2) (hS : S (done ss listed + (ss.filter fun s => j == s).length) w2) (hT : soles.contains j = true ∨ R w' w2) :
    InvR ops D outs N ss S F a (listed.setIfInBounds j true) (fun i => if i = j then v else vs i) (a'.put o.dst v) w2 := by
  have hlt := (Array.getElem?_eq_some_iff.1 hj).1
  have hls : j < listed.size := by rw [hI.size]; exact hlt
  have hunf : listed.getD j false = false := by simp [hls] at hun ⊢; exact hun
  have hdj : dst ops j = o.dst := by unfold dst; rw [hj]; rfl
  have hS2 : S (done ss (listed.setIfInBounds j true)) w2 := by rw [done_set hls hunf]; exact hS
  refine ⟨by simpa using hI.size, ?_, by rw [put_defers]; exact hI.dfs, by rw [put_size]; exact hI.n, ?_, ?_, hS2, ?_⟩
  · intro k hk d hdk
    rcases getD_set hk with rfl | hk
    · exact getD_set_true (hd d hdk)
    · exact getD_set_true (hI.closed k hk d hdk)
  · intro i d hi hdi
    by_cases e : i = j
    · subst e
      rw [hdj] at hdi
      rw [hdi, put_same _ _ _ (by rw [hI.n]; exact dst_lt hc (by rw [hdj]; exact hdi)), if_pos rfl]
    · rw [if_neg e]
      rcases getD_set hi with h | h
      · exact absurd h e
      · rw [put_other _ _ _ _ (fun he => e (dst_inj hc i j d hdi (by rw [hdj]; exact he)))]
        exact hI.new i d h hdi
  · intro t ht
    have hjt : dst ops j ≠ some t := ht j (by simp [hls])
    rw [put_other _ _ _ _ (by rw [← hdj]; exact hjt)]
    exact hI.old t fun i hi => ht i (getD_set_true hi)
  · intro i hi hn
    by_cases e : i = j
    · subst e; rw [if_pos rfl]; exact hF
    · rw [if_neg e]
      rcases getD_set hi with h | h
      · exact absurd h e
      have hold : Need D outs ops listed i := by
        rcases hn with ho | ⟨k, hk1, hk2, hk3⟩
        · exact .inl ho
        · by_cases ek : j = k
          · subst ek; simp [hls] at hk2
          · rw [getD_set_ne true ek] at hk2
            exact .inr ⟨k, hk1, hk2, hk3⟩
      by_cases hpi : pures.contains i = true
      · exact hpu i hpi _ _ _ (hI.f i h hold)
      rcases hT with hs | hb
      · -- nobody else's fact is wanted any more
        exfalso
        have hk := List.all_eq_true.1 hso j (by simpa using hs)
        unfold chkSP at hk
        simp only [Bool.and_eq_true, List.all_eq_true, List.mem_range, Bool.or_eq_true, beq_iff_eq] at hk
        have late : ∀ i, listed.getD i false = true → bit M i j = true → False := fun i hi hb => by
          have := anc_listed hc hI.closed i j (hI.closed i hi) (by rw [← hI.size]; exact listed_lt hi) hb
          rw [hunf] at this; cases this
        rcases hn with ho | ⟨k, hk1, hk2, hk3⟩
        · rcases hk.2 i ho with (h1 | h1) | h1
          · exact hpi h1
          · exact e h1
          · exact late i h h1
        · have hkj : k ≠ j := by
            intro e2
            subst e2
            simp [hls] at hk2
          rw [getD_set_ne true (Ne.symm hkj)] at hk2
          rcases hk.1 k hk1 with (h1 | h1) | h1
          · exact hkj h1
          · have := anc_listed hc hI.closed j k hd hlt h1
            have hks : k < listed.size := by rw [hI.size]; exact hk1
            simp [hks] at hk2 this
            rw [hk2] at this; cases this
          · rcases h1 i hk3 with (h2 | h2) | h2
            · exact hpi h2
            · exact e h2
            · exact late i h h2
      · exact hstab i _ _ _ (hI.f i h hold) hb

theorem wp_freeR (R : World → World → Prop) (hc : chk ops M D outs [] N = true) (hso : soles.all (chkSP ops M D outs pures) = true) (hpu : ∀ i, pures.contains i = true → ∀ v w w', F i v w → F i v w') {id : Nat} {w : World} (hm : P.follows .mixedOrders = true) (hN : a.tmps.size = N)
    (hstab : ∀ i v w w', F i v w → R w w' → F i v w') (hsz : (ss.all fun s => decide (s < ops.size)) = true) (hS : S 0 w.drew)
    (hstep : ∀ j o, ops[j]? = some o → ∀ st, agrees M ss j st → ∀ w', S st w' → Told ops F w' (D.getD j []) a (StepAtR R P ops (S (st + (ss.filter fun s => j == s).length)) F soles j o a.defers w'))
    (hend : ∀ w', S ss.length w' → ToldE ops F outs w' (List.range ops.size) a (fun a' => Q .normal a' w')) : (Code.region id ops true).wp P Q a w := by
  refine wp_region_any hm ?_
  suffices H : ∀ (fuel : Nat) (listed : Array Bool) (vs : Nat → Value) (a' : Act) (w' : World), InvR ops D outs N ss S F a listed vs a' w' → cnt ops.size listed ≤ fuel → wpAny P .any ops Q fuel listed a' w' by
    have hS0 : S (done ss (Array.replicate ops.size false)) w.drew := by
      have : done ss (Array.replicate ops.size false) = 0 := by
        unfold done
        rw [List.length_eq_zero_iff, List.filter_eq_nil_iff]
        intro x hx
        rw [List.all_eq_true] at hsz
        have hx := of_decide_eq_true (hsz x hx)
        rw [Array.getD_eq_getD_getElem?, Array.getElem?_replicate, if_pos hx]
        simp
      rw [this]; exact hS
    refine H _ _ (fun _ => undef) _ _ ⟨by simp, ?_, rfl, hN, ?_, fun _ _ => rfl, hS0, ?_⟩ ?_
    · intro j hj; exfalso; have hl := listed_lt hj; simp at hl hj; simp [hl] at hj
    · intro j d hj; exfalso; have hl := listed_lt hj; simp at hl hj; simp [hl] at hj
    · intro j hj; exfalso; have hl := listed_lt hj; simp at hl hj; simp [hl] at hj
    · unfold cnt; exact Nat.le_trans List.countP_le_length (by simp)
  have fin : ∀ (listed : Array Bool) (vs : Nat → Value) (a' : Act) (w' : World), InvR ops D outs N ss S F a listed vs a' w' → Region.ready .any ops listed = [] → Q .normal a' w' := by
    intro listed vs a' w' hI hr
    have hall := none_ready hc hI.size hr
    have ho : ∀ i ∈ outs, F i (vs i) w' := fun i hi => by
      have hlt : i < ops.size := by
        unfold chk at hc
        simp only [Bool.and_eq_true, List.all_eq_true] at hc
        exact of_decide_eq_true (hc.2 i hi)
      exact hI.f i (hall i hlt) (.inl hi)
    have hst : S ss.length w' := by
      have := hI.st
      have e : done ss listed = ss.length := by
        unfold done
        rw [List.filter_eq_self.2]
        intro x hx
        rw [List.all_eq_true] at hsz
        exact hall x (of_decide_eq_true (hsz x hx))
      rw [e] at this
      exact this
    have := (hend w' hst).all vs ho _ _
    have e : putAll ops vs (List.range ops.size) a = a' := by
      have e1 : (putAll ops vs (List.range ops.size) a).defers = a'.defers := by rw [putAll_defers, hI.dfs]
      have e2 : (putAll ops vs (List.range ops.size) a).tmps = a'.tmps := by
        apply Array.ext_getElem?
        intro t
        by_cases hex : ∃ i, i < ops.size ∧ dst ops i = some t
        · obtain ⟨i, hi, hdi⟩ := hex
          rw [putAll_in vs (dst_inj hc) _ i t hdi a (List.mem_range.2 hi) (by rw [hN]; exact dst_lt hc hdi), hI.new i t (hall i hi) hdi]
        · rw [putAll_out vs _ t a (fun i hi e => hex ⟨i, List.mem_range.1 hi, e⟩)]
          exact (hI.old t fun i hi e => hex ⟨i, by rw [← hI.size]; exact listed_lt hi, e⟩).symm
      cases h1 : putAll ops vs (List.range ops.size) a
      cases h2 : a'
      rw [h1, h2] at e1 e2
      simp only at e1 e2
      rw [e1, e2]
    rw [e] at this
    exact this
  intro fuel
  induction fuel with
  | zero =>
    intro listed vs a' w' hI hcn
    have hr : Region.ready .any ops listed = [] := by
      rw [List.eq_nil_iff_forall_not_mem]
      intro j hj
      obtain ⟨hl, o, ho, _⟩ := mem_ready.1 hj
      have := cnt_set (Array.getElem?_eq_some_iff.1 ho).1 hI.size hl
      omega
    exact ⟨hr, fin _ _ _ _ hI hr⟩
  | succ fuel ih =>
    intro listed vs a' w' hI hcn
    refine ⟨fin _ _ _ _ hI, fun j hj => ?_⟩
    obtain ⟨hun, o, hjo, hall⟩ := mem_ready.1 hj
    have hlt := (Array.getElem?_eq_some_iff.1 hjo).1
    have hls : j < listed.size := by rw [hI.size]; exact hlt
    have hunf : listed.getD j false = false := by simp [hls] at hun ⊢; exact hun
    have hd : ∀ d ∈ deps ops j, listed.getD d false = true := fun d hdm => by
      unfold deps at hdm
      rw [hjo] at hdm
      obtain ⟨e, he, rfl⟩ := List.mem_map.1 hdm
      obtain ⟨he1, he2⟩ := List.mem_filter.1 he
      exact hall e (by simpa using he1) he2
    obtain ⟨hex, hwn, hlD⟩ := seesR hc hI hN hjo hd hunf
    have hcn2 := cnt_set hlt hI.size hun
    have hsz' : ∀ x ∈ ss, x < ops.size := fun x hx => by
      rw [List.all_eq_true] at hsz
      exact of_decide_eq_true (hsz x hx)
    have hag : agrees M ss j (done ss listed) := by
      refine ⟨filter_le ss fun x hx h => anc_listed hc hI.closed j x hd hlt h, filter_le ss fun x hx h => ?_⟩
      simp only [Bool.not_eq_true', Bool.or_eq_false_iff, beq_eq_false_iff_ne]
      refine ⟨fun e => ?_, ?_⟩
      · subst e; rw [hunf] at h; cases h
      · cases hb : bit M x j with
        | false => rfl
        | true =>
          have := anc_listed hc hI.closed x j (hI.closed x h) (hsz' x hx) hb
          rw [hunf] at this; cases this
    have hst := (hstep j o hjo _ hag w' hI.st).all vs _ _ fun i hi => hI.f i (hlD i hi) (.inr ⟨j, hlt, hun, hi⟩)
    have hst2 := hst (fun v w2 => wpAny P .any ops Q fuel (listed.setIfInBounds j true) (a'.put o.dst v) w2)
      (fun v w2 hF hS2 hT => ih _ _ _ _ (inv_stepR R hc hso hpu hI hjo hd hun hstab v w2 hF hS2 hT) (by omega))
    have hdfs : (putAll ops vs (D.getD j []) a).defers = a.defers := putAll_defers _ _ _
    have hval : ∀ v, a'.put o.dst (valOf o.dst ((putAll ops vs (D.getD j []) a).put o.dst v)) = a'.put o.dst v := fun v => by
      cases ho : o.dst with
      | none => rfl
      | some d =>
        have hdl : d < N := dst_lt hc (i := j) (by unfold dst; rw [hjo]; exact ho)
        have : ((putAll ops vs (D.getD j []) a).put (some d) v).tmps[d]? = some v := put_same _ _ _ (by rw [putAll_size, hN]; exact hdl)
        unfold valOf
        simp only [Array.getD_eq_getD_getElem?, this, Option.getD_some]
    unfold wpOp
    simp only [hjo]
    rw [hwn]
    split
    · rename_i hw
      rw [if_pos hw] at hst2
      refine .inl ?_
      unfold Oper.wp at hst2 ⊢
      rw [hex]
      generalize (execOp (putAll ops vs (D.getD j []) a).eval o).run P w' = r at *
      cases r with
      | ok n w2 =>
        cases n <;> simp only [Oper.upon] at hst2 ⊢
        case value v => have := hst2.2; rw [hval] at this; exact this
        case skip => have := hst2.2; rw [hval] at this; exact this
        case defer d => exact absurd hst2.1 (by rw [put_defers]; show ¬ (d :: _) = _; rw [hdfs]; exact List.cons_ne_self _ _)
        case enter f args =>
          refine Calls.mono hst2 fun e w3 he => ?_
          cases e with
          | returned v => have := he.2; rw [hval] at this; exact this
          | panicked c => exact he.elim
          | outgrown => obtain ⟨_, _, h⟩ := he; exact h.elim
        case row row args => exact Rows.mono hst2 fun v w3 he => by have := he.2; rw [hval] at this; exact this
      | halt x w2 => cases x <;> simp only [Oper.upon] at hst2 ⊢
    · rename_i hw
      rw [if_neg hw] at hst2
      exact hst2
end
/-- A fact on a value that R leaves true. -/
structure FactR (R : World → World → Prop) where
  f : Value → World → Prop
  stab : ∀ v w w', f v w → R w w' → f v w'
  pure : Bool := false
  ispure : pure = true → ∀ v w w', f v w → f v w' := by intro h; cases h
/-- It is x. -/
def FactR.is {R : World → World → Prop} (x : Value) : FactR R := ⟨fun v _ => v = x, fun _ _ _ h _ => h, true, fun _ _ _ _ h => h⟩
def FactR.any {R : World → World → Prop} : FactR R := { f := fun _ _ => True, stab := fun _ _ _ _ _ => trivial }
def factsR {R : World → World → Prop} (L : List (FactR R)) (i : Nat) (v : Value) (w : World) : Prop := (L.getD i FactR.any).f v w
theorem oR {R : World → World → Prop} {F : Value → World → Prop} {S : World → Prop} {b : Bool} {w : World} {K : Value → World → Prop} {v : Value} (hK : Shut (∀ v w', F v w' → S w' → (b = true ∨ R w w') → K v w')) (hR : R w w) (hS : S w) (hf : F v w) : K v w := hK.out _ _ hf hS (.inr hR)
theorem cR {R : World → World → Prop} {F : Value → World → Prop} {S : World → Prop} {b : Bool} {w w' : World} {K : Value → World → Prop} {v : Value} (hK : Shut (∀ v w', F v w' → S w' → (b = true ∨ R w w') → K v w')) (hS : S w') (hR : R w w') (hf : F v w') : K v w' := hK.out _ _ hf hS (.inr hR)
/-- **A region whose order is open**, by what each operation leaves, written out. -/
theorem wp_factsR {R : World → World → Prop} {ss : List Nat} {M : List Nat} {D : List (List (Nat × Tmp))} {outs soles pures : List Nat} {E : List (Nat × Tmp × Bool)} {N : Nat} {id : Nat} {w : World} {a : Act} {Q : Exit → Act → World → Prop} {S : Nat → World → Prop} (L : List (FactR R))
    (hm : P.follows .mixedOrders = true) (hc : chk' ops M D outs [] E N = true) (hso : soles.all (chkSP ops M (D.map fun l => l.map (·.1)) outs pures) = true) (hp : (pures.all fun i => (L.getD i FactR.any).pure) = true) (hN : a.tmps.size = N) (hsz : (ss.all fun s => decide (s < ops.size)) = true) (hS : S 0 w.drew)
    (hstep : StepsFrom (fun j o => ∀ st, agrees M ss j st → ∀ w', S st w' → Told' (factsR L) w' (D.getD j []) a (StepAtR R P ops (S (st + (ss.filter fun s => j == s).length)) (factsR L) soles j o a.defers w')) 0 ops.toList)
    (hend : ∀ w', S ss.length w' → ToldE' (factsR L) w' E a (fun a' => Q .normal a' w')) : (Code.region id ops true).wp P Q a w := by
  unfold chk' at hc
  simp only [Bool.and_eq_true, beq_iff_eq] at hc
  obtain ⟨⟨hc1, hc2⟩, hc3⟩ := hc
  refine wp_freeR R hc1 hso (fun i hi v w w' h => (L.getD i FactR.any).ispure (List.all_eq_true.1 hp i (by simpa using hi)) v w w' h) (F := factsR L) (S := S) hm hN (fun i v w w' h hb => (L.getD i FactR.any).stab v w w' h hb) hsz hS ?_ ?_
  · intro j o hj st hag w' hw'
    have h := StepsFrom.all ops.toList 0 hstep j o (by simpa using hj)
    rw [Nat.zero_add] at h
    have h2 := h st hag w' hw'
    have e : (D.map fun l => l.map (·.1)).getD j [] = (D.getD j []).map (·.1) := by
      simp only [List.getD_eq_getElem?_getD, List.getElem?_map]
      cases D[j]? <;> rfl
    rw [e]
    refine Told'.told _ _ ?_ h2
    cases hd : D[j]? with
    | none => simp [List.getD_eq_getElem?_getD, hd]
    | some l =>
      rw [List.all_eq_true] at hc2
      simp only [List.getD_eq_getElem?_getD, hd, Option.getD_some]
      exact hc2 l (List.mem_of_getElem? hd)
  · intro w' hw'
    refine ToldE'.told _ _ ?_
    rw [hc3]
    exact hend w' hw'
theorem wp_factsRW {R : World → World → Prop} {ss : List Nat} {M : List Nat} {D : List (List (Nat × Tmp))} {outs soles pures : List Nat} {E : List (Nat × Option Tmp × Bool)} {N : Nat} {id : Nat} {w : World} {a : Act} {Q : Exit → Act → World → Prop} {S : Nat → World → Prop} (L : List (FactR R))
    (hm : P.follows .mixedOrders = true) (hc : chkW ops M D outs [] E N = true) (hso : soles.all (chkSP ops M (D.map fun l => l.map (·.1)) outs pures) = true) (hp : (pures.all fun i => (L.getD i FactR.any).pure) = true) (hN : a.tmps.size = N) (hsz : (ss.all fun s => decide (s < ops.size)) = true) (hS : S 0 w.drew)
    (hstep : StepsFrom (fun j o => ∀ st, agrees M ss j st → ∀ w', S st w' → Told' (factsR L) w' (D.getD j []) a (StepAtR R P ops (S (st + (ss.filter fun s => j == s).length)) (factsR L) soles j o a.defers w')) 0 ops.toList)
    (hend : ∀ w', S ss.length w' → ToldW (factsR L) w' E a (fun a' => Q .normal a' w')) : (Code.region id ops true).wp P Q a w := by
  unfold chkW at hc
  simp only [Bool.and_eq_true, beq_iff_eq] at hc
  obtain ⟨⟨hc1, hc2⟩, hc3⟩ := hc
  refine wp_freeR R hc1 hso (fun i hi v w w' h => (L.getD i FactR.any).ispure (List.all_eq_true.1 hp i (by simpa using hi)) v w w' h) (F := factsR L) (S := S) hm hN (fun i v w w' h hb => (L.getD i FactR.any).stab v w w' h hb) hsz hS ?_ ?_
  · intro j o hj st hag w' hw'
    have h := StepsFrom.all ops.toList 0 hstep j o (by simpa using hj)
    rw [Nat.zero_add] at h
    have h2 := h st hag w' hw'
    have e : (D.map fun l => l.map (·.1)).getD j [] = (D.getD j []).map (·.1) := by
      simp only [List.getD_eq_getElem?_getD, List.getElem?_map]
      cases D[j]? <;> rfl
    rw [e]
    refine Told'.told _ _ ?_ h2
    cases hd : D[j]? with
    | none => simp [List.getD_eq_getElem?_getD, hd]
    | some l =>
      rw [List.all_eq_true] at hc2
      simp only [List.getD_eq_getElem?_getD, hd, Option.getD_some]
      exact hc2 l (List.mem_of_getElem? hd)
  · intro w' hw'
    refine ToldW.told _ _ ?_
    rw [hc3]
    exact hend w' hw'
end Free
end Go.Proofs.Ytfldmejjepakeaa
