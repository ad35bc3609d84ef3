/- A region whose order is open, by what each operation leaves: no order is walked. -/
import Derived.Test.YtfldmejjepakeaaBase
import Derived.Deep.RegionHeld
namespace Go.Proofs.Ytfldmejjepakeaa
open Go.ChangeShapes Go.WideShapes Go.ChangeAt Go.RowKit
open Go.ChangeMaps (open_string shut_string)
set_option linter.unusedVariables false
set_option linter.unusedSimpArgs false
set_option maxRecDepth 100000

namespace Free
variable {P : Program} {ops : Array Oper} {M : List Nat} {D : List (List Nat)} {outs soles : List Nat} {N : Nat}

def deps (ops : Array Oper) (j : Nat) : List Nat := match ops[j]? with
  | some o => (o.after.toList.filter fun e => Region.binds .any e).map (·.on)
  | none => []
def dst (ops : Array Oper) (j : Nat) : Option Tmp := (ops[j]?).bind (·.dst)
def bit (M : List Nat) (j i : Nat) : Bool := (M.getD j 0).testBit i
def up (ops : Array Oper) (M : List Nat) (j : Nat) : Nat := (deps ops j).foldl (fun m d => m ||| (1 <<< d) ||| M.getD d 0) 0
/-- The check of a region: M its ancestors, D what each operation is told of, outs what is told behind it, soles those that may write. -/
def chk1 (ops : Array Oper) (M : List Nat) (D : List (List Nat)) (N : Nat) (j : Nat) (o : Oper) : Bool :=
  (deps ops j).all (· < j) && (M.getD j 0 ||| up ops M j) == up ops M j && (D.getD j []).all (bit M j) &&
  (o.looksAt ops).all (fun t => (List.range ops.size).all fun i => dst ops i != some t || (D.getD j []).contains i || i == j || bit M i j) &&
  (match o.dst with | some d => decide (d < N) && (List.range ops.size).all (fun i => i == j || dst ops i != some d) | none => true)
def chkS (ops : Array Oper) (M : List Nat) (D : List (List Nat)) (outs : List Nat) (j : Nat) : Bool :=
  ((List.range ops.size).all fun k => k == j || bit M j k || (D.getD k []).all fun i => i == j || bit M i j) && outs.all fun i => i == j || bit M i j
def chk (ops : Array Oper) (M : List Nat) (D : List (List Nat)) (outs soles : List Nat) (N : Nat) : Bool :=
  Region.noSelect ops && (List.range ops.size).all (fun j => match ops[j]? with | some o => chk1 ops M D N j o | none => false) && soles.all (chkS ops M D outs) && outs.all fun i => decide (i < ops.size)

theorem foldl_bit (M : List Nat) (L : List Nat) : ∀ (m i : Nat), (L.foldl (fun m d => m ||| (1 <<< d) ||| M.getD d 0) m).testBit i = true → m.testBit i = true ∨ ∃ d ∈ L, i = d ∨ bit M d i = true := by
  induction L with
  | nil => intro m i h; exact .inl h
  | cons x r ih =>
    intro m i h
    rcases ih _ i h with h | ⟨d, hd, h⟩
    · rw [Nat.testBit_or, Nat.testBit_or, Bool.or_eq_true, Bool.or_eq_true] at h
      rcases h with (h | h) | h
      · exact .inl h
      · refine .inr ⟨x, by simp, .inl ?_⟩
        rw [Nat.one_shiftLeft, Nat.testBit_two_pow] at h
        exact (of_decide_eq_true h).symm
      · exact .inr ⟨x, by simp, .inr h⟩
    · exact .inr ⟨d, by simp [hd], h⟩

theorem chk_one (hc : chk ops M D outs soles N = true) {j : Nat} {o : Oper} (hj : ops[j]? = some o) : chk1 ops M D N j o = true := by
  unfold chk at hc
  simp only [Bool.and_eq_true, List.all_eq_true, List.mem_range] at hc
  have := hc.1.1.2 j (Array.getElem?_eq_some_iff.1 hj).1
  rw [hj] at this
  exact this
theorem chk_sole (hc : chk ops M D outs soles N = true) {j : Nat} (hj : j ∈ soles) : chkS ops M D outs j = true := by
  unfold chk at hc
  simp only [Bool.and_eq_true, List.all_eq_true, List.mem_range] at hc
  exact hc.1.2 j hj
theorem chk_sel (hc : chk ops M D outs soles N = true) : Region.noSelect ops = true := by
  unfold chk at hc
  simp only [Bool.and_eq_true] at hc
  exact hc.1.1.1

/-- Whoever stands among the ancestors has come up, where all that an operation waits for has. -/
theorem anc_listed (hc : chk ops M D outs soles N = true) {listed : Array Bool} (hcl : ∀ j, listed.getD j false = true → ∀ d ∈ deps ops j, listed.getD d false = true) :
    ∀ j i, (∀ d ∈ deps ops j, listed.getD d false = true) → j < ops.size → bit M j i = true → listed.getD i false = true := by
  intro j
  induction j using Nat.strongRecOn with
  | _ j ih =>
    intro i hd hlt hb
    have hj : ops[j]? = some ops[j] := Array.getElem?_eq_getElem hlt
    have h1 := chk_one hc hj
    unfold chk1 at h1
    simp only [Bool.and_eq_true] at h1
    have hlts := h1.1.1.1.1
    have hm := h1.1.1.1.2
    rw [beq_iff_eq] at hm
    have hb2 : (up ops M j).testBit i = true := by
      rw [← hm, Nat.testBit_or, Bool.or_eq_true]
      exact .inl hb
    rcases foldl_bit M _ _ _ hb2 with h | ⟨d, hdm, h | h⟩
    · simp at h
    · subst h; exact hd i hdm
    · have hdj : d < j := by
        rw [List.all_eq_true] at hlts
        exact of_decide_eq_true (hlts d hdm)
      exact ih d hdj i (fun d' hd' => hcl d (hd d hdm) d' hd') (by omega) h

/-- The state with what some have left. -/
def putAll (ops : Array Oper) (vs : Nat → Value) : List Nat → Act → Act
  | [], a => a
  | i :: r, a => putAll ops vs r (a.put (dst ops i) (vs i))
theorem put_defers (a : Act) (d : Option Tmp) (v : Value) : (a.put d v).defers = a.defers := by cases d <;> rfl
theorem put_size (a : Act) (d : Option Tmp) (v : Value) : (a.put d v).tmps.size = a.tmps.size := by cases d <;> simp [Act.put]
theorem put_same (a : Act) (d : Tmp) (v : Value) (h : d < a.tmps.size) : (a.put (some d) v).tmps[d]? = some v := by simp [Act.put, h]
theorem put_other (a : Act) (d : Option Tmp) (v : Value) (t : Tmp) (h : d ≠ some t) : (a.put d v).tmps[t]? = a.tmps[t]? := by
  cases d with
  | none => rfl
  | some d => simp only [Act.put]; rw [Array.getElem?_setIfInBounds_ne (fun e => h (by rw [e]))]
theorem putAll_defers (vs : Nat → Value) (L : List Nat) : ∀ a : Act, (putAll ops vs L a).defers = a.defers := by
  induction L with
  | nil => intro a; rfl
  | cons i r ih => intro a; rw [putAll, ih, put_defers]
theorem putAll_size (vs : Nat → Value) (L : List Nat) : ∀ a : Act, (putAll ops vs L a).tmps.size = a.tmps.size := by
  induction L with
  | nil => intro a; rfl
  | cons i r ih => intro a; rw [putAll, ih, put_size]
theorem putAll_out (vs : Nat → Value) (L : List Nat) (t : Tmp) : ∀ a : Act, (∀ i ∈ L, dst ops i ≠ some t) → (putAll ops vs L a).tmps[t]? = a.tmps[t]? := by
  induction L with
  | nil => intro a _; rfl
  | cons i r ih => intro a h; rw [putAll, ih _ (fun k hk => h k (by simp [hk])), put_other _ _ _ _ (h i (by simp))]
theorem putAll_in (vs : Nat → Value) (hd : ∀ i k t, dst ops i = some t → dst ops k = some t → i = k) (L : List Nat) (i : Nat) (t : Tmp) (ht : dst ops i = some t) :
    ∀ a : Act, i ∈ L → t < a.tmps.size → (putAll ops vs L a).tmps[t]? = some (vs i) := by
  induction L with
  | nil => intro a h; cases h
  | cons k r ih =>
    intro a h hlt
    rw [putAll]
    by_cases hr : i ∈ r
    · exact ih _ hr (by rw [put_size]; exact hlt)
    · have hk : i = k := by
        rcases List.mem_cons.1 h with h | h
        · exact h
        · exact absurd h hr
      subst hk
      rw [putAll_out vs r t _ (fun k hk e => hr (by have := hd i k t ht e; rw [this]; exact hk)), ht, put_same _ _ _ hlt]

/-- What an operation is told of those before it. -/
def Told (ops : Array Oper) (F : Nat → Value → World → Prop) (w : World) : List Nat → Act → (Act → Prop) → Prop
  | [], a, k => k a
  | i :: r, a, k => ∀ v, F i v w → Told ops F w r (a.put (dst ops i) v) k
theorem Told.all {F : Nat → Value → World → Prop} {w : World} {k : Act → Prop} (vs : Nat → Value) (L : List Nat) : ∀ a : Act, Told ops F w L a k → (∀ i ∈ L, F i (vs i) w) → k (putAll ops vs L a) := by
  induction L with
  | nil => intro a h _; exact h
  | cons i r ih => intro a h hf; exact ih _ (h _ (hf i (by simp))) (fun k hk => hf k (by simp [hk]))
/-- What is told behind the region. -/
def ToldE (ops : Array Oper) (F : Nat → Value → World → Prop) (outs : List Nat) (w : World) : List Nat → Act → (Act → Prop) → Prop
  | [], a, k => k a
  | i :: r, a, k => ∀ v, (if outs.contains i then F i v w else True) → ToldE ops F outs w r (a.put (dst ops i) v) k
theorem ToldE.all {F : Nat → Value → World → Prop} {w : World} {k : Act → Prop} (vs : Nat → Value) (hf : ∀ i ∈ outs, F i (vs i) w) (L : List Nat) : ∀ a : Act, ToldE ops F outs w L a k → k (putAll ops vs L a) := by
  induction L with
  | nil => intro a h; exact h
  | cons i r ih =>
    intro a h
    refine ih _ (h _ ?_)
    by_cases hi : outs.contains i = true
    · rw [if_pos hi]; exact hf i (by simpa using hi)
    · rw [if_neg hi]; trivial

def valOf (d : Option Tmp) (a : Act) : Value := match d with | some d => a.tmps.getD d undef | none => undef

/-- What is to be shown of one operation: it runs to its end without a panic, leaves what F says, S anew, and, if it is none of soles, all old memory as it was. -/
def StepAt (P : Program) (ops : Array Oper) (S : World → Prop) (F : Nat → Value → World → Prop) (soles : List Nat) (j : Nat) (o : Oper) (dfs : List Deferred) (w : World) (a : Act) : Prop :=
  ∀ K : Value → World → Prop, Shut (∀ v w', F j v w' → S w' → (soles.contains j = true ∨ Below w.heap.size w w') → K v w') →
    if Region.wanted o (yielded ops a.tmps) = true then o.wp P a w (fun a' w' => a'.defers = dfs ∧ K (valOf o.dst a') w') (fun _ _ _ => False) else K undef w

/-- Whose facts are still wanted. -/
def Need (D : List (List Nat)) (outs : List Nat) (ops : Array Oper) (listed : Array Bool) (i : Nat) : Prop := i ∈ outs ∨ ∃ k, k < ops.size ∧ listed.getD k true = false ∧ i ∈ D.getD k []

structure Inv (ops : Array Oper) (D : List (List Nat)) (outs : List Nat) (N : Nat) (S : World → Prop) (F : Nat → Value → World → Prop) (a : Act) (listed : Array Bool) (vs : Nat → Value) (a' : Act) (w' : World) : Prop where
  size : listed.size = ops.size
  closed : ∀ j, listed.getD j false = true → ∀ d ∈ deps ops j, listed.getD d false = true
  dfs : a'.defers = a.defers
  n : a'.tmps.size = N
  new : ∀ i d, listed.getD i false = true → dst ops i = some d → a'.tmps[d]? = some (vs i)
  old : ∀ t, (∀ i, listed.getD i false = true → dst ops i ≠ some t) → a'.tmps[t]? = a.tmps[t]?
  s : S w'
  f : ∀ i, listed.getD i false = true → Need D outs ops listed i → F i (vs i) w'

def cnt (n : Nat) (listed : Array Bool) : Nat := (List.range n).countP fun j => !(listed.getD j true)
theorem countP_less {p q : Nat → Bool} (hpq : ∀ x, q x = true → p x = true) (j : Nat) (hp : p j = true) (hq : q j = false) : ∀ L : List Nat, L.countP q ≤ L.countP p ∧ (j ∈ L → L.countP q < L.countP p) := by
  intro L
  induction L with
  | nil => exact ⟨Nat.le_refl _, fun h => by cases h⟩
  | cons x r ih =>
    rw [List.countP_cons, List.countP_cons]
    have hx : (if q x = true then 1 else 0) ≤ (if p x = true then 1 else 0) := by
      by_cases h : q x = true
      · rw [if_pos h, if_pos (hpq x h)]; exact Nat.le_refl _
      · rw [if_neg h]; omega
    refine ⟨by omega, fun h => ?_⟩
    rcases List.mem_cons.1 h with rfl | h
    · rw [hq, if_pos hp]; simp; omega
    · have := ih.2 h; omega
theorem cnt_set {listed : Array Bool} {n j : Nat} (hj : j < n) (hs : listed.size = n) (h : listed.getD j true = false) : cnt n (listed.setIfInBounds j true) < cnt n listed := by
  refine (countP_less (j := j) ?_ (by simpa using h) ?_ (List.range n)).2 (List.mem_range.2 hj)
  · intro x hx
    by_cases e : j = x
    · subst e; simpa using h
    · simp only [Bool.not_eq_true'] at hx ⊢
      rwa [getD_set_ne true e] at hx
  · have : j < listed.size := by omega
    simp [this]

theorem listed_lt {listed : Array Bool} {i : Nat} (h : listed.getD i false = true) : i < listed.size := by
  rcases Nat.lt_or_ge i listed.size with h' | h'
  · exact h'
  · simp [Array.getElem?_eq_none h'] at h
theorem getD_set {listed : Array Bool} {i j : Nat} (h : (listed.setIfInBounds j true).getD i false = true) : i = j ∨ listed.getD i false = true := by
  by_cases e : j = i
  · exact .inl e.symm
  · rw [getD_set_ne false e] at h; exact .inr h

section
variable {S : World → Prop} {F : Nat → Value → World → Prop} {a : Act} {Q : Exit → Act → World → Prop}

theorem dst_inj (hc : chk ops M D outs soles N = true) : ∀ i k t, dst ops i = some t → dst ops k = some t → i = k := by
  intro i k t hi hk
  obtain ⟨oi, hoi⟩ : ∃ o, ops[i]? = some o := by
    unfold dst at hi
    cases h : ops[i]? with
    | none => rw [h] at hi; cases hi
    | some o => exact ⟨o, rfl⟩
  have hk2 : k < ops.size := by
    unfold dst at hk
    cases h : ops[k]? with
    | none => rw [h] at hk; cases hk
    | some o => exact (Array.getElem?_eq_some_iff.1 h).1
  have h1 := chk_one hc hoi
  unfold chk1 at h1
  simp only [Bool.and_eq_true] at h1
  have h2 := h1.2
  have hd : oi.dst = some t := by unfold dst at hi; rw [hoi] at hi; exact hi
  rw [hd] at h2
  simp only [Bool.and_eq_true, List.all_eq_true, List.mem_range, Bool.or_eq_true, beq_iff_eq, bne_iff_ne] at h2
  rcases h2.2 k hk2 with h | h
  · exact h.symm
  · exact absurd hk h
theorem dst_lt (hc : chk ops M D outs soles N = true) {i : Nat} {t : Tmp} (hi : dst ops i = some t) : t < N := by
  obtain ⟨oi, hoi⟩ : ∃ o, ops[i]? = some o := by
    unfold dst at hi
    cases h : ops[i]? with
    | none => rw [h] at hi; cases hi
    | some o => exact ⟨o, rfl⟩
  have h1 := chk_one hc hoi
  unfold chk1 at h1
  simp only [Bool.and_eq_true] at h1
  have h2 := h1.2
  have hd : oi.dst = some t := by unfold dst at hi; rw [hoi] at hi; exact hi
  rw [hd] at h2
  simp only [Bool.and_eq_true, decide_eq_true_eq] at h2
  exact h2.1

theorem none_ready (hc : chk ops M D outs soles N = true) {listed : Array Bool} (hs : listed.size = ops.size) (h : Region.ready .any ops listed = []) : ∀ j, j < ops.size → listed.getD j false = true := by
  intro j
  induction j using Nat.strongRecOn with
  | _ j ih =>
    intro hlt
    have hj : ops[j]? = some ops[j] := Array.getElem?_eq_getElem hlt
    have h1 := chk_one hc hj
    unfold chk1 at h1
    simp only [Bool.and_eq_true] at h1
    have hlts := h1.1.1.1.1
    rw [List.all_eq_true] at hlts
    cases hl : listed.getD j true with
    | true =>
      have : j < listed.size := by omega
      simp [this] at hl ⊢
      exact hl
    | false =>
      have : j ∈ Region.ready .any ops listed := by
        rw [mem_ready]
        refine ⟨hl, _, hj, fun e he hb => ?_⟩
        have hm : e.on ∈ deps ops j := by
          unfold deps
          rw [hj]
          exact List.mem_map.2 ⟨e, List.mem_filter.2 ⟨by simpa using he, hb⟩, rfl⟩
        have hlt2 : e.on < j := of_decide_eq_true (hlts _ hm)
        exact ih _ hlt2 (by omega)
      rw [h] at this
      cases this

/-- The state that an operation sees is what it is told of. -/
theorem sees (hc : chk ops M D outs soles N = true) {listed : Array Bool} {vs : Nat → Value} {a' : Act} {w' : World} (hI : Inv ops D outs N S F a listed vs a' w') (hN : a.tmps.size = N) {j : Nat} {o : Oper} (hj : ops[j]? = some o)
    (hd : ∀ d ∈ deps ops j, listed.getD d false = true) (hun : listed.getD j false = false) :
    execOp a'.eval o = execOp (putAll ops vs (D.getD j []) a).eval o ∧ Region.wanted o (yielded ops a'.tmps) = Region.wanted o (yielded ops (putAll ops vs (D.getD j []) a).tmps) ∧ ∀ i ∈ D.getD j [], listed.getD i false = true := by
  have hlt := (Array.getElem?_eq_some_iff.1 hj).1
  have h1 := chk_one hc hj
  unfold chk1 at h1
  simp only [Bool.and_eq_true] at h1
  have hanc : ∀ i ∈ D.getD j [], listed.getD i false = true := fun i hi => by
    have := h1.1.1.2
    rw [List.all_eq_true] at this
    exact anc_listed hc hI.closed j i hd hlt (this i hi)
  have hlk := h1.1.2
  rw [List.all_eq_true] at hlk
  have same : ∀ t ∈ o.looksAt ops, a'.tmps[t]? = (putAll ops vs (D.getD j []) a).tmps[t]? := by
    intro t ht
    have hall := hlk t ht
    rw [List.all_eq_true] at hall
    by_cases hex : ∃ i ∈ D.getD j [], dst ops i = some t
    · obtain ⟨i, hi, hdi⟩ := hex
      rw [hI.new i t (hanc i hi) hdi, putAll_in vs (dst_inj hc) _ i t hdi a hi (by rw [hN]; exact dst_lt hc hdi)]
    · rw [putAll_out vs _ t a (fun i hi e => hex ⟨i, hi, e⟩)]
      refine hI.old t fun i hli hdi => ?_
      have hin : i < ops.size := by rw [← hI.size]; exact listed_lt hli
      have := hall i (List.mem_range.2 hin)
      simp only [Bool.or_eq_true, bne_iff_ne, ne_eq, List.contains_iff_mem, beq_iff_eq] at this
      rcases this with ((h | h) | h) | h
      · exact h hdi
      · exact hex ⟨i, h, hdi⟩
      · subst h; rw [hun] at hli; cases hli
      · have := anc_listed hc hI.closed i j (hI.closed i hli) hin h
        rw [hun] at this; cases this
  refine ⟨?_, ?_, hanc⟩
  · refine execOp_congr o (Region.noSelect_spec (chk_sel hc) j o · · hj) fun x hx => ?_
    cases x with
    | tmp t =>
      have ht : t ∈ o.looksAt ops := List.mem_append_left _ (List.mem_filterMap.2 ⟨.tmp t, by simpa using hx, rfl⟩)
      have := same t ht
      simp only [Act.eval, Array.getD_eq_getD_getElem?, this]
    | _ => rfl
  · unfold Region.wanted
    cases hg : o.guard with
    | none => rfl
    | some gw =>
      obtain ⟨g, want⟩ := gw
      have hy : yielded ops a'.tmps g = yielded ops (putAll ops vs (D.getD j []) a).tmps g := by
        unfold yielded
        cases ht : (ops[g]?).bind (·.dst) with
        | none => rfl
        | some t =>
          have := same t (List.mem_append_right _ (by simp [hg, ht]))
          simp only [Option.bind_some, this]
      simp only [hy]

theorem inv_step (hc : chk ops M D outs soles N = true) {listed : Array Bool} {vs : Nat → Value} {a' : Act} {w' : World} (hI : Inv ops D outs N S F a listed vs a' w') {j : Nat} {o : Oper} (hj : ops[j]? = some o)
    (hd : ∀ d ∈ deps ops j, listed.getD d false = true) (hun : listed.getD j true = false)
    (hstab : ∀ i v w w', F i v w → Below w.heap.size w w' → F i v w') (v : Value) (w2 : World) (hF : F j v w2) (hS : S w2) (hT : soles.contains j = true ∨ Below w'.heap.size w' w2) :
    Inv ops D outs N S F a (listed.setIfInBounds j true) (fun i => if i = j then v else vs i) (a'.put o.dst v) w2 := by
  have hlt := (Array.getElem?_eq_some_iff.1 hj).1
  have hls : j < listed.size := by rw [hI.size]; exact hlt
  have hunf : listed.getD j false = false := by simp [hls] at hun ⊢; exact hun
  have hdj : dst ops j = o.dst := by unfold dst; rw [hj]; rfl
  refine ⟨by simpa using hI.size, ?_, by rw [put_defers]; exact hI.dfs, by rw [put_size]; exact hI.n, ?_, ?_, hS, ?_⟩
  · intro k hk d hdk
    rcases getD_set hk with rfl | hk
    · exact getD_set_true (hd d hdk)
    · exact getD_set_true (hI.closed k hk d hdk)
  · intro i d hi hdi
    by_cases e : i = j
    · subst e
      rw [hdj] at hdi
      rw [hdi, put_same _ _ _ (by rw [hI.n]; exact dst_lt hc (by rw [hdj]; exact hdi)), if_pos rfl]
    · rw [if_neg e]
      rcases getD_set hi with h | h
      · exact absurd h e
      · rw [put_other _ _ _ _ (fun he => e (dst_inj hc i j d hdi (by rw [hdj]; exact he)))]
        exact hI.new i d h hdi
  · intro t ht
    have hjt : dst ops j ≠ some t := ht j (by simp [hls])
    rw [put_other _ _ _ _ (by rw [← hdj]; exact hjt)]
    exact hI.old t fun i hi => ht i (getD_set_true hi)
  · intro i hi hn
    by_cases e : i = j
    · subst e; rw [if_pos rfl]; exact hF
    · rw [if_neg e]
      rcases getD_set hi with h | h
      · exact absurd h e
      rcases hT with hs | hb
      · -- nobody else's fact is wanted any more
        exfalso
        have hk := chk_sole hc (by simpa using hs)
        unfold chkS at hk
        simp only [Bool.and_eq_true, List.all_eq_true, List.mem_range, Bool.or_eq_true, beq_iff_eq] at hk
        have late : ∀ i, listed.getD i false = true → bit M i j = true → False := fun i hi hb => by
          have := anc_listed hc hI.closed i j (hI.closed i hi) (by rw [← hI.size]; exact listed_lt hi) hb
          rw [hunf] at this; cases this
        rcases hn with ho | ⟨k, hk1, hk2, hk3⟩
        · rcases hk.2 i ho with h1 | h1
          · exact e h1
          · exact late i h h1
        · have hkj : k ≠ j := by
            intro e2
            subst e2
            simp [hls] at hk2
          rw [getD_set_ne true (Ne.symm hkj)] at hk2
          rcases hk.1 k hk1 with (h1 | h1) | h1
          · exact hkj h1
          · have := anc_listed hc hI.closed j k hd hlt h1
            have hks : k < listed.size := by rw [hI.size]; exact hk1
            simp [hks] at hk2 this
            rw [hk2] at this; cases this
          · rcases h1 i hk3 with h2 | h2
            · exact e h2
            · exact late i h h2
      · refine hstab i _ _ _ (hI.f i h ?_) hb
        rcases hn with ho | ⟨k, hk1, hk2, hk3⟩
        · exact .inl ho
        · by_cases ek : j = k
          · subst ek; simp [hls] at hk2
          · rw [getD_set_ne true ek] at hk2
            exact .inr ⟨k, hk1, hk2, hk3⟩

/-- **A region whose order is open**, by what each operation leaves. -/
theorem wp_free (hc : chk ops M D outs soles N = true) {id : Nat} {w : World} (hm : P.follows .mixedOrders = true) (hN : a.tmps.size = N)
    (hstab : ∀ i v w w', F i v w → Below w.heap.size w w' → F i v w') (hS : S w.drew)
    (hstep : ∀ j o, ops[j]? = some o → ∀ w', S w' → Told ops F w' (D.getD j []) a (StepAt P ops S F soles j o a.defers w'))
    (hend : ∀ w', S w' → ToldE ops F outs w' (List.range ops.size) a (fun a' => Q .normal a' w')) : (Code.region id ops true).wp P Q a w := by
  refine wp_region_any hm ?_
  suffices H : ∀ (fuel : Nat) (listed : Array Bool) (vs : Nat → Value) (a' : Act) (w' : World), Inv ops D outs N S F a listed vs a' w' → cnt ops.size listed ≤ fuel → wpAny P .any ops Q fuel listed a' w' by
    refine H _ _ (fun _ => undef) _ _ ⟨by simp, ?_, rfl, hN, ?_, fun _ _ => rfl, hS, ?_⟩ ?_
    · intro j hj; exfalso; have hl := listed_lt hj; simp at hl hj; simp [hl] at hj
    · intro j d hj; exfalso; have hl := listed_lt hj; simp at hl hj; simp [hl] at hj
    · intro j hj; exfalso; have hl := listed_lt hj; simp at hl hj; simp [hl] at hj
    · unfold cnt; exact Nat.le_trans List.countP_le_length (by simp)
  have fin : ∀ (listed : Array Bool) (vs : Nat → Value) (a' : Act) (w' : World), Inv ops D outs N S F a listed vs a' w' → Region.ready .any ops listed = [] → Q .normal a' w' := by
    intro listed vs a' w' hI hr
    have hall := none_ready hc hI.size hr
    have ho : ∀ i ∈ outs, F i (vs i) w' := fun i hi => by
      have hlt : i < ops.size := by
        unfold chk at hc
        simp only [Bool.and_eq_true, List.all_eq_true] at hc
        exact of_decide_eq_true (hc.2 i hi)
      exact hI.f i (hall i hlt) (.inl hi)
    have := (hend w' hI.s).all vs ho _ _
    have e : putAll ops vs (List.range ops.size) a = a' := by
      have e1 : (putAll ops vs (List.range ops.size) a).defers = a'.defers := by rw [putAll_defers, hI.dfs]
      have e2 : (putAll ops vs (List.range ops.size) a).tmps = a'.tmps := by
        apply Array.ext_getElem?
        intro t
        by_cases hex : ∃ i, i < ops.size ∧ dst ops i = some t
        · obtain ⟨i, hi, hdi⟩ := hex
          rw [putAll_in vs (dst_inj hc) _ i t hdi a (List.mem_range.2 hi) (by rw [hN]; exact dst_lt hc hdi), hI.new i t (hall i hi) hdi]
        · rw [putAll_out vs _ t a (fun i hi e => hex ⟨i, List.mem_range.1 hi, e⟩)]
          exact (hI.old t fun i hi e => hex ⟨i, by rw [← hI.size]; exact listed_lt hi, e⟩).symm
      cases h1 : putAll ops vs (List.range ops.size) a
      cases h2 : a'
      rw [h1, h2] at e1 e2
      simp only at e1 e2
      rw [e1, e2]
    rw [e] at this
    exact this
  intro fuel
  induction fuel with
  | zero =>
    intro listed vs a' w' hI hcn
    have hr : Region.ready .any ops listed = [] := by
      rw [List.eq_nil_iff_forall_not_mem]
      intro j hj
      obtain ⟨hl, o, ho, _⟩ := mem_ready.1 hj
      have := cnt_set (Array.getElem?_eq_some_iff.1 ho).1 hI.size hl
      omega
    exact ⟨hr, fin _ _ _ _ hI hr⟩
  | succ fuel ih =>
    intro listed vs a' w' hI hcn
    refine ⟨fin _ _ _ _ hI, fun j hj => ?_⟩
    obtain ⟨hun, o, hjo, hall⟩ := mem_ready.1 hj
    have hlt := (Array.getElem?_eq_some_iff.1 hjo).1
    have hls : j < listed.size := by rw [hI.size]; exact hlt
    have hunf : listed.getD j false = false := by simp [hls] at hun ⊢; exact hun
    have hd : ∀ d ∈ deps ops j, listed.getD d false = true := fun d hdm => by
      unfold deps at hdm
      rw [hjo] at hdm
      obtain ⟨e, he, rfl⟩ := List.mem_map.1 hdm
      obtain ⟨he1, he2⟩ := List.mem_filter.1 he
      exact hall e (by simpa using he1) he2
    obtain ⟨hex, hwn, hlD⟩ := sees hc hI hN hjo hd hunf
    have hcn2 := cnt_set hlt hI.size hun
    have hst := (hstep j o hjo w' hI.s).all vs _ _ fun i hi => hI.f i (hlD i hi) (.inr ⟨j, hlt, hun, hi⟩)
    have hst2 := hst (fun v w2 => wpAny P .any ops Q fuel (listed.setIfInBounds j true) (a'.put o.dst v) w2)
      (fun v w2 hF hS2 hT => ih _ _ _ _ (inv_step hc hI hjo hd hun hstab v w2 hF hS2 hT) (by omega))
    have hdfs : (putAll ops vs (D.getD j []) a).defers = a.defers := putAll_defers _ _ _
    have hval : ∀ v, a'.put o.dst (valOf o.dst ((putAll ops vs (D.getD j []) a).put o.dst v)) = a'.put o.dst v := fun v => by
      cases ho : o.dst with
      | none => rfl
      | some d =>
        have hdl : d < N := dst_lt hc (i := j) (by unfold dst; rw [hjo]; exact ho)
        have : ((putAll ops vs (D.getD j []) a).put (some d) v).tmps[d]? = some v := put_same _ _ _ (by rw [putAll_size, hN]; exact hdl)
        unfold valOf
        simp only [Array.getD_eq_getD_getElem?, this, Option.getD_some]
    unfold wpOp
    simp only [hjo]
    rw [hwn]
    split
    · rename_i hw
      rw [if_pos hw] at hst2
      refine .inl ?_
      unfold Oper.wp at hst2 ⊢
      rw [hex]
      generalize (execOp (putAll ops vs (D.getD j []) a).eval o).run P w' = r at *
      cases r with
      | ok n w2 =>
        cases n <;> simp only [Oper.upon] at hst2 ⊢
        case value v => have := hst2.2; rw [hval] at this; exact this
        case skip => have := hst2.2; rw [hval] at this; exact this
        case defer d => exact absurd hst2.1 (by rw [put_defers]; show ¬ (d :: _) = _; rw [hdfs]; exact List.cons_ne_self _ _)
        case enter f args =>
          refine Calls.mono hst2 fun e w3 he => ?_
          cases e with
          | returned v => have := he.2; rw [hval] at this; exact this
          | panicked c => exact he.elim
          | outgrown => obtain ⟨_, _, h⟩ := he; exact h.elim
        case row row args => exact Rows.mono hst2 fun v w3 he => by have := he.2; rw [hval] at this; exact this
      | halt x w2 => cases x <;> simp only [Oper.upon] at hst2 ⊢
    · rename_i hw
      rw [if_neg hw] at hst2
      exact hst2
end

/-- A fact on a value that new memory leaves true. -/
structure Fact where
  f : Value → World → Prop
  stab : ∀ v w w', f v w → Below w.heap.size w w' → f v w'
/-- It is x. -/
def Fact.is (x : Value) : Fact := ⟨fun v _ => v = x, fun _ _ _ h _ => h⟩
def Fact.any : Fact := ⟨fun _ _ => True, fun _ _ _ _ _ => trivial⟩
def facts (L : List Fact) (i : Nat) (v : Value) (w : World) : Prop := (L.getD i Fact.any).f v w

def Told' (F : Nat → Value → World → Prop) (w : World) : List (Nat × Tmp) → Act → (Act → Prop) → Prop
  | [], a, k => k a
  | (i, t) :: r, a, k => ∀ v, F i v w → Told' F w r (a.put (some t) v) k
theorem Told'.told {F : Nat → Value → World → Prop} {w : World} {k : Act → Prop} : ∀ (L : List (Nat × Tmp)) (a : Act), (L.all fun p => dst ops p.1 == some p.2) = true → Told' F w L a k → Told ops F w (L.map (·.1)) a k
  | [], _, _, h => h
  | (i, t) :: r, a, hl, h => fun v hv => by
    simp only [List.all_cons, Bool.and_eq_true, beq_iff_eq] at hl
    have := Told'.told r (a.put (some t) v) hl.2 (h v hv)
    rw [← hl.1] at this
    exact this
def ToldE' (F : Nat → Value → World → Prop) (w : World) : List (Nat × Tmp × Bool) → Act → (Act → Prop) → Prop
  | [], a, k => k a
  | (i, t, true) :: r, a, k => ∀ v, F i v w → ToldE' F w r (a.put (some t) v) k
  | (_, t, false) :: r, a, k => ∀ v, ToldE' F w r (a.put (some t) v) k
theorem ToldE'.told {F : Nat → Value → World → Prop} {outs : List Nat} {w : World} {k : Act → Prop} : ∀ (R : List Nat) (a : Act), ToldE' F w (R.filterMap fun i => (dst ops i).map fun t => (i, t, outs.contains i)) a k → ToldE ops F outs w R a k
  | [], _, h => h
  | i :: r, a, h => fun v hv => by
    cases hd : dst ops i with
    | none =>
      rw [List.filterMap_cons, hd] at h
      exact ToldE'.told r _ h
    | some t =>
      rw [List.filterMap_cons, hd] at h
      simp only [Option.map_some] at h
      cases ho : outs.contains i with
      | true =>
        rw [ho] at h
        rw [if_pos ho] at hv
        exact ToldE'.told r _ (h v hv)
      | false =>
        rw [ho] at h
        exact ToldE'.told r _ (h v)

def StepsFrom (X : Nat → Oper → Prop) : Nat → List Oper → Prop
  | _, [] => True
  | j, o :: r => X j o ∧ StepsFrom X (j + 1) r
theorem cons {X : Nat → Oper → Prop} {j : Nat} {o : Oper} {r : List Oper} (h : X j o) (t : StepsFrom X (j + 1) r) : StepsFrom X j (o :: r) := ⟨h, t⟩
theorem nil {X : Nat → Oper → Prop} {j : Nat} : StepsFrom X j [] := trivial
theorem StepsFrom.all {X : Nat → Oper → Prop} : ∀ (l : List Oper) (k : Nat), StepsFrom X k l → ∀ j o, l[j]? = some o → X (k + j) o
  | [], _, _, j, o, h => by simp at h
  | x :: r, k, h, 0, o, hj => by simp at hj; subst hj; exact h.1
  | x :: r, k, h, j + 1, o, hj => by
    have := StepsFrom.all r (k + 1) h.2 j o (by simpa using hj)
    rwa [show k + 1 + j = k + (j + 1) by omega] at this

def chk' (ops : Array Oper) (M : List Nat) (D : List (List (Nat × Tmp))) (outs soles : List Nat) (E : List (Nat × Tmp × Bool)) (N : Nat) : Bool :=
  chk ops M (D.map fun l => l.map (·.1)) outs soles N && (D.all fun l => l.all fun p => dst ops p.1 == some p.2) && ((List.range ops.size).filterMap fun i => (dst ops i).map fun t => (i, t, outs.contains i)) == E

/-- **A region whose order is open**, by what each operation leaves, written out. -/
theorem wp_facts {M : List Nat} {D : List (List (Nat × Tmp))} {outs soles : List Nat} {E : List (Nat × Tmp × Bool)} {N : Nat} {id : Nat} {w : World} {a : Act} {Q : Exit → Act → World → Prop} {S : World → Prop} (L : List Fact)
    (hm : P.follows .mixedOrders = true) (hc : chk' ops M D outs soles E N = true) (hN : a.tmps.size = N) (hS : S w.drew)
    (hstep : StepsFrom (fun j o => ∀ w', S w' → Told' (facts L) w' (D.getD j []) a (StepAt P ops S (facts L) soles j o a.defers w')) 0 ops.toList)
    (hend : ∀ w', S w' → ToldE' (facts L) w' E a (fun a' => Q .normal a' w')) : (Code.region id ops true).wp P Q a w := by
  unfold chk' at hc
  simp only [Bool.and_eq_true, beq_iff_eq] at hc
  obtain ⟨⟨hc1, hc2⟩, hc3⟩ := hc
  refine wp_free hc1 (F := facts L) (S := S) hm hN (fun i v w w' h hb => (L.getD i Fact.any).stab v w w' h hb) hS ?_ ?_
  · intro j o hj w' hw'
    have h := StepsFrom.all ops.toList 0 hstep j o (by simpa using hj)
    rw [Nat.zero_add] at h
    have h2 := h w' hw'
    have e : (D.map fun l => l.map (·.1)).getD j [] = (D.getD j []).map (·.1) := by
      simp only [List.getD_eq_getElem?_getD, List.getElem?_map]
      cases D[j]? <;> rfl
    rw [e]
    refine Told'.told _ _ ?_ h2
    cases hd : D[j]? with
    | none => simp [List.getD_eq_getElem?_getD, hd]
    | some l =>
      rw [List.all_eq_true] at hc2
      simp only [List.getD_eq_getElem?_getD, hd, Option.getD_some]
      exact hc2 l (List.mem_of_getElem? hd)
  · intro w' hw'
    refine ToldE'.told _ _ ?_
    rw [hc3]
    exact hend w' hw'
theorem run_yes {c : Bool} {A B : Prop} (h : c = true) (a : A) : if c = true then A else B := by rw [if_pos h]; exact a
theorem run_no {c : Bool} {A B : Prop} (h : c = false) (b : B) : if c = true then A else B := by rw [h, if_neg Bool.false_ne_true]; exact b
theorem o {F : Value → World → Prop} {S : World → Prop} {b : Bool} {w : World} {K : Value → World → Prop} {v : Value} (hK : Shut (∀ v w', F v w' → S w' → (b = true ∨ Below w.heap.size w w') → K v w')) (hS : S w) (hf : F v w) : K v w := hK.out _ _ hf hS (.inr (Below.refl _ _))
theorem c {F : Value → World → Prop} {S : World → Prop} {b : Bool} {w w' : World} {K : Value → World → Prop} {v : Value} (hK : Shut (∀ v w', F v w' → S w' → (b = true ∨ Below w.heap.size w w') → K v w')) (hS : S w') (hb : Below w.heap.size w w') (hf : F v w') : K v w' := hK.out _ _ hf hS (.inr hb)
theorem val (d : Tmp) (a : Act) : valOf (some d) a = a.tmps.getD d undef := rfl
theorem toldE_nil {F : Nat → Value → World → Prop} {w : World} {a : Act} {k : Act → Prop} (h : k a) : ToldE' F w [] a k := h
end Free
end Go.Proofs.Ytfldmejjepakeaa
