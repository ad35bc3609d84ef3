/- Operations appended to a slice of the call's own. -/
import Derived.Test.YtdmjiaicgbcodaaOpsCut
import Derived.Laws.OwnMore
import Derived.Test.YtdmjiaicgbcodaaLayK
namespace Go.Proofs.Ytdmjiaicgbcodaa
open Go.ChangeShapes Go.WideShapes Go.ChangeAt Go.RowKit
open Go.ChangeMaps (open_string shut_string)
set_option linter.unusedVariables false
set_option linter.unusedSimpArgs false
open Go.Deep

/-- The cells xs are those of the operations L; what they point to is as in w0. -/
def Flat (w0 : World) (L : List OpR) (xs : List Value) : Prop := xs.length = L.length * 6 ∧ ∀ i p, L[i]? = some p → ∃ B m k, RE w0 B m k p.args ∧ ∀ f v, ([.int .i64 p.k, .int .i64 p.r, .int .i64 p.t, .int .i64 p.c, .int .i64 p.l, .slice B m k] : List Value)[f]? = some v → xs[i * 6 + f]? = some v
theorem Flat.append {w0 : World} {L M : List OpR} {xs ys : List Value} (h : Flat w0 L xs) (h2 : Flat w0 M ys) : Flat w0 (L ++ M) (xs ++ ys) := by
  refine ⟨by rw [List.length_append, List.length_append, h.1, h2.1, Nat.add_mul], fun i p hp => ?_⟩
  by_cases hi : i < L.length
  · rw [List.getElem?_append_left hi] at hp
    obtain ⟨B, m, k, hE, hv⟩ := h.2 i p hp
    refine ⟨B, m, k, hE, fun f v hf => ?_⟩
    have hx := hv f v hf
    rw [List.getElem?_append_left (List.getElem?_eq_some_iff.1 hx).1]
    exact hx
  · rw [List.getElem?_append_right (by omega)] at hp
    obtain ⟨B, m, k, hE, hv⟩ := h2.2 _ p hp
    refine ⟨B, m, k, hE, fun f v hf => ?_⟩
    have hx := hv f v hf
    rw [List.getElem?_append_right (by rw [h.1]; have : L.length * 6 ≤ i * 6 := by omega
                                       omega), h.1, ← hx]
    congr 1
    omega
/-- What a slice reads as, cell for cell. -/
theorem RO.flat {w : World} {A : Option Addr} {n c : Nat} {L : List OpR} (h : RO w A n c L) : ∃ xs, Flat w L xs ∧ ∀ a, A = some a → ∀ j u, xs[j]? = some u → w.cell? (a.add j) = some u := by
  have each : ∀ i, i < n → ∃ cs : List Value, cs.length = 6 ∧ (∃ p, L[i]? = some p ∧ ∃ B m k, RE w B m k p.args ∧ cs = [.int .i64 p.k, .int .i64 p.r, .int .i64 p.t, .int .i64 p.c, .int .i64 p.l, .slice B m k]) ∧ ∀ a, A = some a → ∀ f v, cs[f]? = some v → w.cell? (a.add (i * 6 + f)) = some v := by
    intro i hi
    obtain ⟨p, hp⟩ : ∃ p, L[i]? = some p := ⟨_, List.getElem?_eq_getElem (by rw [h.len]; exact hi)⟩
    obtain ⟨g, o, e, hx⟩ := h.at_ (by omega)
    obtain ⟨B, m, k, hE, hv⟩ := hx i p hp
    refine ⟨[.int .i64 p.k, .int .i64 p.r, .int .i64 p.t, .int .i64 p.c, .int .i64 p.l, .slice B m k], rfl, ⟨p, hp, B, m, k, hE, rfl⟩, fun a ha f v hf => ?_⟩
    rw [e] at ha
    injection ha with ha
    subst ha
    rw [Addr.add_lit, ← Nat.add_assoc]
    exact hv f v hf
  obtain ⟨C, hC⟩ := choose_lt (α := List Value) each
  have hget : ∀ j, j < n * 6 → ((List.range (n * 6)).map fun j => (C (j / 6)).getD (j % 6) undef)[j]? = (C (j / 6))[j % 6]? := by
    intro j hj
    rw [List.getElem?_map, List.getElem?_range hj]
    have hl := (hC (j / 6) (by omega)).1
    simp [List.getD, List.getElem?_eq_getElem (show j % 6 < (C (j / 6)).length by omega)]
  refine ⟨(List.range (n * 6)).map fun j => (C (j / 6)).getD (j % 6) undef, ⟨by simp [h.len], fun i p hp => ?_⟩, fun a ha j u hu => ?_⟩
  · have hi : i < n := by have := (List.getElem?_eq_some_iff.1 hp).1; rw [h.len] at this; exact this
    obtain ⟨hl, ⟨p', hp', B, m, k, hE, hcs⟩, _⟩ := hC i hi
    rw [hp] at hp'
    injection hp' with hp'
    subst hp'
    refine ⟨B, m, k, hE, fun f v hf => ?_⟩
    have hf6 : f < 6 := by have := (List.getElem?_eq_some_iff.1 hf).1; simpa using this
    rw [hget (i * 6 + f) (by omega), show (i * 6 + f) / 6 = i by omega, show (i * 6 + f) % 6 = f by omega, hcs]
    exact hf
  · have hj : j < n * 6 := by have := (List.getElem?_eq_some_iff.1 hu).1; simpa using this
    rw [hget j hj] at hu
    have := (hC (j / 6) (by omega)).2.2 a ha (j % 6) u hu
    rw [show j / 6 * 6 + j % 6 = j by omega] at this
    exact this
theorem info_op : (Try.prog.info? 51).map (fun i => (i.zero, i.size, i.bytes)) = some (some (.agg #[.int .i64 0, .int .i64 0, .int .i64 0, .int .i64 0, .int .i64 0, .slice none 0 0]), 6, 64) := by kernel_rfl
/-- A slice of the call's own that reads as operations. -/
def OO (w0 w : World) (v : Value) (L : List OpR) : Prop := ∃ xs, w.ownsRow w0.heap.size 51 6 v L.length xs ∧ Flat w0 L xs
theorem OO.ro {w0 w : World} {v : Value} {L : List OpR} (h : OO w0 w v L) (hb : Below w0.heap.size w0 w) : ∃ A c, v = .slice A L.length c ∧ RO w A L.length c L := by
  obtain ⟨xs, ⟨hl, ho⟩, hf⟩ := h
  rcases ho with ⟨rfl, h0⟩ | ⟨g, cap, cur, rfl, hg, hheap, hnc, hcm, hcs, htake⟩
  · obtain rfl : L = [] := List.eq_nil_of_length_eq_zero h0
    exact ⟨none, 0, rfl, RO.none_ w⟩
  · refine ⟨some ⟨g, 0, none⟩, cap, rfl, rfl, hnc, hcm, (fun h => by cases h), fun hn => ⟨g, 0, rfl, fun i p hp => ?_⟩⟩
    obtain ⟨B, m, k, hE, hv⟩ := hf.2 i p hp
    refine ⟨B, m, k, hE.below hb, fun f u hu => ?_⟩
    have hx := hv f u hu
    rw [← htake, List.getElem?_take] at hx
    split at hx
    · rw [Nat.zero_add]
      simp [World.cell?, hheap]
      rw [← Array.getElem?_toList]
      exact hx
    · cases hx
theorem OO.empty (w0 w : World) (hb : w0.heap.size ≤ w.heap.size) : OO w0 (w.alloc (.cells #[] 51)) (.slice (some ⟨w.heap.size, 0, none⟩) 0 0) [] :=
  ⟨[], ⟨rfl, .inr ⟨w.heap.size, 0, #[], rfl, hb, Blk.new w #[] 51, Nat.le_refl _, by decide, rfl, rfl⟩⟩, rfl, fun i p hp => by simp at hp⟩
theorem opv_one (p : OpR) (B : Option Addr) (m k : Nat) : ∀ u ∈ ([.int .i64 p.k, .int .i64 p.r, .int .i64 p.t, .int .i64 p.c, .int .i64 p.l, .slice B m k] : List Value), u.oneCell' = true := by
  intro u hu
  simp only [List.mem_cons, List.not_mem_nil, or_false] at hu
  rcases hu with rfl | rfl | rfl | rfl | rfl | rfl <;> rfl
theorem Flat.one {w0 : World} {L : List OpR} {xs : List Value} (h : Flat w0 L xs) : ∀ u ∈ xs, u.oneCell' = true := by
  intro u hu
  obtain ⟨j, hj⟩ := List.mem_iff_getElem?.1 hu
  have hlt := (List.getElem?_eq_some_iff.1 hj).1
  rw [h.1] at hlt
  obtain ⟨p, hp⟩ : ∃ p, L[j / 6]? = some p := ⟨_, List.getElem?_eq_getElem (by omega)⟩
  obtain ⟨B, m, k, hE, hv⟩ := h.2 (j / 6) p hp
  obtain ⟨y, hy⟩ : ∃ y, ([.int .i64 p.k, .int .i64 p.r, .int .i64 p.t, .int .i64 p.c, .int .i64 p.l, .slice B m k] : List Value)[j % 6]? = some y := ⟨_, List.getElem?_eq_getElem (by simp; omega)⟩
  have := hv (j % 6) y hy
  rw [show j / 6 * 6 + j % 6 = j by omega, hj] at this
  injection this with this
  subst this
  exact opv_one p B m k u (List.mem_of_getElem? hy)
/-- append of operations. -/
theorem run_appo (ty : TypeId) (w0 w : World) (v : Value) (L M : List OpR) (h : OO w0 w v L) (hb : Below w0.heap.size w0 w) (a : Addr) (m c : Nat) (ys : List Value) (hf : Flat w0 M ys) (hy : ∀ j u, ys[j]? = some u → w.cell? (a.add j) = some u) (hm : M.length = m) (hsz : L.length + m ≤ 100000) :
    ∃ v' w', (Builtin.append_ #[42, 42] ty #[v, .slice (some a) m c]).run Try.prog w = .ok v' w' ∧ OO w0 w' v' (L ++ M) ∧ Below w0.heap.size w0 w' ∧ w.heap.size ≤ w'.heap.size ∧ Keeps (fun k => v.ownBlock = some k) w w' := by
  obtain ⟨i0, hi, hz0, hz1, hz2⟩ := info_is info_op
  obtain ⟨xs, hown, hx⟩ := h
  obtain ⟨v', w', hrun, h1, h2, _, h4⟩ := run_append_own_at (P := Try.prog) w w0.heap.size 42 ty 51 i0 _ 6 64 Try.underlying42 hi hz0 hz1 hz2 rfl (by decide) v L.length xs hown a m c ys (by rw [hf.1, hm]) hy hf.one (by unfold maxLen; omega) (by omega) hb.size
  have hk : Keeps (fun k => v.ownBlock = some k) w w' := ⟨h2.os, h2.tape, h2.output, h2.size, fun k hk hn => h2.block k hk (fun e => hn e.symm)⟩
  refine ⟨v', w', hrun, ⟨xs ++ ys, by rw [List.length_append, hm]; exact h1, hx.append hf⟩, hb.keeps hk (fun i hi e => ?_) (Nat.le_refl _), h2.size, hk⟩
  rcases hown.2 with ⟨rfl, _⟩ | ⟨g, cap, cur, rfl, hg, _⟩
  · simp [Value.ownBlock] at e
  · simp [Value.ownBlock] at e; omega
theorem wpList_appo {ops : Array Oper} {o : Oper} {a : Act} {w0 w : World} {rest : List Oper} {Q : Exit → Act → World → Prop} (hgd : o.guard = none) (s x : Operand) (hop : o.op = Op.call { callee := Callee.builtin Builtin.append, args := #[s, x], argTypes := #[42, 42] })
    (v : Value) (L M : List OpR) (ad : Addr) (m c : Nat) (ys : List Value) (hs : a.eval s = v) (hx : a.eval x = .slice (some ad) m c) (h : OO w0 w v L) (hb : Below w0.heap.size w0 w) (hf : Flat w0 M ys) (hy : ∀ j u, ys[j]? = some u → w.cell? (ad.add j) = some u) (hm : M.length = m) (hsz : L.length + m ≤ 100000)
    (hk : ∀ v' w', OO w0 w' v' (L ++ M) → Below w0.heap.size w0 w' → Keeps (fun k => v.ownBlock = some k) w w' → wpList Try.prog ops Q rest (a.put o.dst v') w') : wpList Try.prog ops Q (o :: rest) a w := by
  refine wpList_plain hgd fun K hK => ?_
  obtain ⟨v', w', hrun, h1, h2, _, h3⟩ := run_appo o.type w0 w v L M h hb ad m c ys hf hy hm hsz
  unfold Oper.wp execOp
  simp only [hop, resolve, invoke, builtin, Sem.run_bind, Sem.run_pure, Result.andThen_ok, List.map_toArray, List.map_cons, List.map_nil, hs, hx, hrun]
  exact hK _ _ (hk v' w' h1 h2 h3)
end Go.Proofs.Ytdmjiaicgbcodaa
