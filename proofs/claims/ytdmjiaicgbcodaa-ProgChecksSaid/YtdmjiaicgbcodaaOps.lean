/- Operations of a program, and their expressions, that came in. -/
import Derived.Test.YtdmjiaicgbcodaaRecs
import Derived.Test.YtdmjiaicgbcodaaGrid
import Derived.SliceStrings
namespace Go.Proofs.Ytdmjiaicgbcodaa
open Go.ChangeShapes Go.WideShapes Go.ChangeAt Go.RowKit
open Go.ChangeMaps (open_string shut_string)
set_option linter.unusedVariables false
set_option linter.unusedSimpArgs false
open Go.Deep

/-- An expression; an operation. -/
structure ExprR where
  k : Int
  n : Int
  s : ByteArray
  r : Int
  c : Int
structure OpR where
  k : Int
  r : Int
  t : Int
  c : Int
  l : Int
  args : List ExprR
instance : Inhabited ExprR := ⟨⟨0, 0, ByteArray.empty, 0, 0⟩⟩
instance : Inhabited OpR := ⟨⟨0, 0, 0, 0, 0, []⟩⟩
def I64 (n : Int) : Prop := -9223372036854775808 ≤ n ∧ n ≤ 9223372036854775807
/-- The slice reads as the expressions E. -/
structure RE (w : World) (A : Option Addr) (n c : Nat) (E : List ExprR) : Prop where
  len : E.length = n
  cap : n ≤ c
  max : c ≤ maxLen
  nil : A = none → c = 0
  at_ : 0 < n → ∃ g o, A = some ⟨g, o, none⟩ ∧ ∀ i e, E[i]? = some e → ∀ f v, ([.int .i64 e.k, .int .i64 e.n, .string e.s, .int .i64 e.r, .int .i64 e.c] : List Value)[f]? = some v → w.cell? ⟨g, o + i * 5 + f, none⟩ = some v
/-- The slice reads as the operations L. -/
structure RO (w : World) (A : Option Addr) (n c : Nat) (L : List OpR) : Prop where
  len : L.length = n
  cap : n ≤ c
  max : c ≤ maxLen
  nil : A = none → c = 0
  at_ : 0 < n → ∃ g o, A = some ⟨g, o, none⟩ ∧ ∀ i p, L[i]? = some p → ∃ B m k, RE w B m k p.args ∧ ∀ f v, ([.int .i64 p.k, .int .i64 p.r, .int .i64 p.t, .int .i64 p.c, .int .i64 p.l, .slice B m k] : List Value)[f]? = some v → w.cell? ⟨g, o + i * 6 + f, none⟩ = some v
namespace RE
variable {w W : World} {A : Option Addr} {n c : Nat} {E : List ExprR}
theorem below (h : RE w A n c E) (hb : Below w.heap.size w W) : RE W A n c E :=
  ⟨h.len, h.cap, h.max, h.nil, fun hn => let ⟨g, o, e, hc⟩ := h.at_ hn; ⟨g, o, e, fun i x hx f v hv => (hb.cell (p := ⟨g, _, none⟩) (World.block_lt_of_cell? w _ (hc i x hx f v hv))).trans (hc i x hx f v hv)⟩⟩
theorem none_ (w : World) : RE w none 0 0 [] := ⟨rfl, Nat.le_refl _, by unfold maxLen; omega, fun _ => rfl, fun h => absurd h (by omega)⟩
end RE
namespace RO
variable {w W : World} {A : Option Addr} {n c : Nat} {L : List OpR}
theorem below (h : RO w A n c L) (hb : Below w.heap.size w W) : RO W A n c L :=
  ⟨h.len, h.cap, h.max, h.nil, fun hn => let ⟨g, o, e, hc⟩ := h.at_ hn; ⟨g, o, e, fun i x hx => let ⟨B, m, k, hr, hv⟩ := hc i x hx; ⟨B, m, k, hr.below hb, fun f v hf => (hb.cell (p := ⟨g, _, none⟩) (World.block_lt_of_cell? w _ (hv f v hf))).trans (hv f v hf)⟩⟩⟩
theorem none_ (w : World) : RO w none 0 0 [] := ⟨rfl, Nat.le_refl _, by unfold maxLen; omega, fun _ => rfl, fun h => absurd h (by omega)⟩
end RO

section
variable {H : Type} {enc : TypeId × Value → H} {W : World}
theorem cells_expr : Try.prog.cellsOf 67 = 5 := by kernel_rfl
theorem cells_op : Try.prog.cellsOf 51 = 6 := by kernel_rfl
theorem trod_one_int {m : Nat} {k : IntKind} {t : TypeId} {v : Value} {y : DataW H × List MemPlace} (ht : Try.prog.underlying t = some (.int k)) (hy : DataW.trod enc Try.prog W 0 (fun _ => true) true m t [v] = some y) : ∃ n, v = .int k n ∧ (Lit.int k n).wf = true := by
  obtain ⟨g, e, _, wf⟩ := DataW.trod_int ht hy
  simp at e
  exact ⟨g, e, wf⟩
theorem trod_one_str {m : Nat} {t : TypeId} {v : Value} {y : DataW H × List MemPlace} (ht : Try.prog.underlying t = some .string) (hy : DataW.trod enc Try.prog W 0 (fun _ => true) true m t [v] = some y) : ∃ s, v = .string s ∧ s.size ≤ maxLen := by
  obtain ⟨s, e, _, hs⟩ := DataW.trod_string ht hy
  simp at e
  exact ⟨s, e, hs⟩
theorem list5 {α : Type} {l : List α} (h : l.length = 5) : ∃ a b c d e, l = [a, b, c, d, e] := by
  match l, h with
  | [a, b, c, d, e], _ => exact ⟨a, b, c, d, e, rfl⟩
theorem list6 {α : Type} {l : List α} (h : l.length = 6) : ∃ a b c d e f, l = [a, b, c, d, e, f] := by
  match l, h with
  | [a, b, c, d, e, f], _ => exact ⟨a, b, c, d, e, f, rfl⟩
theorem open_exprs {fuel : Nat} {v : Value} {x : DataW H × List MemPlace} (h : DataW.trod enc Try.prog W 0 (fun _ => true) true fuel 49 [v] = some x) :
    ∃ A n c E, v = .slice A n c ∧ RE W A n c E ∧ ∀ e ∈ E, I64 e.k ∧ I64 e.n ∧ I64 e.r ∧ I64 e.c ∧ e.s.size ≤ maxLen := by
  obtain ⟨A, n, c, V, rfl, hr, m, hm⟩ := open_recs Try.underlying49 Try.underlying67 (by kernel_rfl) cells_expr (by decide) h
  have each : ∀ i, i < n → ∃ e : ExprR, V i = [.int .i64 e.k, .int .i64 e.n, .string e.s, .int .i64 e.r, .int .i64 e.c] ∧ I64 e.k ∧ I64 e.n ∧ I64 e.r ∧ I64 e.c ∧ e.s.size ≤ maxLen := by
    intro i hi
    obtain ⟨g, o, _, hc⟩ := hr.at_ (by omega)
    obtain ⟨v0, v1, v2, v3, v4, hv⟩ := list5 (hc i hi).1
    obtain ⟨y0, h0⟩ := hm i hi 0 _ rfl
    obtain ⟨y1, h1⟩ := hm i hi 1 _ rfl
    obtain ⟨y2, h2⟩ := hm i hi 2 _ rfl
    obtain ⟨y3, h3⟩ := hm i hi 3 _ rfl
    obtain ⟨y4, h4⟩ := hm i hi 4 _ rfl
    rw [hv] at h0 h1 h2 h3 h4
    obtain ⟨n0, e0, f0⟩ := trod_one_int (v := v0) Try.underlying3 h0
    obtain ⟨n1, e1, f1⟩ := trod_one_int (v := v1) Try.underlying2 h1
    obtain ⟨s2, e2, f2⟩ := trod_one_str (v := v2) Try.underlying9 h2
    obtain ⟨n3, e3, f3⟩ := trod_one_int (v := v3) Try.underlying3 h3
    obtain ⟨n4, e4, f4⟩ := trod_one_int (v := v4) Try.underlying3 h4
    exact ⟨⟨n0, n1, s2, n3, n4⟩, by rw [hv, e0, e1, e2, e3, e4], range_i64_one f0, range_i64_one f1, range_i64_one f3, range_i64_one f4, f2⟩
  obtain ⟨E, hE⟩ := choose_lt (α := ExprR) each
  refine ⟨A, n, c, (List.range n).map E, rfl, ⟨by simp, hr.cap, hr.max, hr.nil, fun hn => ?_⟩, fun e he => ?_⟩
  · obtain ⟨g, o, e, hc⟩ := hr.at_ hn
    refine ⟨g, o, e, fun i e he f v hv => ?_⟩
    have hi : i < n := by have := (List.getElem?_eq_some_iff.1 he).1; simpa using this
    rw [List.getElem?_map, List.getElem?_range hi] at he
    simp only [Option.map_some, Option.some.injEq] at he
    subst he
    refine (hc i hi).2 f v ?_
    rw [(hE i hi).1]
    exact hv
  · obtain ⟨i, hi, rfl⟩ := List.mem_map.1 he
    exact (hE i (List.mem_range.1 hi)).2
theorem open_ops {base : Nat} {v : Value} {d : DataW H} {p : List MemPlace} (hval : Value.okWide Try.prog W .any base 42 v) (h : DataW.Trod enc Try.prog W 0 (fun _ => true) true 42 v d p) :
    ∃ A n c L, v = .slice A n c ∧ RO W A n c L ∧ ∀ q ∈ L, I64 q.k ∧ I64 q.r ∧ I64 q.t ∧ I64 q.c ∧ I64 q.l ∧ ∀ e ∈ q.args, I64 e.k ∧ I64 e.n ∧ I64 e.r ∧ I64 e.c ∧ e.s.size ≤ maxLen := by
  obtain ⟨a1, len, cap, rfl⟩ := okWide_slice Try.underlying42 hval
  obtain ⟨fuel, hf⟩ := h
  obtain ⟨A, n, c, V, hv0, hr, m, hm⟩ := open_recs (v := .slice a1 len cap) Try.underlying42 Try.underlying51 (by kernel_rfl) cells_op (by decide) hf
  have each : ∀ i, i < n → ∃ q : OpR, ∃ B m' k, V i = [.int .i64 q.k, .int .i64 q.r, .int .i64 q.t, .int .i64 q.c, .int .i64 q.l, .slice B m' k] ∧ RE W B m' k q.args ∧ I64 q.k ∧ I64 q.r ∧ I64 q.t ∧ I64 q.c ∧ I64 q.l ∧ ∀ e ∈ q.args, I64 e.k ∧ I64 e.n ∧ I64 e.r ∧ I64 e.c ∧ e.s.size ≤ maxLen := by
    intro i hi
    obtain ⟨g, o, _, hc⟩ := hr.at_ (by omega)
    obtain ⟨v0, v1, v2, v3, v4, v5, hv⟩ := list6 (hc i hi).1
    obtain ⟨y0, h0⟩ := hm i hi 0 _ rfl
    obtain ⟨y1, h1⟩ := hm i hi 1 _ rfl
    obtain ⟨y2, h2⟩ := hm i hi 2 _ rfl
    obtain ⟨y3, h3⟩ := hm i hi 3 _ rfl
    obtain ⟨y4, h4⟩ := hm i hi 4 _ rfl
    obtain ⟨y5, h5⟩ := hm i hi 5 _ rfl
    rw [hv] at h0 h1 h2 h3 h4 h5
    obtain ⟨n0, e0, f0⟩ := trod_one_int (v := v0) Try.underlying3 h0
    obtain ⟨n1, e1, f1⟩ := trod_one_int (v := v1) Try.underlying3 h1
    obtain ⟨n2, e2, f2⟩ := trod_one_int (v := v2) Try.underlying3 h2
    obtain ⟨n3, e3, f3⟩ := trod_one_int (v := v3) Try.underlying3 h3
    obtain ⟨n4, e4, f4⟩ := trod_one_int (v := v4) Try.underlying3 h4
    obtain ⟨B, m', k, E, e5, hE, hok⟩ := open_exprs (v := v5) h5
    exact ⟨⟨n0, n1, n2, n3, n4, E⟩, B, m', k, by rw [hv, e0, e1, e2, e3, e4, e5], hE, range_i64_one f0, range_i64_one f1, range_i64_one f2, range_i64_one f3, range_i64_one f4, hok⟩
  obtain ⟨Q, hQ⟩ := choose_lt (α := OpR) each
  refine ⟨A, n, c, (List.range n).map Q, hv0, ⟨by simp, hr.cap, hr.max, hr.nil, fun hn => ?_⟩, fun q hq => ?_⟩
  · obtain ⟨g, o, e, hc⟩ := hr.at_ hn
    refine ⟨g, o, e, fun i q hq => ?_⟩
    have hi : i < n := by have := (List.getElem?_eq_some_iff.1 hq).1; simpa using this
    rw [List.getElem?_map, List.getElem?_range hi] at hq
    simp only [Option.map_some, Option.some.injEq] at hq
    subst hq
    obtain ⟨B, m', k, hV, hE, _⟩ := hQ i hi
    refine ⟨B, m', k, hE, fun f v hv => (hc i hi).2 f v ?_⟩
    rw [hV]
    exact hv
  · obtain ⟨i, hi, rfl⟩ := List.mem_map.1 hq
    obtain ⟨_, _, _, _, _, h⟩ := hQ i (List.mem_range.1 hi)
    exact h
end
end Go.Proofs.Ytdmjiaicgbcodaa
