/- Values of a row, rows that came in. -/
import Derived.Test.YtfldmejjepakeaaRecs
import Derived.Test.YtfldmejjepakeaaGrid
import Derived.Test.YtfldmejjepakeaaArgsVal
import Derived.Test.YtfldmejjepakeaaFacts
namespace Go.Proofs.Ytfldmejjepakeaa
open Go.ChangeShapes Go.WideShapes Go.ChangeAt Go.RowKit
open Go.ChangeMaps (open_string shut_string)
set_option linter.unusedVariables false
set_option linter.unusedSimpArgs false
set_option maxRecDepth 100000
open Go.Deep

/-- A value; a row. -/
structure ValR where
  k : Int
  n : Int
  s : List UInt8
structure RowR where
  t : Int
  V : List ValR
instance : Inhabited ValR := ⟨⟨0, 0, []⟩⟩
instance : Inhabited RowR := ⟨⟨0, []⟩⟩
def N64 (n : Int) : Prop := -9223372036854775808 ≤ n ∧ n ≤ 9223372036854775807
/-- The slice reads as the values V. -/
structure RV (w : World) (A : Option Addr) (n c : Nat) (V : List ValR) : Prop where
  len : V.length = n
  cap : n ≤ c
  max : c ≤ maxLen
  nil : A = none → c = 0
  at_ : 0 < n → ∃ g o, A = some ⟨g, o, none⟩ ∧ ∀ i v, V[i]? = some v → w.cell? ⟨g, o + i * 3, none⟩ = some (.int .i64 v.k) ∧ w.cell? ⟨g, o + i * 3 + 1, none⟩ = some (.int .i64 v.n) ∧ w.cell? ⟨g, o + i * 3 + 2, none⟩ = some (.string (str v.s))
/-- The slice reads as the rows R. -/
structure RR (w : World) (A : Option Addr) (n c : Nat) (R : List RowR) : Prop where
  len : R.length = n
  cap : n ≤ c
  max : c ≤ maxLen
  nil : A = none → c = 0
  at_ : 0 < n → ∃ g o, A = some ⟨g, o, none⟩ ∧ ∀ i r, R[i]? = some r → ∃ B m k, RV w B m k r.V ∧ w.cell? ⟨g, o + i * 2, none⟩ = some (.int .i64 r.t) ∧ w.cell? ⟨g, o + i * 2 + 1, none⟩ = some (.slice B m k)
namespace RV
variable {w W : World} {A : Option Addr} {n c : Nat} {V : List ValR}
theorem below (h : RV w A n c V) (hb : Below w.heap.size w W) : RV W A n c V :=
  ⟨h.len, h.cap, h.max, h.nil, fun hn => let ⟨g, o, e, hc⟩ := h.at_ hn; ⟨g, o, e, fun i x hx => let ⟨h0, h1, h2⟩ := hc i x hx; ⟨(hb.cell (p := ⟨g, _, none⟩) (World.block_lt_of_cell? w _ h0)).trans h0, (hb.cell (p := ⟨g, _, none⟩) (World.block_lt_of_cell? w _ h1)).trans h1, (hb.cell (p := ⟨g, _, none⟩) (World.block_lt_of_cell? w _ h2)).trans h2⟩⟩⟩
theorem none_ (w : World) : RV w none 0 0 [] := ⟨rfl, Nat.le_refl _, by unfold maxLen; omega, fun _ => rfl, fun h => absurd h (by omega)⟩
end RV
namespace RR
variable {w W : World} {A : Option Addr} {n c : Nat} {R : List RowR}
theorem below (h : RR w A n c R) (hb : Below w.heap.size w W) : RR W A n c R :=
  ⟨h.len, h.cap, h.max, h.nil, fun hn => let ⟨g, o, e, hc⟩ := h.at_ hn; ⟨g, o, e, fun i x hx => let ⟨B, m, k, hr, h0, h1⟩ := hc i x hx; ⟨B, m, k, hr.below hb, (hb.cell (p := ⟨g, _, none⟩) (World.block_lt_of_cell? w _ h0)).trans h0, (hb.cell (p := ⟨g, _, none⟩) (World.block_lt_of_cell? w _ h1)).trans h1⟩⟩⟩
end RR

section
variable {H : Type} {enc : TypeId × Value → H} {W : World}
theorem n64_one {n : Int} (h : (Lit.int .i64 n).wf = true) : N64 n := by
  have := range_i64 (zs := [n]) (fun m hm => by simp at hm; subst hm; exact h) 0
  simpa [N64] using this
theorem cells_row : Try.prog.cellsOf 26 = 2 := by kernel_rfl
theorem listOf2 {α : Type} {l : List α} (h : l.length = 2) : ∃ a b, l = [a, b] := by
  match l, h with
  | [a, b], _ => exact ⟨a, b, rfl⟩
theorem listOf3 {α : Type} {l : List α} (h : l.length = 3) : ∃ a b c, l = [a, b, c] := by
  match l, h with
  | [a, b, c], _ => exact ⟨a, b, c, rfl⟩
theorem open_vals {fuel : Nat} {v : Value} {x : DataW H × List MemPlace} (h : DataW.trod enc Try.prog W 0 (fun _ => true) true fuel 24 [v] = some x) :
    ∃ A n c V, v = .slice A n c ∧ RV W A n c V ∧ ∀ y ∈ V, N64 y.n := by
  obtain ⟨A, n, c, V, rfl, hr, m, hm⟩ := open_recs Try.underlying24 Try.underlying51 (by kernel_rfl) cells_value (by decide) h
  have each : ∀ i, i < n → ∃ e : ValR, V i = [.int .i64 e.k, .int .i64 e.n, .string (str e.s)] ∧ N64 e.n := by
    intro i hi
    obtain ⟨g, o, _, hc⟩ := hr.at_ (by omega)
    obtain ⟨v0, v1, v2, hv⟩ := listOf3 (hc i hi).1
    obtain ⟨y0, h0⟩ := hm i hi 0 _ rfl
    obtain ⟨y1, h1⟩ := hm i hi 1 _ rfl
    obtain ⟨y2, h2⟩ := hm i hi 2 _ rfl
    rw [hv] at h0 h1 h2
    obtain ⟨n0, e0, _, _⟩ := DataW.trod_int Try.underlying3 (show DataW.trod enc Try.prog W 0 (fun _ => true) true m 3 [v0] = some y0 from h0)
    obtain ⟨n1, e1, _, f1⟩ := DataW.trod_int Try.underlying2 (show DataW.trod enc Try.prog W 0 (fun _ => true) true m 2 [v1] = some y1 from h1)
    obtain ⟨s2, e2, _, _⟩ := DataW.trod_string Try.underlying9 (show DataW.trod enc Try.prog W 0 (fun _ => true) true m 9 [v2] = some y2 from h2)
    simp at e0 e1 e2
    obtain ⟨l, rfl⟩ := str_of s2
    exact ⟨⟨n0, n1, l⟩, by rw [hv, e0, e1, e2], n64_one f1⟩
  obtain ⟨E, hE⟩ := choose_lt (α := ValR) each
  refine ⟨A, n, c, (List.range n).map E, rfl, ⟨by simp, hr.cap, hr.max, hr.nil, fun hn => ?_⟩, fun e he => ?_⟩
  · obtain ⟨g, o, e, hc⟩ := hr.at_ hn
    refine ⟨g, o, e, fun i e he => ?_⟩
    have hi : i < n := by have := (List.getElem?_eq_some_iff.1 he).1; simpa using this
    rw [List.getElem?_map, List.getElem?_range hi] at he
    simp only [Option.map_some, Option.some.injEq] at he
    subst he
    have hV := (hE i hi).1
    exact ⟨(hc i hi).2 0 _ (by rw [hV]; rfl), (hc i hi).2 1 _ (by rw [hV]; rfl), (hc i hi).2 2 _ (by rw [hV]; rfl)⟩
  · obtain ⟨i, hi, rfl⟩ := List.mem_map.1 he
    exact (hE i (List.mem_range.1 hi)).2
theorem arrayOf2 {α : Type} {cs : Array α} (h : cs.size = 2) : ∃ a b, cs = #[a, b] := by
  obtain ⟨l⟩ := cs
  match l, h with
  | [a, b], _ => exact ⟨a, b, rfl⟩
theorem open_row {base : Nat} {v : Value} {d : DataW H} {p : List MemPlace} (hval : Value.okWide Try.prog W .any base 26 v) (h : DataW.Trod enc Try.prog W 0 (fun _ => true) true 26 v d p) :
    ∃ t A n c V, v = .agg #[.int .i64 t, .slice A n c] ∧ RV W A n c V ∧ (∀ y ∈ V, N64 y.n) ∧ N64 t := by
  obtain ⟨cs, m, rfl, hsz, hf⟩ := open_agg_fields Try.underlying26 (by kernel_rfl) cells_row hval h
  obtain ⟨c0, c1, rfl⟩ := arrayOf2 hsz
  obtain ⟨y0, h0⟩ := hf 0 _ rfl
  obtain ⟨y1, h1⟩ := hf 1 _ rfl
  obtain ⟨n0, e0, _, f0⟩ := DataW.trod_int Try.underlying3 (show DataW.trod enc Try.prog W 0 (fun _ => true) true m 3 [c0] = some y0 from h0)
  obtain ⟨A, n, c, V, e1, hR, hv⟩ := open_vals (v := c1) h1
  simp at e0
  subst e0 e1
  exact ⟨n0, A, n, c, V, rfl, hR, hv, n64_one f0⟩
end
end Go.Proofs.Ytfldmejjepakeaa
