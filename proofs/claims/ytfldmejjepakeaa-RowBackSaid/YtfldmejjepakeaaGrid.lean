/- A slice of slices of numbers, and a configuration, that came in. -/
import Derived.Test.YtfldmejjepakeaaBase
import Derived.ChangeSlices
import Derived.Laws.MakeOwn
import Derived.Laws.OwnMore
import Derived.Deep.RegionLaw
import Derived.Maps.AppendAt
import Derived.Deep.LoopGhost
import Derived.Deep.Matrix
import Derived.Deep.Fields
import Derived.Lib.SmallJoins
namespace Go.Proofs.Ytfldmejjepakeaa
open Go.ChangeShapes Go.WideShapes Go.ChangeAt Go.RowKit
open Go.ChangeMaps (open_string shut_string)
set_option linter.unusedVariables false
set_option linter.unusedSimpArgs false
set_option maxRecDepth 100000
open Go.Deep

theorem bnext {N : Nat} {a w w' : World} (h : Below N a w) (hb : Below w.heap.size w w') (hN : N ≤ a.heap.size := by first | exact Nat.le_refl _ | omega) : Below N a w' := h.trans (hb.mono (Nat.le_trans hN h.size))

/-- The slice (A, n, c) reads as the numbers l. -/
structure RN (w : World) (A : Option Addr) (n c : Nat) (l : List Int) : Prop where
  len : l.length = n
  cap : n ≤ c
  max : c ≤ maxLen
  nil : A = none → c = 0
  at_ : 0 < n → ∃ g o, A = some ⟨g, o, none⟩ ∧ ∀ i x, l[i]? = some x → w.cell? ⟨g, o + i, none⟩ = some (.int .i64 x)

namespace RN
variable {w w' : World} {A : Option Addr} {n c : Nat} {l : List Int}
theorem to (h : RN w A n c l) (hk : ∀ g o v, w.cell? ⟨g, o, none⟩ = some v → (0 < n → ∀ a, A = some a → a.block = g) → w'.cell? ⟨g, o, none⟩ = some v) : RN w' A n c l :=
  ⟨h.len, h.cap, h.max, h.nil, fun hn => let ⟨g, o, e, c⟩ := h.at_ hn; ⟨g, o, e, fun i b hb => hk _ _ _ (c i b hb) (fun _ a ha => by rw [e] at ha; injection ha with ha; rw [← ha])⟩⟩
theorem alloc (h : RN w A n c l) (o : Obj) : RN (w.alloc o) A n c l := h.to fun g _ _ hc _ => (World.cell?_of_block (w := w) (Below.heap_alloc w o g (World.block_lt_of_cell? w _ hc))).trans hc
theorem drew (h : RN w A n c l) : RN w.drew A n c l := ⟨h.len, h.cap, h.max, h.nil, h.at_⟩
theorem drewN (h : RN w A n c l) (k : Nat) : RN (w.drewN k) A n c l := ⟨h.len, h.cap, h.max, h.nil, h.at_⟩
theorem below {W : World} (h : RN w A n c l) (hb : Below w.heap.size w W) : RN W A n c l := h.to fun g _ _ hc _ => (hb.cell (p := ⟨g, _, none⟩) (World.block_lt_of_cell? w _ hc)).trans hc
theorem keeps {S : Nat → Prop} {W : World} (h : RN w A n c l) (hk : Keeps S w W) (hS : 0 < n → ∀ a, A = some a → ¬ S a.block) : RN W A n c l :=
  ⟨h.len, h.cap, h.max, h.nil, fun hn => let ⟨g, o, e, c⟩ := h.at_ hn; ⟨g, o, e, fun i b hb => (World.cell?_of_block (w := w) (hk.block g (World.block_lt_of_cell? w _ (c i b hb)) (hS hn _ e))).trans (c i b hb)⟩⟩
theorem of_blk {g t : Nat} {cs : Array Value} (h : Blk w g cs t) (hn : cs.toList = l.map (.int .i64)) (hl : l.length = n) (hm : n ≤ maxLen) : RN w (some ⟨g, 0, none⟩) n n l := by
  refine ⟨hl, Nat.le_refl _, hm, fun h => by simp at h, fun _ => ⟨g, 0, rfl, fun i x hx => ?_⟩⟩
  rw [Nat.zero_add]
  refine h.cell i ?_
  rw [← Array.getElem?_toList, hn, List.getElem?_map, hx]
  rfl
end RN

/-- The slice (A, n, c) reads as the rows Z. -/
structure RG (w : World) (A : Option Addr) (n c : Nat) (Z : List (List Int)) : Prop where
  len : Z.length = n
  cap : n ≤ c
  max : c ≤ maxLen
  nil : A = none → c = 0
  at_ : 0 < n → ∃ g o, A = some ⟨g, o, none⟩ ∧ ∀ i z, Z[i]? = some z → ∃ B k, w.cell? ⟨g, o + i, none⟩ = some (.slice B z.length k) ∧ RN w B z.length k z

namespace RG
variable {w W : World} {A : Option Addr} {n c : Nat} {Z : List (List Int)}
theorem below (h : RG w A n c Z) (hb : Below w.heap.size w W) : RG W A n c Z :=
  ⟨h.len, h.cap, h.max, h.nil, fun hn => let ⟨g, o, e, hc⟩ := h.at_ hn; ⟨g, o, e, fun i z hz => let ⟨B, k, h1, h2⟩ := hc i z hz; ⟨B, k, (hb.cell (p := ⟨g, _, none⟩) (World.block_lt_of_cell? w _ h1)).trans h1, h2.below hb⟩⟩⟩
theorem none_ (w : World) : RG w none 0 0 [] := ⟨rfl, Nat.le_refl _, by unfold maxLen; omega, fun _ => rfl, fun h => absurd h (by omega)⟩
end RG

section
variable {H : Type} {enc : TypeId × Value → H}
theorem range_i64_one {n : Int} (h : (Lit.int .i64 n).wf = true) : -9223372036854775808 ≤ n ∧ n ≤ 9223372036854775807 := by
  have := range_i64 (zs := [n]) (fun m hm => by simp at hm; subst hm; exact h) 0
  simpa using this

theorem cells_ints : Try.prog.cellsOf 57 = 1 := by kernel_rfl
theorem cells_int : Try.prog.cellsOf 3 = 1 := by kernel_rfl
theorem open_grid {W : World} {fuel : Nat} {v : Value} {x : DataW H × List MemPlace} (h : DataW.trod enc Try.prog W 0 (fun _ => true) true fuel 56 [v] = some x) :
    ∃ A n c Z, v = .slice A n c ∧ RG W A n c Z := by
  rcases open_int_rows Try.underlying56 Try.underlying57 Try.underlying3 cells_ints cells_int h with ⟨hcs, _⟩ | ⟨a, len, cap, A, L, C, Z, hcs, _, hl, hm, _, hx⟩
  · simp at hcs
    exact ⟨none, 0, 0, [], hcs, RG.none_ W⟩
  · simp at hcs
    refine ⟨some a, len, cap, (List.range len).map fun r => (Z r).take (L r), hcs, by simp, hl, hm, fun h => (by cases h), fun hn => ?_⟩
    obtain ⟨ab, ao, spot⟩ := a
    have hspot : spot = none := by simpa [Addr.add] using World.cell?_spot (hx 0 (by omega)).1
    subst hspot
    refine ⟨ab, ao, rfl, fun i z hz => ?_⟩
    have hi : i < len := by have := (List.getElem?_eq_some_iff.1 hz).1; simpa using this
    rw [List.getElem?_map, List.getElem?_range hi] at hz
    simp only [Option.map_some, Option.some.injEq] at hz
    obtain ⟨hc, h1, h2, h3, h4, h5, h6⟩ := hx i (by omega)
    have hzl : z.length = L i := by rw [← hz, List.length_take, h3]; omega
    rw [Addr.add_lit] at hc
    refine ⟨A i, C i, by rw [hzl]; exact hc, rfl, by rw [hzl]; exact h1, h2, h5, fun hp => ?_⟩
    rw [hzl] at hp
    cases hA : A i with
    | none => have := h5 hA; omega
    | some a' =>
      obtain ⟨_, hcell⟩ := h6 a' hA
      obtain ⟨bb, bo, bs⟩ := a'
      have hbs : bs = none := by simpa [Addr.add] using World.cell?_spot (hcell 0 (by omega))
      subst hbs
      refine ⟨bb, bo, rfl, fun j y hy => ?_⟩
      have hj : j < L i := by have := (List.getElem?_eq_some_iff.1 hy).1; omega
      have := hcell j (by omega)
      rw [Addr.add_lit] at this
      rw [this, ← Option.some.injEq]
      rw [← hz, List.getElem?_take, if_pos hj, List.getElem?_eq_getElem (by omega)] at hy
      simp only [Option.some.injEq] at hy
      rw [← hy]
      simp [List.getD, List.getElem?_eq_getElem (show j < (Z i).length by omega)]

theorem array11 {α : Type} {cs : Array α} (h : cs.size = 11) : ∃ c0 c1 c2 c3 c4 c5 c6 c7 c8 c9 c10, cs = #[c0, c1, c2, c3, c4, c5, c6, c7, c8, c9, c10] := by
  obtain ⟨l⟩ := cs
  match l, h with
  | [c0, c1, c2, c3, c4, c5, c6, c7, c8, c9, c10], _ => exact ⟨c0, c1, c2, c3, c4, c5, c6, c7, c8, c9, c10, rfl⟩
/-- A struct of one-cell fields, by value. -/
theorem open_agg_fields {P : Program} {w : World} {base : Nat} {spare : Nat → Bool} {held : Bool} {r : Reach} {b0 : Nat} {t : TypeId} {fs : Array Field} {v : Value} {d : DataW H} {p : List MemPlace} (hs : P.underlying t = some (.struct fs)) (hone : oneCellFields P fs = true) (hC : P.cellsOf t = fs.size)
    (hv : Value.okWide P w r b0 t v) (h : DataW.Trod enc P w base spare held t v d p) :
    ∃ (cs : Array Value) (n : Nat), v = .agg cs ∧ cs.size = fs.size ∧ ∀ (i : Nat) (f : Field), fs[i]? = some f → ∃ y, DataW.trod enc P w base spare held n f.type [cs.toList.getD i undef] = some y := by
  obtain ⟨cs, rfl, hsz⟩ := okWide_struct hs hv
  obtain ⟨fuel, hf⟩ := h
  obtain ⟨xs, n, _, hx, _, hxl, hg⟩ := DataW.trod_struct hs hf
  refine ⟨cs, n, rfl, hsz.trans hC, fun i f hi => ?_⟩
  have hlt : i < fs.size := (Array.getElem?_eq_some_iff.1 hi).1
  obtain ⟨ho, hc1⟩ := hone_of hone i f hi
  have g := hg i f hi
  have hcl : (Value.agg cs).cells.toList.length = cs.size := by simp [Value.cells]
  rw [ho, hc1] at g
  rw [take1_drop _ i undef (by rw [hcl, hsz, hC]; exact hlt), List.getElem?_eq_getElem (by omega)] at g
  exact ⟨_, by simpa [Value.cells] using g⟩

end
end Go.Proofs.Ytfldmejjepakeaa
