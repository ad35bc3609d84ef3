/- A slice of structs whose fields are one cell each, that came in. -/
import Derived.Test.YtfldmejjepakeaaBase
import Derived.ChangeSlices
import Derived.Deep.Slices
import Derived.Deep.Fields
namespace Go.Proofs.Ytfldmejjepakeaa
open Go.ChangeShapes Go.WideShapes Go.ChangeAt Go.RowKit
open Go.ChangeMaps (open_string shut_string)
set_option linter.unusedVariables false
set_option linter.unusedSimpArgs false
set_option maxRecDepth 100000
open Go.Deep

/-- The slice (A, n, c) reads as n rows of k cells, V. -/
structure RW (w : World) (A : Option Addr) (n c k : Nat) (V : Nat → List Value) : Prop where
  cap : n ≤ c
  max : c ≤ maxLen
  nil : A = none → c = 0
  at_ : 0 < n → ∃ g o, A = some ⟨g, o, none⟩ ∧ ∀ i, i < n → (V i).length = k ∧ ∀ f v, (V i)[f]? = some v → w.cell? ⟨g, o + i * k + f, none⟩ = some v
namespace RW
variable {w W : World} {A : Option Addr} {n c k : Nat} {V : Nat → List Value}
theorem below (h : RW w A n c k V) (hb : Below w.heap.size w W) : RW W A n c k V :=
  ⟨h.cap, h.max, h.nil, fun hn => let ⟨g, o, e, hc⟩ := h.at_ hn; ⟨g, o, e, fun i hi => ⟨(hc i hi).1, fun f v hv => (hb.cell (p := ⟨g, _, none⟩) (World.block_lt_of_cell? w _ ((hc i hi).2 f v hv))).trans ((hc i hi).2 f v hv)⟩⟩⟩
theorem none_ (w : World) (k : Nat) (V : Nat → List Value) : RW w none 0 0 k V := ⟨Nat.le_refl _, by unfold maxLen; omega, fun _ => rfl, fun h => absurd h (by omega)⟩
theorem len (h : RW w A n c k V) : n ≤ 9223372036854775807 := by have a := h.cap; have b := h.max; unfold maxLen at b; omega
end RW

section
variable {H : Type} {enc : TypeId × Value → H} {P : Program} {W : World}
theorem open_recs {t e : TypeId} {fs : Array Field} {fuel : Nat} {v : Value} {x : DataW H × List MemPlace} (ht : P.underlying t = some (.slice e)) (hs : P.underlying e = some (.struct fs)) (hone : oneCellFields P fs = true) (hC : P.cellsOf e = fs.size) (h0 : 0 < fs.size)
    (h : DataW.trod enc P W 0 (fun _ => true) true fuel t [v] = some x) :
    ∃ A n c V, v = .slice A n c ∧ RW W A n c fs.size V ∧ ∃ m, ∀ i, i < n → ∀ (f : Nat) (fd : Field), fs[f]? = some fd → ∃ y, DataW.trod enc P W 0 (fun _ => true) true m fd.type [(V i).getD f undef] = some y := by
  rcases open_slice ht h with ⟨hcs, _⟩ | ⟨a, len, cap, m, n, D, Pl, hcs, _, hl, hm, hmm, _, hx⟩
  · simp at hcs
    exact ⟨none, 0, 0, fun _ => [], hcs, RW.none_ W _ _, 0, fun i hi => absurd hi (by omega)⟩
  · simp at hcs
    simp only [if_true] at hmm
    subst hmm
    obtain ⟨V, hV⟩ := choose_lt (α := List Value) (p := fun i cs' => W.cells? 0 (a.add (i * P.cellsOf e)) (P.cellsOf e) = some cs' ∧ DataW.trod enc P W 0 (fun _ => true) true n e cs' = some (D i, Pl i)) (fun i hi => hx i hi)
    have hrow : ∀ i, i < m → (V i).length = fs.size ∧ ∀ f, f < fs.size → W.cell? (a.add (i * fs.size + f)) = (V i)[f]? := by
      intro i hi
      obtain ⟨_, hln, hc⟩ := World.cells?_some (hV i hi).1
      rw [hC] at hln hc
      refine ⟨hln, fun f hf => ?_⟩
      rw [← hc f hf]
      obtain ⟨ab, ao, sp⟩ := a
      congr 1
      rw [Addr.add_add]
    cases n with
    | zero =>
      refine ⟨some a, len, m, V, hcs, ⟨hl, hm, (fun h => by cases h), fun hn => ?_⟩, 0, fun i hi => ?_⟩
      · have := (hV 0 (by omega)).2
        simp [DataW.trod] at this
      · have := (hV i (by omega)).2
        simp [DataW.trod] at this
    | succ m' =>
      refine ⟨some a, len, m, V, hcs, ⟨hl, hm, (fun h => by cases h), fun hn => ?_⟩, m', fun i hi f fd hf => ?_⟩
      · obtain ⟨ab, ao, spot⟩ := a
        have h00 := (hrow 0 (by omega)).2 0 h0
        have hl0 := (hrow 0 (by omega)).1
        rw [List.getElem?_eq_getElem (by omega)] at h00
        have hspot : spot = none := by simpa [Addr.add] using World.cell?_spot h00
        subst hspot
        refine ⟨ab, ao, rfl, fun i hi => ⟨(hrow i (by omega)).1, fun f v hv => ?_⟩⟩
        have hf : f < fs.size := by have := (List.getElem?_eq_some_iff.1 hv).1; have := (hrow i (by omega)).1; omega
        have := (hrow i (by omega)).2 f hf
        rw [hv, Addr.add_lit, ← Nat.add_assoc] at this
        exact this
      · obtain ⟨xs, k, he, _, hlen, hxl, hg⟩ := DataW.trod_struct hs (hV i (by omega)).2
        have hk : k = m' := by omega
        subst hk
        have hlt : f < fs.size := (Array.getElem?_eq_some_iff.1 hf).1
        obtain ⟨ho, hc1⟩ := hone_of hone f fd hf
        have g := hg f fd hf
        rw [ho, hc1, take1_drop _ f undef (by rw [hlen, hC]; exact hlt), List.getElem?_eq_getElem (by omega)] at g
        exact ⟨_, g⟩
end
end Go.Proofs.Ytfldmejjepakeaa
