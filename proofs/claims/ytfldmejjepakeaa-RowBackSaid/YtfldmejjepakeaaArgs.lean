/- A slice of bytes that came in reads as bytes. -/
import Derived.Test.YtfldmejjepakeaaBytes
import Derived.ChangeSlices
namespace Go.Proofs.Ytfldmejjepakeaa
open Go.ChangeShapes Go.WideShapes Go.ChangeAt Go.RowKit
open Go.ChangeMaps (open_string shut_string)
set_option linter.unusedVariables false
set_option linter.unusedSimpArgs false
set_option maxRecDepth 100000
section
variable {H : Type} {enc : TypeId × Value → H}
theorem cells_u8 : Try.prog.cellsOf 5 = 1 := by kernel_rfl
theorem wf_byte {n : Int} (h : (Lit.int .u8 n).wf = true) : 0 ≤ n ∧ n < 256 := by
  have := range_u8 (zs := [n]) (fun m hm => by simp at hm; subst hm; exact h) 0
  simp at this
  omega
theorem open_bytes1 {W : World} {fuel : Nat} {v : Value} {x : DataW H × List MemPlace} (hf : DataW.trod enc Try.prog W 0 (fun _ => true) true fuel 22 [v] = some x) :
    ∃ A n c l, v = .slice A n c ∧ RB W A n c l := by
  rcases open_ints Try.underlying22 Try.underlying5 cells_u8 hf with ⟨hcs, hx⟩ | ⟨a, len', cap', zs, hcs, _, hl, hm, hz, hx, hcell, hwz⟩
  · simp at hcs
    exact ⟨none, 0, 0, [], hcs, RB.none_ W⟩
  · simp at hcs
    simp only [if_true] at hz
    refine ⟨some a, len', cap', (zs.take len').map fun n => UInt8.ofNat n.toNat, hcs, by simp; omega, hl, hm, fun h => (by cases h), fun hn => ?_⟩
    obtain ⟨ab, ao, spot⟩ := a
    have hspot : spot = none := by simpa [Addr.add] using World.cell?_spot (hcell 0 (by omega))
    subst hspot
    refine ⟨ab, ao, rfl, fun i b hb => ?_⟩
    have hi : i < len' := by have := (List.getElem?_eq_some_iff.1 hb).1; simp at this; omega
    have hc := hcell i (by omega)
    rw [Addr.add_lit] at hc
    rw [hc]
    rw [List.getElem?_map, List.getElem?_take, if_pos hi, List.getElem?_eq_getElem (by omega)] at hb
    simp only [Option.map_some, Option.some.injEq] at hb
    rw [← hb]
    have hw := wf_byte (hwz (zs[i]'(by omega)) (List.getElem_mem _))
    simp only [List.getD, List.getElem?_eq_getElem (show i < zs.length by omega), Option.getD_some, bv]
    generalize zs[i]'(by omega) = z at *
    rw [UInt8.toNat_ofNat', Nat.mod_eq_of_lt (by omega)]
    congr 3
    omega
theorem open_bytes {W : World} {base : Nat} {v1 : Value} {d1 : DataW H} {p1 : List MemPlace} (hval : Value.okWide Try.prog W .any base 22 v1) (h1 : DataW.Trod enc Try.prog W 0 (fun _ => true) true 22 v1 d1 p1) :
    ∃ A n c l, v1 = .slice A n c ∧ RB W A n c l := by
  obtain ⟨a1, len, cap, rfl⟩ := okWide_slice Try.underlying22 hval
  obtain ⟨fuel, hf⟩ := h1
  exact open_bytes1 hf
end
end Go.Proofs.Ytfldmejjepakeaa
