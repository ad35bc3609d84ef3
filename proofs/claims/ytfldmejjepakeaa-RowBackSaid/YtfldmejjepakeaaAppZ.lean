/- append(l, make([]byte, n)...) onto a slice of the call's own. -/
import Derived.Test.YtfldmejjepakeaaFacts
import Derived.Lib.AppendZerosOnto
import Derived.Laws.IdiomCopy
namespace Go.Proofs.Ytfldmejjepakeaa
open Go.ChangeShapes Go.WideShapes Go.ChangeAt Go.RowKit
open Go.ChangeMaps (open_string shut_string)
set_option linter.unusedVariables false
set_option linter.unusedSimpArgs false
set_option maxRecDepth 100000

theorem below_setCellsZ {B b : Nat} {a : World} (vs : List Value) : ∀ (o : Nat) {w : World}, Below B a w → B ≤ b → Below B a (w.setCells b o vs) := by
  induction vs with
  | nil => intro o w h _; exact h
  | cons v r ih => intro o w h hB; exact ih _ (h.setCell (p := ⟨b, o, none⟩) hB v) hB
theorem zeroCells_oneZ (z : Value) (n : Nat) : Builtin.zeroCells #[z] n = (List.replicate n z).toArray := by
  apply Array.ext
  · simp [Builtin.zeroCells]
  · intro i h1 h2
    simp [Builtin.zeroCells, Nat.mod_one]
theorem run_appz (ty : TypeId) (w : World) (B : Nat) (v : Value) (l : List UInt8) (m k : Nat) (h : OB w B v l) (hm : l.length = m) (h1 : 0 < m) (hsz : m + k ≤ 256) (hB : B ≤ w.heap.size) :
    ∃ A c w', (Builtin.append_ #[22, 3] ty #[v, .int .i64 k]).run Try.prog w = .ok (.slice A (m + k) c) w' ∧ RB w' A (m + k) c (l ++ List.replicate k 0) ∧ Below B w w' := by
  obtain ⟨i0, hi, hz0, hz1, hz2⟩ := info_parts info_u8
  obtain ⟨hl, ho⟩ := id h
  rcases ho with ⟨rfl, h0⟩ | ⟨g, C, cur, rfl, hg, hheap, hnc, hcm, hcs, htake⟩
  · omega
  rw [Nat.mul_one] at hcs htake
  have hblk : Blk w g cur 5 := hheap
  have hcell : ∀ j, j < C → ∃ u, w.cell? ⟨g, j, none⟩ = some u ∧ cur[j]? = some u := fun j hj => ⟨cur[j]'(by omega), hblk.cell j (Array.getElem?_eq_getElem (by omega)), Array.getElem?_eq_getElem (by omega)⟩
  subst hm
  have hrb := (OB.reads h)
  have hcells : (Value.int IntKind.u8 0).cells = #[Value.int .u8 0] := rfl
  by_cases hfit : l.length + k ≤ C
  · have hst := run_storeCells_cells (P := Try.prog) g l.length (List.replicate k (Value.int .u8 0)) 0 w
      (fun j hj => by obtain ⟨u, hu, _⟩ := hcell (l.length + 0 + j) (by simp at hj; omega); rw [hu]; rfl)
      (fun j hj => hblk.fz _) (fun v hv => by rw [List.eq_of_mem_replicate hv]; rfl)
    have hadd : (⟨g, 0, none⟩ : Addr).add l.length = ⟨g, l.length, none⟩ := by rw [Addr.add_lit, Nat.zero_add]
    have hpos : ¬ ((k : Int) < 0) := by omega
    have h48 : ¬ (281474976710656 < (k : Int)) := by omega
    have hw : IntKind.i64.wrap (k : Int) = k := by rw [IntKind.wrap_i64]; omega
    rw [Nat.add_zero] at hst
    refine ⟨some ⟨g, 0, none⟩, C, w.setCells g l.length (List.replicate k (Value.int .u8 0)), ?_, ?_, below_setCellsZ _ _ (Below.refl _ _) hg⟩
    · rcases Nat.eq_zero_or_pos k with rfl | hk0
      · have hw0 : IntKind.i64.wrap 0 = 0 := rfl
        have hle : l.length ≤ C := hnc
        simp [hw0, hle, Builtin.append_, run_underlying Try.underlying22, run_underlying Try.underlying3, sizeOf, typeInfo, zeroValue, hi, hz0, hz1, hz2, asInt, asIntOf, hfit, hadd, storeCells, World.setCells]
      · have hk1 : ¬ (k = 0) := by omega
        simp [hcells, Builtin.append_, run_underlying Try.underlying22, run_underlying Try.underlying3, sizeOf, typeInfo, zeroValue, hi, hz0, hz1, hz2, asInt, asIntOf, hw, hpos, h48, hk1, hfit, hadd, zeroCells_oneZ, hst]
    · refine ⟨by simp, hfit, hcm, fun h => (by cases h), fun _ => ⟨_, _, rfl, fun i b hb2 => ?_⟩⟩
      rw [Nat.zero_add]
      have hi8 : i < l.length + k := by have := (List.getElem?_eq_some_iff.1 hb2).1; simpa using this
      by_cases hil : i < l.length
      · rw [World.cell?_setCells_out _ _ _ _ _ (fun _ _ => .inl hil)]
        rw [List.getElem?_append_left hil] at hb2
        obtain ⟨g', o', e, hc⟩ := hrb.at_ h1
        injection e with e
        injection e with e1 e2
        subst e1 e2
        have := hc i b hb2
        rw [Nat.zero_add] at this
        exact this
      · rw [List.getElem?_append_right (by omega), List.getElem?_replicate, if_pos (by omega)] at hb2
        injection hb2 with hb2
        subst hb2
        have := World.cell?_setCells_in g (List.replicate k (Value.int IntKind.u8 0)) l.length w (fun j hj => by obtain ⟨u, hu, _⟩ := hcell (l.length + j) (by simp at hj; omega); rw [hu]; rfl) (i - l.length) (by simp; omega)
        rw [show l.length + (i - l.length) = i from by omega] at this
        rw [this]
        simp [bv]
  · have hk0 : 0 < k := by omega
    have hold : (Builtin.firstCells i0.size l.length (.slice (some ⟨g, 0, none⟩) l.length C)).run Try.prog w.drew = .ok (l.map bv).toArray w.drew := by
      have hrd : ∀ j v, (l.map bv)[j]? = some v → w.drew.cell? ((⟨g, 0, none⟩ : Addr).add j) = some v := RB.cells hrb.drew
      have := run_loadCells_list (P := Try.prog) w.drew ⟨g, 0, none⟩ (l.map bv) hrd
      simpa [Builtin.firstCells, hz1] using this
    have hnc2 : Builtin.nextslicecap (l.length + k) C * i0.bytes ≤ 281474976710656 := by
      rw [hz2, Nat.mul_one]
      unfold Builtin.nextslicecap
      by_cases h2 : l.length + k > 2 * C
      · rw [if_pos h2]; omega
      · rw [if_neg h2, if_pos (by omega)]; omega
    have hg2 := Lib.run_append_grow_zeros (P := Try.prog) w 22 3 ty 5 i0 (.int .u8 0) .i64 .i64 Try.underlying22 Try.underlying3 hi hz0 (some ⟨g, 0, none⟩) l.length C (l.map bv) hold k hk0 (by omega) (by omega) (by omega) (by rw [hz2]; omega) hnc2
    refine ⟨_, _, _, hg2, ?_, ((Below.refl B w).drew).alloc hB _⟩
    have hge := grownCap_ge w (l.length + k) C 5
    have hgm := grownCap_le_maxLen w (l.length + k) C 5 (by unfold maxLen; omega)
    refine ⟨by simp, hge, hgm, fun h => (by cases h), fun _ => ⟨_, _, rfl, fun i b hb2 => ?_⟩⟩
    rw [Nat.zero_add]
    have hi8 : i < l.length + k := by have := (List.getElem?_eq_some_iff.1 hb2).1; simpa using this
    have hnew := heap_alloc_new w.drew (.cells ((l.map bv).toArray ++ Builtin.zeroCells (Value.int IntKind.u8 0).cells k ++ Builtin.zeroCells (Value.int IntKind.u8 0).cells (grownCap w (l.length + k) C 5 - (l.length + k))) 5)
    have hd : w.drew.heap.size = w.heap.size := rfl
    rw [hd] at hnew
    simp only [World.cell?, hnew]
    rw [hcells, zeroCells_oneZ, Array.getElem?_append_left (by simp; omega)]
    have : ((l.map bv).toArray ++ (List.replicate k (Value.int IntKind.u8 0)).toArray) = ((l ++ List.replicate k 0).map bv).toArray := by simp [bv]
    rw [this, List.getElem?_toArray, List.getElem?_map, hb2]
    rfl
theorem wpList_appz {ops : Array Oper} {o : Oper} {a : Act} {w : World} {rest : List Oper} {Q : Exit → Act → World → Prop} (hgd : o.guard = none) (s x : Operand) (hop : o.op = Op.call { callee := Callee.builtin Builtin.append, args := #[s, x], argTypes := #[22, 3] })
    (B : Nat) (v : Value) (l : List UInt8) (m k : Nat) (hs : a.eval s = v) (hx : a.eval x = .int .i64 k) (h : OB w B v l) (hm : l.length = m) (h1 : 0 < m) (hsz : m + k ≤ 256) (hB : B ≤ w.heap.size)
    (hk : ∀ A c w', RB w' A (m + k) c (l ++ List.replicate k 0) → Below B w w' → wpList Try.prog ops Q rest (a.put o.dst (.slice A (m + k) c)) w') : wpList Try.prog ops Q (o :: rest) a w := by
  refine wpList_plain hgd fun K hK => ?_
  obtain ⟨A, c, w', hrun, h2, h3⟩ := run_appz o.type w B v l m k h hm h1 hsz hB
  unfold Oper.wp execOp
  simp only [hop, resolve, invoke, builtin, Sem.run_bind, Sem.run_pure, Result.andThen_ok, List.map_toArray, List.map_cons, List.map_nil, hs, hx, hrun]
  exact hK _ _ (hk A c w' h2 h3)
end Go.Proofs.Ytfldmejjepakeaa
