/- May blocks be: bucket.May, and the document's. -/
import Derived.Test.YtfldmejjepakeaaBkA
import Derived.Test.YtfldmejjepakeaaFree
namespace Go.Proofs.Ytfldmejjepakeaa
open Go.ChangeShapes Go.WideShapes Go.ChangeAt Go.RowKit
open Go.ChangeMaps (open_string shut_string)
set_option linter.unusedVariables false
set_option linter.unusedSimpArgs false
set_option maxRecDepth 100000
open Go.Deep

def okB (b : BlkR) : Bool := decide (0 ≤ b.id) && (decide (b.id < 64) && b.d.length == 37)
def seenB (L : List BlkR) (k : Nat) (j : Int) : Bool := (L.take k).any fun b => b.id == j
/-- May blocks be? -/
def mayB (L : List BlkR) : Bool := (List.range L.length).all fun i => okB (L.getD i default) && !seenB L i (L.getD i default).id
theorem mayB_no {L : List BlkR} {i : Nat} {b : BlkR} (h : L[i]? = some b) (hb : okB b = false ∨ seenB L i b.id = true) : mayB L = false := by
  have hi := (List.getElem?_eq_some_iff.1 h).1
  unfold mayB
  rw [List.all_eq_false]
  refine ⟨i, List.mem_range.2 hi, ?_⟩
  have e : L.getD i default = b := by simp [List.getD, h]
  rw [e]
  rcases hb with hb | hb <;> rw [hb] <;> simp
theorem mayB_yes {L : List BlkR} (h : ∀ i b, i < L.length → L[i]? = some b → okB b = true ∧ seenB L i b.id = false) : mayB L = true := by
  unfold mayB
  rw [List.all_eq_true]
  intro i hi
  have hi := List.mem_range.1 hi
  have hb := List.getElem?_eq_getElem hi
  have e : L.getD i default = L[i] := by simp [List.getD, hb]
  rw [e]
  have := h i _ hi hb
  rw [this.1, this.2]
  rfl
theorem mayB_all {L : List BlkR} (h : mayB L = true) {i : Nat} {b : BlkR} (hb : L[i]? = some b) : okB b = true ∧ seenB L i b.id = false := by
  by_cases ho : okB b = true
  · by_cases hs : seenB L i b.id = true
    · rw [mayB_no hb (.inr hs)] at h; cases h
    · exact ⟨ho, by simpa using hs⟩
  · rw [mayB_no hb (.inl (by simpa using ho))] at h; cases h
theorem okB_iff {b : BlkR} : okB b = true ↔ 0 ≤ b.id ∧ b.id < 64 ∧ b.d.length = 37 := by
  unfold okB
  simp
theorem seenB_next {L : List BlkR} {k : Nat} {b : BlkR} (h : L[k]? = some b) (j : Int) : seenB L (k + 1) j = (seenB L k j || (b.id == j)) := by
  have hi := (List.getElem?_eq_some_iff.1 h).1
  have hq := (List.getElem?_eq_some_iff.1 h).2
  unfold seenB
  rw [List.take_succ_eq_append_getElem hi, List.any_append, hq]
  simp
theorem seenB_some {L : List BlkR} {k i : Nat} {b : BlkR} (h : L[i]? = some b) (hi : i < k) : seenB L k b.id = true := by
  unfold seenB
  rw [List.any_eq_true]
  exact ⟨b, List.mem_of_getElem? (i := i) (by rw [List.getElem?_take, if_pos hi]; exact h), by simp⟩
theorem seenB_none {L : List BlkR} {k : Nat} {j : Int} (h : ∀ i b, i < k → L[i]? = some b → b.id ≠ j) : seenB L k j = false := by
  unfold seenB
  rw [List.any_eq_false]
  intro b hb
  obtain ⟨i, hi⟩ := List.mem_iff_getElem?.1 hb
  rw [List.getElem?_take] at hi
  split at hi
  · simpa using h i b (by assumption) hi
  · cases hi
/-- The row of what was seen. -/
def SeenOk (cs : Array Value) (L : List BlkR) (k : Nat) : Prop := cs.size = 64 ∧ ∀ j : Nat, j < 64 → cs[j]? = some (.bool (seenB L k j))
theorem SeenOk.next {cs : Array Value} {L : List BlkR} {k j : Nat} {b : BlkR} (h : SeenOk cs L k) (hb : L[k]? = some b) (hj : b.id = (j : Int)) : SeenOk (cs.setIfInBounds j (.bool true)) L (k + 1) := by
  refine ⟨by simp [h.1], fun i hi => ?_⟩
  rw [seenB_next hb]
  by_cases e : j = i
  · subst e
    rw [Array.getElem?_setIfInBounds_self, if_pos (by rw [h.1]; exact hi), hj]
    simp
  · rw [Array.getElem?_setIfInBounds_ne e, h.2 i hi]
    have : (b.id == (i : Int)) = false := by rw [beq_eq_false_iff_ne]; omega
    rw [this, Bool.or_false]
theorem seen_zero (L : List BlkR) (cs : Array Value) (h : cs = Array.replicate 64 (.bool false)) : SeenOk cs L 0 := by
  subst h
  refine ⟨by simp, fun j hj => ?_⟩
  rw [Array.getElem?_replicate, if_pos hj]
  rfl
set_option maxHeartbeats 4000000 in
theorem bucket_May (A : Option Addr) (n c : Nat) (L : List BlkR) (w : World) (h : RK w A n c L) : Calls Try.prog 26 #[.slice A n c] w fun e w' => e = .returned (.bool (mayB L)) ∧ Below w.heap.size w w' := by
  obtain ⟨R, hR⟩ : ∃ R, mayB L = R := ⟨_, rfl⟩
  rw [hR]
  have hres := Lib.hid hR
  clear hR
  have hnm : n ≤ maxLen := Nat.le_trans h.cap h.max
  unfold maxLen at hnm
  have hLn := h.len
  go_enter Try.func26, Try.ntmps26
  go_wp2
  go_loopw [8] (fun i wr => ∃ (k : Nat) (cs : Array Value), k ≤ n ∧ i = .int .i64 k ∧ Blk wr w.heap.size cs 88 ∧ SeenOk cs L k ∧ Below w.heap.size w wr ∧ Hid (∀ (i : Nat) (b : BlkR), i < k → L[i]? = some b → okB b = true ∧ seenB L i b.id = false)) (fun i _ => n - (intOf i).toNat)
  case atStart => exact ⟨0, _, by omega, rfl, Blk.new _ _ _, seen_zero L _ (by rfl), (by repeat (first | exact Below.refl _ _ | assumption | apply below_drewN' | apply Below.drew | refine Below.alloc ?_ (by first | omega | (simp; done) | (simp; omega)) _ | refine Below.setCell ?_ (by first | omega | (simp; done) | (simp; omega)) _)), Lib.hid (fun i b hi => absurd hi (by omega))⟩
  case round =>
    obtain ⟨k, cs, hk, rfl, hB, hsn, bl, hall⟩ := hrel
    by_cases hlt : k < n
    · obtain ⟨q, hq⟩ : ∃ q, L[k]? = some q := ⟨_, List.getElem?_eq_getElem (by omega)⟩
      obtain ⟨g, o, rfl, hc⟩ := (h.below bl).at_ (by omega)
      obtain ⟨B, m, kk, hE, hc0, hc1⟩ := hc k q hq
      have hml := hE.len
      have hmm : m ≤ maxLen := Nat.le_trans hE.cap hE.max
      unfold maxLen at hmm
      clear hc
      have bl2 := bl.alloc bl.size (.cells #[.int .i64 q.id, .slice B m kk] 70)
      have hB2 := hB.alloc (.cells #[.int .i64 q.id, .slice B m kk] 70)
      have hlw := hB.lt
      rcases (show q.id < 0 ∨ (¬ q.id < 0 ∧ 64 ≤ q.id) ∨ (¬ q.id < 0 ∧ ¬ 64 ≤ q.id) by omega) with i1 | ⟨i1, i2⟩ | ⟨i1, i2⟩
      · have hno := Lib.hid (mayB_no hq (.inl (by simp [okB]; omega)))
        go_wp2
        go_ret
        exact ⟨(show Ending.returned (.bool false) = .returned (.bool R) from by rewrite [← hres.out, hno.out]; rfl), bl2⟩
      · have hno := Lib.hid (mayB_no hq (.inl (by simp [okB]; omega)))
        go_wp2
        go_ret
        exact ⟨(show Ending.returned (.bool false) = .returned (.bool R) from by rewrite [← hres.out, hno.out]; rfl), bl2⟩
      · have hj : q.id = (q.id.toNat : Int) := (Int.toNat_of_nonneg (by omega)).symm
        have hj64 : q.id.toNat < 64 := by omega
        obtain ⟨s, hs⟩ : ∃ s, seenB L k q.id = s := ⟨_, rfl⟩
        have hcs : cs[q.id.toNat]? = some (.bool s) := by rw [hsn.2 _ hj64, ← hj, hs]
        have hcell := hB2.cell q.id.toNat hcs
        have hcell2 := hB.cell q.id.toNat hcs
        cases s with
        | true =>
          have hno := Lib.hid (mayB_no hq (.inr hs))
          clear hq hs hj hcs hsn
          go_wp2
          go_ret
          exact ⟨(show Ending.returned (.bool false) = .returned (.bool R) from by rewrite [← hres.out, hno.out]; rfl), bl2⟩
        | false =>
          by_cases hm : m = 37
          · have hok := Lib.hid (show okB q = true ∧ seenB L k q.id = false from ⟨okB_iff.2 ⟨by omega, by omega, by omega⟩, hs⟩)
            have hqh := Lib.hid hq
            have hnx := hsn.next hq hj
            have hB3 := (hB.set q.id.toNat (.bool true)).alloc (.cells #[.int .i64 q.id, .slice B 37 kk] 70)
            have bl3 := (bl.setCell (p := ⟨w.heap.size, q.id.toNat, none⟩) (Nat.le_refl _) (.bool true)).alloc (by simp [World.setCell]; have := bl.size; omega) (.cells #[.int .i64 q.id, .slice B 37 kk] 70)
            have hfz := hB2.fz q.id.toNat
            have hfz2 := hB.fz q.id.toNat
            clear hq hs hml hj hcs hsn
            subst hm
            go_wp2
            go_roundw
            case rel =>
              refine ⟨k + 1, cs.setIfInBounds q.id.toNat (.bool true), by omega, by go_num, hB3, hnx, bl3, Lib.hid fun i b hi hb => ?_⟩
              by_cases ei : i = k
              · subst ei; rw [hqh.out] at hb; injection hb with hb; rw [← hb]; exact hok.out
              · exact hall.out i b (by omega) hb
            case measure => simp [intOf]; omega
          · have hno := Lib.hid (mayB_no hq (.inl (by simp [okB]; omega)))
            have hm1 : ((m : Int) != 37) = true := by rw [bne_iff_ne]; omega
            clear hq hs hj hcs hsn
            go_wp2
            go_ret
            exact ⟨(show Ending.returned (.bool false) = .returned (.bool R) from by rewrite [← hres.out, hno.out]; rfl), bl2⟩
    · have hkn : n = k := by omega
      have hyes := Lib.hid (mayB_yes (L := L) (fun i b hi hb => hall.out i b (by omega) hb))
      subst hkn
      go_wp2
      go_ret
      exact ⟨(show Ending.returned (.bool true) = .returned (.bool R) from by rewrite [← hres.out, hyes.out]; rfl), bl⟩
end Go.Proofs.Ytfldmejjepakeaa
