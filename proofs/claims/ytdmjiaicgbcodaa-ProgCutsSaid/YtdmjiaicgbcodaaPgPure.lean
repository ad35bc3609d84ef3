/- Chapter 19's programs and their parts, in plain words. -/
import Derived.Test.YtdmjiaicgbcodaaPgG
import Derived.Test.YtdmjiaicgbcodaaOpsApp
namespace Go.Proofs.Ytdmjiaicgbcodaa
open Go.ChangeShapes Go.WideShapes Go.ChangeAt Go.RowKit
open Go.ChangeMaps (open_string shut_string)
set_option linter.unusedVariables false
set_option linter.unusedSimpArgs false

theorem RO.take {w : World} {A : Option Addr} {n c : Nat} {L : List OpR} (h : RO w A n c L) (k : Nat) (hk : k ≤ n) : RO w A k c (L.take k) := by
  have := h.part 0 k (by omega) hk
  rw [Nat.sub_zero, Nat.sub_zero, List.drop_zero, Nat.zero_mul] at this
  have e : (if c = 0 then A else A.map (·.add 0)) = A := by
    split
    · rfl
    · cases A with
      | none => rfl
      | some a => simp [Addr.add]
  rw [e] at this
  exact this
theorem RO.drop {w : World} {A : Option Addr} {n c : Nat} {L : List OpR} (h : RO w A n c L) (k : Nat) (hk : k ≤ n) : RO w (if c = k then A else A.map (·.add (k * 6))) (n - k) (c - k) (L.drop k) := by
  have := h.part k n hk (Nat.le_refl _)
  rw [List.take_of_length_le (by rw [h.len]; exact Nat.le_refl _)] at this
  exact this
theorem countK_parts (f : Int → Bool) (L : List OpR) (k : Nat) : (countK f L : Int) = (countK f (L.take k) : Int) + (countK f (L.drop k) : Int) := by
  have h : countK f L = countK f (L.take k ++ L.drop k) := by rw [List.take_append_drop]
  rw [h]
  unfold countK
  rw [List.filter_append, List.length_append]
  omega
theorem check_ok {x : Cfg} {Z : List (List Int)} {L : List OpR} (h : checkP x Z L = 0) : mayC x Z = true ∧ (1 ≤ L.length ∧ L.length ≤ 8) ∧ (countK readK L : Int) ≤ x.r ∧ (countK writeK L : Int) ≤ x.e ∧ L.all (mayO x.d Z.length Z) = true := by
  unfold checkP at h
  by_cases hm : mayC x Z = true
  · rw [if_pos hm] at h
    by_cases hc : inR L.length 1 8 = true ∧ (countK readK L : Int) ≤ x.r ∧ (countK writeK L : Int) ≤ x.e ∧ L.all (mayO x.d Z.length Z) = true
    · have a := inR_true hc.1
      exact ⟨hm, by omega, hc.2.1, hc.2.2.1, hc.2.2.2⟩
    · rw [if_neg hc] at h; cases h
  · rw [if_neg hm] at h; cases h
theorem check_cut {x : Cfg} {Z : List (List Int)} {L : List OpR} (h : checkP x Z L = 0) {k : Nat} (h1 : 1 ≤ k) (h2 : k ≤ L.length) : checkP x Z (L.take k) = 0 := by
  obtain ⟨hm, hl, hr, he, ha⟩ := check_ok h
  have r1 := countK_parts readK L k
  have r2 := countK_parts writeK L k
  unfold checkP
  rw [if_pos hm, if_pos]
  refine ⟨?_, by omega, by omega, ?_⟩
  · rw [List.length_take]
    simp [inR]
    omega
  · rw [List.all_eq_true] at *
    intro q hq
    exact ha q (List.mem_of_mem_take hq)
theorem check_bad {x : Cfg} {Z : List (List Int)} {L : List OpR} (h : checkP x Z L = 0) : checkP x Z (L ++ [⟨8, 0, 0, 0, 0, []⟩]) = 9 := by
  obtain ⟨hm, hl, hr, he, ha⟩ := check_ok h
  unfold checkP
  rw [if_pos hm, if_neg]
  rintro ⟨_, _, _, h4⟩
  rw [List.all_append, Bool.and_eq_true] at h4
  have := h4.2
  simp [mayO, inR] at this
theorem check_long {x : Cfg} {Z : List (List Int)} {L M : List OpR} (h : checkP x Z L = 0) (hM : M.length = 9) : checkP x Z M = 9 := by
  obtain ⟨hm, _⟩ := check_ok h
  unfold checkP
  rw [if_pos hm, if_neg]
  rintro ⟨h1, _⟩
  rw [hM] at h1
  simp [inR] at h1
theorem OO.keeps {w0 w w' : World} {v : Value} {L : List OpR} {S : Nat → Prop} (h : OO w0 w v L) (k : Keeps S w w') (hS : ∀ b, v.ownBlock = some b → ¬ S b) : OO w0 w' v L := by
  obtain ⟨xs, ⟨hl, ho⟩, hf⟩ := h
  refine ⟨xs, ⟨hl, ?_⟩, hf⟩
  rcases ho with h | ⟨g, cap, cur, rfl, hg, hheap, h⟩
  · exact .inl h
  · exact .inr ⟨g, cap, cur, rfl, hg, (k.block g ((Array.getElem?_eq_some_iff.1 hheap).1) (hS g rfl)).trans hheap, h⟩
theorem OO.alloc {w0 w : World} {v : Value} {L : List OpR} (h : OO w0 w v L) (o : Obj) : OO w0 (w.alloc o) v L := h.keeps (S := fun _ => False) ((Keeps.refl _ _).alloc o) (fun _ _ h => h)
theorem cells_stay {w w' : World} {ad : Addr} {ys : List Value} (h : ∀ j u, ys[j]? = some u → w.cell? (ad.add j) = some u) (hb : Below w.heap.size w w') : ∀ j u, ys[j]? = some u → w'.cell? (ad.add j) = some u :=
  fun j u hu => (hb.cell (World.block_lt_of_cell? w _ (h j u hu))).trans (h j u hu)
/-- One operation without arguments, built. -/
theorem Flat.lone (w0 : World) (k : Int) : Flat w0 [⟨k, 0, 0, 0, 0, []⟩] [.int .i64 k, .int .i64 0, .int .i64 0, .int .i64 0, .int .i64 0, .slice none 0 0] := by
  refine ⟨rfl, fun i p hp => ?_⟩
  have hi : i = 0 := by have := (List.getElem?_eq_some_iff.1 hp).1; simp at this; exact this
  subst hi
  simp at hp
  subst hp
  exact ⟨none, 0, 0, RE.none_ w0, fun f v hv => by rw [Nat.zero_mul, Nat.zero_add]; exact hv⟩
theorem lone_cells (w : World) (k : Int) : ∀ j u, ([.int .i64 k, .int .i64 0, .int .i64 0, .int .i64 0, .int .i64 0, .slice none 0 0] : List Value)[j]? = some u → (w.alloc (.cells #[.int .i64 k, .int .i64 0, .int .i64 0, .int .i64 0, .int .i64 0, .slice none 0 0] 51)).cell? ((⟨w.heap.size, 0, none⟩ : Addr).add j) = some u := by
  intro j u hu
  rw [Addr.add_lit, Nat.zero_add]
  exact (Blk.new w _ _).cell j (by rw [← Array.getElem?_toList]; exact hu)
end Go.Proofs.Ytdmjiaicgbcodaa
