/- oublaw19: what the examples fix; are operations few. -/
import Derived.Test.YtdmjiaicgbcodaaPgE
import Derived.Test.YtdmjiaicgbcodaaLayL
import Derived.Test.YtdmjiaicgbcodaaLayN
namespace Go.Proofs.Ytdmjiaicgbcodaa
open Go.ChangeShapes Go.WideShapes Go.ChangeAt Go.RowKit
open Go.ChangeMaps (open_string shut_string)
set_option linter.unusedVariables false
set_option linter.unusedSimpArgs false

theorem RO.one {W : World} {g t : Nat} {k : Int} (h : Blk W g #[.int .i64 k, .int .i64 0, .int .i64 0, .int .i64 0, .int .i64 0, .slice none 0 0] t) : RO W (some ⟨g, 0, none⟩) 1 1 [⟨k, 0, 0, 0, 0, []⟩] := by
  refine ⟨rfl, Nat.le_refl _, (by decide), (fun h => by cases h), fun _ => ⟨g, 0, rfl, fun i q hq => ?_⟩⟩
  have hi : i = 0 := by have := (List.getElem?_eq_some_iff.1 hq).1; simp at this; exact this
  subst hi
  simp at hq
  subst hq
  refine ⟨none, 0, 0, RE.none_ W, fun f v hv => ?_⟩
  rw [show 0 + 0 * 6 + f = f by omega, h.at_ f, ← hv]
  match f with
  | 0 => rfl
  | 1 => rfl
  | 2 => rfl
  | 3 => rfl
  | 4 => rfl
  | 5 => rfl
  | k + 6 => simp
theorem small_ret (A A2 : Option Addr) (w : World) (h : RG w A 1 1 [[1]]) (h2 : RO w A2 1 1 [⟨7, 0, 0, 0, 0, []⟩]) : Calls Try.prog 28 #[.agg #[.int .i64 0, .int .i64 1, .int .i64 1, .int .i64 1, .int .i64 1, .int .i64 1, .int .i64 0, .int .i64 1, .int .i64 1, .int .i64 1, .slice A 1 1], .slice A2 1 1] w fun e w' => e = .returned (.int .i64 0) ∧ Below w.heap.size w w' := by
  have h3 := prog_check smallC A 1 1 [[1]] A2 1 1 [⟨7, 0, 0, 0, 0, []⟩] w h h2
  have e : checkP smallC [[1]] [⟨7, 0, 0, 0, 0, []⟩] = 0 := by decide
  rewrite [e] at h3
  exact h3
theorem small_nil (A : Option Addr) (w : World) (h : RG w A 1 1 [[1]]) : Calls Try.prog 28 #[.agg #[.int .i64 0, .int .i64 1, .int .i64 1, .int .i64 1, .int .i64 1, .int .i64 1, .int .i64 0, .int .i64 1, .int .i64 1, .int .i64 1, .slice A 1 1], .slice none 0 0] w fun e w' => e = .returned (.int .i64 9) ∧ Below w.heap.size w w' := by
  have h3 := prog_check smallC A 1 1 [[1]] none 0 0 [] w h (RO.none_ w)
  have e : checkP smallC [[1]] [] = 9 := by decide
  rewrite [e] at h3
  exact h3
theorem none_ret (A2 : Option Addr) (w : World) (h2 : RO w A2 1 1 [⟨7, 0, 0, 0, 0, []⟩]) : Calls Try.prog 28 #[.agg #[.int .i64 0, .int .i64 0, .int .i64 0, .int .i64 0, .int .i64 0, .int .i64 0, .int .i64 0, .int .i64 0, .int .i64 0, .int .i64 0, .slice none 0 0], .slice A2 1 1] w fun e w' => e = .returned (.int .i64 1) ∧ Below w.heap.size w w' := by
  have h3 := prog_check ⟨0, 0, 0, 0, 0, 0, 0, 0, 0, 0⟩ none 0 0 [] A2 1 1 [⟨7, 0, 0, 0, 0, []⟩] w (RG.none_ w) h2
  have e : checkP ⟨0, 0, 0, 0, 0, 0, 0, 0, 0, 0⟩ [] [⟨7, 0, 0, 0, 0, []⟩] = 1 := by decide
  rewrite [e] at h3
  exact h3
theorem get_reads (A2 : Option Addr) (w : World) (h2 : RO w A2 1 1 [⟨1, 0, 0, 0, 0, []⟩]) : Calls Try.prog 30 #[.slice A2 1 1] w fun e w' => e = .returned (.int .i64 1) ∧ Below w.heap.size w w' := prog_Reads A2 1 1 [⟨1, 0, 0, 0, 0, []⟩] w h2
set_option maxHeartbeats 1000000 in
set_option maxRecDepth 100000 in
theorem first19_any (w : World) : Calls Try.prog 26 #[] w fun e w' => e = .returned (.bool true) ∧ Below w.heap.size w w' := by
  go_enter Try.func26, Try.ntmps26
  go_wp2_with fail
  refine (small_any _).mono ?_
  rintro e w1 ⟨A, rfl, hR, b1⟩
  have b2 := b1.alloc b1.size (.cells #[.int .i64 7, .int .i64 0, .int .i64 0, .int .i64 0, .int .i64 0, .slice none 0 0] 51)
  have hR2 := hR.below ((Below.refl w1.heap.size w1).alloc (Nat.le_refl _) (.cells #[.int .i64 7, .int .i64 0, .int .i64 0, .int .i64 0, .int .i64 0, .slice none 0 0] 51))
  have ho := RO.one (Blk.new w1 #[.int .i64 7, .int .i64 0, .int .i64 0, .int .i64 0, .int .i64 0, .slice none 0 0] 51)
  go_wp2_with fail
  refine (small_ret A _ _ hR2 ho).mono ?_
  rintro e w2 ⟨rfl, e2⟩
  replace b2 := bnext b2 e2
  clear hR hR2 ho e2 b1
  go_wp2_with fail
  refine (small_any _).mono ?_
  rintro e w3 ⟨A3, rfl, hR, e2⟩
  replace b2 := bnext b2 e2
  clear e2
  go_wp2_with fail
  refine (small_nil A3 _ hR).mono ?_
  rintro e w4 ⟨rfl, e2⟩
  replace b2 := bnext b2 e2
  clear e2 hR
  have b3 := b2.alloc b2.size (.cells #[.int .i64 7, .int .i64 0, .int .i64 0, .int .i64 0, .int .i64 0, .slice none 0 0] 51)
  have ho := RO.one (Blk.new w4 #[.int .i64 7, .int .i64 0, .int .i64 0, .int .i64 0, .int .i64 0, .slice none 0 0] 51)
  go_wp2_with fail
  refine (none_ret _ _ ho).mono ?_
  rintro e w5 ⟨rfl, e2⟩
  replace b3 := bnext b3 e2
  clear e2 ho b2
  have b4 := b3.alloc b3.size (.cells #[.int .i64 1, .int .i64 0, .int .i64 0, .int .i64 0, .int .i64 0, .slice none 0 0] 51)
  have ho := RO.one (Blk.new w5 #[.int .i64 1, .int .i64 0, .int .i64 0, .int .i64 0, .int .i64 0, .slice none 0 0] 51)
  go_wp2_with fail
  refine (get_reads _ _ ho).mono ?_
  rintro e w6 ⟨rfl, e2⟩
  replace b4 := bnext b4 e2
  clear e2 ho b3
  go_wp2
  go_ret
  exact ⟨rfl, b4⟩

set_option maxHeartbeats 2000000 in
set_option maxRecDepth 100000 in
theorem few19_any (A : Option Addr) (n c : Nat) (L : List OpR) (w : World) (h : RO w A n c L) (hs : ∀ q ∈ L, ∀ e ∈ q.args, e.s.size ≤ maxLen) : Calls Try.prog 27 #[.slice A n c] w fun e w' => AnyBool e ∧ Below w.heap.size w w' := by
  have hLn := h.len
  have hnm : n ≤ maxLen := Nat.le_trans h.cap h.max
  unfold maxLen at hnm
  have hs := Lib.hid hs
  go_enter Try.func27, Try.ntmps27
  go_wp2
  go_loopw [3, 4] (fun s i wr => ∃ (k : Nat) (m : Int), k ≤ n ∧ k ≤ 50 ∧ 0 ≤ m ∧ m ≤ k * 2000000 ∧ s = .int .i64 m ∧ i = .int .i64 k ∧ Below w.heap.size w wr) (fun s i _ => 51 - (intOf i).toNat)
  case atStart => exact ⟨0, 0, by omega, by omega, by omega, by omega, rfl, rfl, (by repeat (first | exact Below.refl _ _ | assumption | apply below_drewN' | apply Below.drew | refine Below.alloc ?_ (by first | omega | (simp; done) | (simp; omega)) _ | refine Below.setCell ?_ (by first | omega | (simp; done) | (simp; omega)) _))⟩
  case round =>
    obtain ⟨k, m, hk, hk2, m0, m1, rfl, rfl, br⟩ := hrel
    by_cases h1 : k < n
    · by_cases h2 : k < 50
      · obtain ⟨q, hq⟩ : ∃ q, L[k]? = some q := ⟨_, List.getElem?_eq_getElem (by omega)⟩
        obtain ⟨g, o, rfl, hc⟩ := (h.below br).at_ (by omega)
        obtain ⟨B, mm, kk, hE, hcs⟩ := hc k q hq
        have o5 := hcs 5 (.slice B mm kk) rfl
        have hml := hE.len
        have hmm : mm ≤ maxLen := Nat.le_trans hE.cap hE.max
        unfold maxLen at hmm
        have hqs := Lib.hid (hs.out q (List.mem_of_getElem? hq))
        clear hcs hc hq
        go_wp2
        go_loopw [3, 5] (fun s i wq => ∃ (j : Nat) (m' : Int), j ≤ mm ∧ j ≤ 50 ∧ 0 ≤ m' ∧ m' ≤ k * 2000000 + j * 30000 ∧ s = .int .i64 m' ∧ i = .int .i64 j ∧ wq = wr) (fun s i _ => 51 - (intOf i).toNat)
        case atStart => exact ⟨0, m, by omega, by omega, by omega, by omega, rfl, rfl, rfl⟩
        case round =>
          obtain ⟨j, m', hj, hj2, m0', m1', rfl, rfl, rfl⟩ := hrel
          by_cases h3 : j < mm
          · by_cases h4 : j < 50
            · obtain ⟨e, he⟩ : ∃ e, q.args[j]? = some e := ⟨_, List.getElem?_eq_getElem (by omega)⟩
              obtain ⟨g2, o2, rfl, hc2⟩ := hE.at_ (by omega)
              have x2 := hc2 j e he 2 (.string e.s) rfl
              have hes := hqs.out e (List.mem_of_getElem? he)
              unfold maxLen at hes
              clear hc2 he
              go_wp2
              go_roundw
              case rel => refine ⟨j + 1, m' + 20 + (if 20001 < (e.s.size : Int) then 20001 else (e.s.size : Int)), by omega, by omega, by split <;> omega, by split <;> omega, by go_num, by go_num, trivial⟩
              case measure => simp [intOf]; omega
            · go_wp2
              go_ret
              exact ⟨⟨_, rfl⟩, br⟩
          · have h5 : (mm : Int) ≤ 50 := by omega
            go_wp2
            go_roundw
            case rel => exact ⟨k + 1, m', by omega, by omega, m0', by omega, rfl, by go_num, br⟩
            case measure => simp [intOf]; omega
      · go_wp2
        go_ret
        exact ⟨⟨_, rfl⟩, br⟩
    · go_wp2
      go_ret
      exact ⟨⟨_, rfl⟩, br⟩
end Go.Proofs.Ytdmjiaicgbcodaa
