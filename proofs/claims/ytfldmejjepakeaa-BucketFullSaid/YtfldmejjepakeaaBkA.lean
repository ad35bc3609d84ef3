/- Blocks of a bucket that came in; small contracts. -/
import Derived.Test.YtfldmejjepakeaaRecs
import Derived.Test.YtfldmejjepakeaaArgs
import Derived.Test.YtfldmejjepakeaaFacts
namespace Go.Proofs.Ytfldmejjepakeaa
open Go.ChangeShapes Go.WideShapes Go.ChangeAt Go.RowKit
open Go.ChangeMaps (open_string shut_string)
set_option linter.unusedVariables false
set_option linter.unusedSimpArgs false
set_option maxRecDepth 100000
open Go.Deep

/-- A block. -/
structure BlkR where
  id : Int
  d : List UInt8
instance : Inhabited BlkR := ⟨⟨0, []⟩⟩
def I64 (n : Int) : Prop := -9223372036854775808 ≤ n ∧ n ≤ 9223372036854775807
theorem range_i64_one {n : Int} (h : (Lit.int .i64 n).wf = true) : I64 n := by
  have := range_i64 (zs := [n]) (fun m hm => by simp at hm; subst hm; exact h) 0
  simpa [I64] using this
/-- The slice reads as the blocks L. -/
structure RK (w : World) (A : Option Addr) (n c : Nat) (L : List BlkR) : Prop where
  len : L.length = n
  cap : n ≤ c
  max : c ≤ maxLen
  nil : A = none → c = 0
  at_ : 0 < n → ∃ g o, A = some ⟨g, o, none⟩ ∧ ∀ i b, L[i]? = some b → ∃ B m k, RB w B m k b.d ∧ w.cell? ⟨g, o + i * 2, none⟩ = some (.int .i64 b.id) ∧ w.cell? ⟨g, o + i * 2 + 1, none⟩ = some (.slice B m k)
namespace RK
variable {w W : World} {A : Option Addr} {n c : Nat} {L : List BlkR}
theorem below (h : RK w A n c L) (hb : Below w.heap.size w W) : RK W A n c L :=
  ⟨h.len, h.cap, h.max, h.nil, fun hn => let ⟨g, o, e, hc⟩ := h.at_ hn; ⟨g, o, e, fun i x hx => let ⟨B, m, k, hr, h0, h1⟩ := hc i x hx; ⟨B, m, k, hr.below hb, (hb.cell (p := ⟨g, _, none⟩) (World.block_lt_of_cell? w _ h0)).trans h0, (hb.cell (p := ⟨g, _, none⟩) (World.block_lt_of_cell? w _ h1)).trans h1⟩⟩⟩
theorem none_ (w : World) : RK w none 0 0 [] := ⟨rfl, Nat.le_refl _, by unfold maxLen; omega, fun _ => rfl, fun h => absurd h (by omega)⟩
theorem empty (w : World) (A : Option Addr) : RK w A 0 0 [] := ⟨rfl, Nat.le_refl _, by unfold maxLen; omega, fun _ => rfl, fun h => absurd h (by omega)⟩
end RK

section
variable {H : Type} {enc : TypeId × Value → H} {W : World}
theorem cells_block : Try.prog.cellsOf 70 = 2 := by kernel_rfl
theorem list2 {α : Type} {l : List α} (h : l.length = 2) : ∃ a b, l = [a, b] := by
  match l, h with
  | [a, b], _ => exact ⟨a, b, rfl⟩
theorem open_blocks {base : Nat} {v : Value} {d : DataW H} {p : List MemPlace} (hval : Value.okWide Try.prog W .any base 38 v) (h : DataW.Trod enc Try.prog W 0 (fun _ => true) true 38 v d p) :
    ∃ A n c L, v = .slice A n c ∧ RK W A n c L ∧ ∀ b ∈ L, I64 b.id := by
  obtain ⟨a1, len, cap, rfl⟩ := okWide_slice Try.underlying38 hval
  obtain ⟨fuel, hf⟩ := h
  obtain ⟨A, n, c, V, hv0, hr, m, hm⟩ := open_recs (v := .slice a1 len cap) Try.underlying38 Try.underlying70 (by kernel_rfl) cells_block (by decide) hf
  have each : ∀ i, i < n → ∃ q : BlkR, ∃ B m' k, V i = [.int .i64 q.id, .slice B m' k] ∧ RB W B m' k q.d ∧ I64 q.id := by
    intro i hi
    obtain ⟨g, o, _, hc⟩ := hr.at_ (by omega)
    obtain ⟨v0, v1, hv⟩ := list2 (hc i hi).1
    obtain ⟨y0, h0⟩ := hm i hi 0 _ rfl
    obtain ⟨y1, h1⟩ := hm i hi 1 _ rfl
    rw [hv] at h0 h1
    obtain ⟨n0, e0, _, f0⟩ := DataW.trod_int Try.underlying3 (show DataW.trod enc Try.prog W 0 (fun _ => true) true m 3 [v0] = some y0 from h0)
    simp at e0
    obtain ⟨B, m', k, l, e1, hE⟩ := open_bytes1 (v := v1) h1
    exact ⟨⟨n0, l⟩, B, m', k, by rw [hv, e0, e1], hE, range_i64_one f0⟩
  obtain ⟨Q, hQ⟩ := choose_lt (α := BlkR) each
  refine ⟨A, n, c, (List.range n).map Q, hv0, ⟨by simp, hr.cap, hr.max, hr.nil, fun hn => ?_⟩, fun q hq => ?_⟩
  · obtain ⟨g, o, e, hc⟩ := hr.at_ hn
    refine ⟨g, o, e, fun i q hq => ?_⟩
    have hi : i < n := by have := (List.getElem?_eq_some_iff.1 hq).1; simpa using this
    rw [List.getElem?_map, List.getElem?_range hi] at hq
    simp only [Option.map_some, Option.some.injEq] at hq
    subst hq
    obtain ⟨B, m', k, hV, hE, _⟩ := hQ i hi
    refine ⟨B, m', k, hE, ?_, ?_⟩
    · exact (hc i hi).2 0 _ (by rw [hV]; rfl)
    · exact (hc i hi).2 1 _ (by rw [hV]; rfl)
  · obtain ⟨i, hi, rfl⟩ := List.mem_map.1 hq
    obtain ⟨_, _, _, _, _, h⟩ := hQ i (List.mem_range.1 hi)
    exact h
end

/-- May a number of places be? how many bytes has a bucket? -/
def mayZ (z : Int) : Bool := decide (1 ≤ z) && decide (z ≤ 4)
def lenZ (z : Int) : Int := if mayZ z = true then z * 38 else 0
theorem mayZ_true {z : Int} (h : mayZ z = true) : 1 ≤ z ∧ z ≤ 4 := by simp [mayZ] at h; exact h
theorem bucket_may (n : Int) (b : Bool) (w : World) (hb : mayZ n = b) : Calls Try.prog 52 #[.int .i64 n] w fun e w' => e = .returned (.bool b) ∧ Below w.heap.size w w' := by
  have hh := Lib.hid hb
  clear hb
  by_cases h0 : 1 ≤ n
  · go_enter Try.func52, Try.ntmps52
    go_wp2
    go_ret
    exact ⟨by rw [← hh.out]; simp [mayZ, h0], Below.refl _ _⟩
  · go_enter Try.func52, Try.ntmps52
    go_wp2
    go_ret
    exact ⟨by rw [← hh.out]; simp [mayZ]; omega, Below.refl _ _⟩
theorem bucket_length (z r : Int) (w : World) (hr : lenZ z = r) : Calls Try.prog 28 #[.int .i64 z] w fun e w' => e = .returned (.int .i64 r) ∧ Below w.heap.size w w' := by
  obtain ⟨b, hb⟩ : ∃ b, mayZ z = b := ⟨_, rfl⟩
  unfold lenZ at hr
  rw [hb] at hr
  have HM := Lib.hid (fun w => bucket_may z b w hb)
  go_enter Try.func28, Try.ntmps28
  go_wp2_with fail
  refine (HM.out _).mono ?_
  rintro e w2 ⟨rfl, bl⟩
  cases b with
  | true =>
    have hz := mayZ_true hb
    have hw : IntKind.i64.wrap (z * 38) = z * 38 := IntWalk.i64_in _ (by omega)
    rw [if_pos rfl] at hr
    replace hr := Lib.hid hr
    clear hb
    go_wp2
    go_ret
    exact ⟨(show Ending.returned (.int .i64 (z * 38)) = .returned (.int .i64 r) from by rw [hr.out]), bl⟩
  | false =>
    rw [if_neg (by simp)] at hr
    replace hr := Lib.hid hr
    clear hb
    go_wp2
    go_ret
    exact ⟨(show Ending.returned (.int .i64 0) = .returned (.int .i64 r) from by rw [hr.out]), bl⟩
theorem ref_length (z r : Int) (w : World) (hr : lenZ z = r) : Calls Try.prog 29 #[.int .i64 z] w fun e w' => e = .returned (.int .i64 r) ∧ Below w.heap.size w w' := by
  by_cases h1 : z < 1
  · have e : mayZ z = false := by simp [mayZ]; omega
    unfold lenZ at hr
    rw [e, if_neg (by simp)] at hr
    replace hr := Lib.hid hr
    clear e
    go_enter Try.func29, Try.ntmps29
    go_wp2
    go_ret
    exact ⟨(show Ending.returned (.int .i64 0) = .returned (.int .i64 r) from by rw [hr.out]), Below.refl _ _⟩
  · by_cases h4 : 4 < z
    · have e : mayZ z = false := by simp [mayZ]; omega
      unfold lenZ at hr
      rw [e, if_neg (by simp)] at hr
      replace hr := Lib.hid hr
      clear e
      go_enter Try.func29, Try.ntmps29
      go_wp2
      go_ret
      exact ⟨(show Ending.returned (.int .i64 0) = .returned (.int .i64 r) from by rw [hr.out]), Below.refl _ _⟩
    · have e : mayZ z = true := by simp [mayZ]; omega
      unfold lenZ at hr
      rw [e, if_pos rfl] at hr
      replace hr := Lib.hid hr
      clear e
      have hw : IntKind.i64.wrap (z * 38) = z * 38 := IntWalk.i64_in _ (by omega)
      go_enter Try.func29, Try.ntmps29
      go_wp2
      go_ret
      exact ⟨(show Ending.returned (.int .i64 (z * 38)) = .returned (.int .i64 r) from by rw [hr.out]), Below.refl _ _⟩

/-- A truth; if it is true, n is few. -/
def FewB (n : Nat) (e : Ending) : Prop := ∃ b, e = .returned (.bool b) ∧ (b = true → n ≤ 200)
theorem FewB.no (n : Nat) : FewB n (.returned (.bool false)) := ⟨_, rfl, fun h => by cases h⟩
theorem FewB.ok {n : Nat} (h : n ≤ 200) (b : Bool) : FewB n (.returned (.bool b)) := ⟨_, rfl, fun _ => h⟩
set_option maxHeartbeats 2000000 in
theorem few9_any (A : Option Addr) (n c : Nat) (L : List BlkR) (w : World) (h : RK w A n c L) : Calls Try.prog 22 #[.slice A n c] w fun e w' => FewB n e ∧ Below w.heap.size w w' := by
  have hnm : n ≤ maxLen := Nat.le_trans h.cap h.max
  unfold maxLen at hnm
  have hLn := h.len
  go_enter Try.func22, Try.ntmps22
  go_wp2
  go_loopw [3, 4] (fun s i wr => ∃ (k : Nat) (m : Int), k ≤ n ∧ k ≤ 200 ∧ 0 ≤ m ∧ m ≤ k * 20001 ∧ s = .int .i64 m ∧ i = .int .i64 k ∧ wr = w) (fun s i _ => 201 - (intOf i).toNat)
  case atStart => exact ⟨0, 0, by omega, by omega, by omega, by omega, rfl, rfl, rfl⟩
  case round =>
    obtain ⟨k, m, hk, hk2, m0, m1, rfl, rfl, rfl⟩ := hrel
    by_cases h1 : k < n
    · by_cases h2 : k < 200
      · obtain ⟨q, hq⟩ : ∃ q, L[k]? = some q := ⟨_, List.getElem?_eq_getElem (by omega)⟩
        obtain ⟨g, o, rfl, hc⟩ := h.at_ (by omega)
        obtain ⟨B, mm, kk, hE, hc0, hc1⟩ := hc k q hq
        have hmm : mm ≤ maxLen := Nat.le_trans hE.cap hE.max
        unfold maxLen at hmm
        clear hc hq hE
        go_wp2
        go_roundw
        case rel => refine ⟨k + 1, m + (if 20001 < (mm : Int) then 20001 else (mm : Int)), by omega, by omega, by split <;> omega, by split <;> omega, by go_num, by go_num, trivial⟩
        case measure => simp [intOf]; omega
      · have h6 : ¬ (n : Int) ≤ 200 := by omega
        go_wp2
        go_ret
        exact ⟨FewB.no n, Below.refl _ _⟩
    · have h6 : (n : Int) ≤ 200 := by omega
      have h7 := Lib.hid (show n ≤ 200 by omega)
      go_wp2
      go_ret
      exact ⟨FewB.ok h7.out _, Below.refl _ _⟩
end Go.Proofs.Ytfldmejjepakeaa
