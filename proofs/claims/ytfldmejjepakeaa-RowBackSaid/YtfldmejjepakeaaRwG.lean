/- slices.Chunk of a row's bytes. -/
import Derived.RangeFuncNested
import Derived.RangeFuncBound
import Derived.RangeFuncCalls
import Derived.RangeFuncLeaves
import Derived.RangeFuncBox
import Derived.RangeFuncWrites
import Derived.Shelf.Abstract
import Derived.Shelf.RegionOpen
import Derived.WalkKit
import Derived.OwnWalkIn
import Derived.TacticsInMore
import Derived.LoopNIn
import Derived.LoopIn
import Derived.Test.YtfldmejjepakeaaRwF
namespace Go.Proofs.Ytfldmejjepakeaa
open Go.ChangeShapes Go.WideShapes Go.ChangeAt Go.RowKit
open Go.ChangeMaps (open_string shut_string)
set_option linter.unusedVariables false
set_option linter.unusedSimpArgs false
set_option maxRecDepth 100000
open Go.Deep
attribute [local go_sem] Oper.semAt_some

def upF (k : Nat) : List (Fin 4) := ([0, 1, 2, 3] : List (Fin 4)).take k
theorem upF_succ {k : Nat} (h : k < 4) : upF (k + 1) = upF k ++ [⟨k, h⟩] := by
  match k, h with
  | 0, _ => rfl
  | 1, _ => rfl
  | 2, _ => rfl
  | 3, _ => rfl
theorem upF_len {k : Nat} (h : k ≤ 4) : (upF k).length = k := by
  unfold upF
  rw [List.length_take]
  simp; omega
/-- The two boxes of the iterator lie as they lay. -/
def KpB (Bs : Nat) (W W' : World) : Prop := ∀ i, i = Bs ∨ i = Bs + 1 → W'.heap[i]? = W.heap[i]?
theorem KpB.t {Bs : Nat} {A B C : World} (h : KpB Bs A B) (k : KpB Bs B C) : KpB Bs A C := fun i hi => (k i hi).trans (h i hi)
theorem KpB.refl (Bs : Nat) (A : World) : KpB Bs A A := fun _ _ => rfl
theorem KpB.blk {Bs i t : Nat} {A B : World} {cs : Array Value} (h : KpB Bs A B) (hi : i = Bs ∨ i = Bs + 1) (hb : Blk A i cs t) : Blk B i cs t := (h i hi).trans hb
def encC (g o : Nat) (x : Fin 4) : Array Value := #[.slice (some ⟨g, o + 9 * x.1, none⟩) 9 9]
set_option maxRecDepth 100000 in
set_option maxHeartbeats 4000000 in
theorem chunk1_in (F : Fence) (n : Nat) (h7 : F.fn 71) (hro : F.round = none) (hn : 1 ≤ n) (l Bs g o c : Nat) (hc36 : 36 ≤ c) (J Jx : List (Fin 4) → World → Prop) (hdr : ∀ pre W, J pre W → J pre W.drew)
    (hY : ∀ pre x W, J pre W → pre.length < 4 → YieldAt F (n - 1) Try.prog l (encC g o x) W fun e W' =>
      (e = .returned (.bool true) ∧ J (pre ++ [x]) W' ∧ KpB Bs W W') ∨ (e = .returned (.bool false) ∧ Jx (pre ++ [x]) W'))
    (W : World) (hBs : Blk W Bs #[.slice (some ⟨g, o, none⟩) 36 c] 22) (hBn : Blk W (Bs + 1) #[.int .i64 9] 3) (h0 : J [] W) :
    CallsIn F n Try.prog 71 #[.func (.yield l) #[] #[], .pointer (some ⟨Bs, 0, none⟩), .pointer (some ⟨Bs + 1, 0, none⟩)] W fun e W' => (∃ v, e = .returned v) ∧
      ((∃ ys, ys = upF 4 ∧ J ys W') ∨ (∃ pre, (∃ k, k ≤ 4 ∧ pre = upF k) ∧ Jx pre W')) := by
  refine callsIn_of_wp Try.func71 rfl h7 ?_ hro
  simp only [Try.ntmps71, List.size_toArray, List.length_cons, List.length_nil, Nat.reduceAdd, Nat.reduceSub, Array.replicate_succ, Array.replicate_zero, List.push_toArray, List.append_toArray, List.nil_append, List.cons_append]
  gi_wp2
  gi_loopw [4] (fun i wr => ∃ (k m : Nat), k ≤ 4 ∧ m = 9 * k ∧ i = .int .i64 m ∧ J (upF k) wr ∧ KpB Bs W wr)
    (fun i _ => 36 - (intOf i).toNat)
  case atStart => exact ⟨0, 0, Nat.zero_le _, rfl, rfl, h0, KpB.refl _ _⟩
  case round =>
    obtain ⟨k, m, hk, hm, rfl, hJs, hnx⟩ := hrel
    have hs : Blk wr Bs #[.slice (some ⟨g, o, none⟩) 36 c] 22 := (hnx Bs (.inl rfl)).trans hBs
    have hz : Blk wr (Bs + 1) #[.int .i64 9] 3 := (hnx (Bs + 1) (.inr rfl)).trans hBn
    have s0 := hs.cell 0 (v := .slice (some ⟨g, o, none⟩) 36 c) rfl
    have z0 := hz.cell 0 (v := .int .i64 9) rfl
    have hw0 : IntKind.i64.wrap ((m : Int) + 9) = ((m + 9 : Nat) : Int) := by rw [IntWalk.i64_in _ (by omega)]; omega
    have hmH := Lib.hid hm
    by_cases hlt : k < 4
    · obtain ⟨fn, tmps, assign, body, hy, hR⟩ := hY (upF k) ⟨k, hlt⟩ wr.drew (hdr _ _ hJs) (by rw [upF_len hk]; exact hlt)
      have hm36 : m < 36 := by omega
      have hm9 : ¬ ((36 - m : Nat) : Int) < 9 := by omega
      have hmc : m + 9 ≤ c := by omega
      unfold encC at hy
      rw [show 9 * (⟨k, hlt⟩ : Fin 4).1 = m from hm.symm] at hy
      have hsl1 : ∀ w, (Instr.slice 22 (.slice (some ⟨g, o, none⟩) 36 c) (some (.int .i64 m)) none none).run Try.prog w = .ok (.slice (if c = m then some ⟨g, o, none⟩ else (some ⟨g, o, none⟩ : Option Addr).map (·.add m)) (36 - m) (c - m)) w := by
        intro w
        rw [run_slice_l (P := Try.prog) w 22 (some ⟨g, o, none⟩) 36 c under_bytes .i64 m (by omega) (by omega), run_sizeU8]
        simp only [Result.andThen_ok, sliced, Int.toNat_natCast, Nat.mul_one]
      have hsl2 : ∀ w, (Instr.slice 22 (.slice (some ⟨g, o, none⟩) 36 c) (some (.int .i64 m)) (some (.int .i64 ((m + 9 : Nat) : Int))) (some (.int .i64 ((m + 9 : Nat) : Int)))).run Try.prog w = .ok (.slice (some ⟨g, o + m, none⟩) 9 9) w := by
        intro w
        rw [run_slice_lhm (P := Try.prog) w 22 (some ⟨g, o, none⟩) 36 c under_bytes .i64 .i64 .i64 m ((m + 9 : Nat) : Int) ((m + 9 : Nat) : Int) (by omega) (by omega) (by omega) (by omega), run_sizeU8]
        simp only [Result.andThen_ok, sliced, Int.toNat_natCast, Nat.mul_one]
        rw [show m + 9 - m = 9 by omega, if_neg (by omega), Option.map_some, Addr.add_lit]
      generalize (if c = m then some ⟨g, o, none⟩ else (some ⟨g, o, none⟩ : Option Addr).map (·.add m)) = A1 at *
      obtain ⟨q, hq⟩ : ∃ q, 36 - m = q := ⟨_, rfl⟩
      rw [hq] at hsl1 hm9
      have hm9' : ¬ (q : Int) < 9 := hm9
      replace hq := Lib.hid hq
      have hzH := Lib.hid (show Blk wr.drew (Bs + 1) #[.int .i64 9] 3 from hz)
      clear hs hz hBs hBn hm
      gi_wp2
      gi_region
      all_goals gi_wp2
      all_goals (
        refine hR.mono ?_
        rintro e W3 (⟨rfl, hJ3, hk3⟩ | ⟨rfl, hJx3⟩)
        · have z3 := (hk3.blk (.inr rfl) hzH.out).cell 0 (v := .int .i64 9) rfl
          have hn3 : KpB Bs W W3 := hnx.t hk3
          gi_wp2
          go_roundw
          case rel => exact ⟨k + 1, m + 9, by omega, by have := hmH.out; omega, by go_num, by rw [upF_succ hlt]; exact hJ3, hn3⟩
          case measure => simp [intOf]; omega
        · gi_wp2
          refine bodyPost_ret (results_none rfl _ _ _) rfl ?_
          exact ⟨⟨_, rfl⟩, .inr ⟨_, ⟨k + 1, by omega, (upF_succ hlt).symm⟩, hJx3⟩⟩)
    · have hk4 : k = 4 := by omega
      subst hk4
      have hm36 : m = 36 := by omega
      subst hm36
      clear hm
      gi_wp2
      go_end0
      exact ⟨⟨_, rfl⟩, .inl hJs⟩
end Go.Proofs.Ytfldmejjepakeaa
