/- Contracts of values: eight, number, and the document's. -/
import Derived.Test.YtfldmejjepakeaaVal1
import Derived.Test.YtfldmejjepakeaaRef2
namespace Go.Proofs.Ytfldmejjepakeaa
open Go.ChangeShapes Go.WideShapes Go.ChangeAt Go.RowKit
open Go.ChangeMaps (open_string shut_string)
set_option linter.unusedVariables false
set_option linter.unusedSimpArgs false
set_option maxRecDepth 100000

theorem bcells_set (l : List UInt8) (i : Nat) (b : UInt8) : (bcells l).setIfInBounds i (bv b) = bcells (l.set i b) := by
  apply Array.toList_inj.1
  simp [bcells]
theorem Blk.setb {w : World} {g t : Nat} {l : List UInt8} (h : Blk w g (bcells l) t) (i : Nat) (b : UInt8) : Blk (w.setCell ⟨g, i, none⟩ (bv b)) g (bcells (l.set i b)) t := by
  rw [← bcells_set]; exact h.set i (bv b)

/-- Its bytes, one by one. -/
theorem be_at (k : Nat) (n : Int) : ∀ i, i < k → (be k n)[i]? = some (byteAt n (k - 1 - i)) := by
  induction k with
  | zero => intro i h; omega
  | succ k ih =>
    intro i h
    cases i with
    | zero => simp [be]
    | succ i => simp only [be, List.getElem?_cons_succ]; rw [ih i (by omega)]; congr 2; omega
theorem be_step (k : Nat) (n : Int) (i : Nat) (h : i < k) : ((be k n).take i ++ List.replicate (k - i) 0).set i (byteAt n (k - 1 - i)) = (be k n).take (i + 1) ++ List.replicate (k - (i + 1)) 0 := by
  have hl := be_length k n
  have e : k - i = (k - (i + 1)) + 1 := by omega
  have h1 : ((be k n).take i).length = i := by rw [List.length_take, hl]; omega
  rw [e, List.replicate_succ, List.set_append_right _ _ (by omega), h1, Nat.sub_self, List.set_cons_zero, List.take_add_one, be_at k n i h]
  simp

set_option maxHeartbeats 1000000 in
set_option maxRecDepth 100000 in
theorem val_eight (n : Int) (w : World) (h0 : 0 ≤ n) (h1 : n < 18446744073709551616) :
    Calls Try.prog 75 #[.int .u64 n] w fun e w' => e = .returned (.slice (some ⟨w.heap.size, 0, none⟩) 8 8) ∧ Blk w' w.heap.size (bcells (be 8 n)) 5 ∧ Below w.heap.size w w' := by
  have hmk : ∀ w, (Instr.makeSlice 22 (.int .i64 8) (.int .i64 8)).run Try.prog w = .ok (.slice (some ⟨w.heap.size, 0, none⟩) 8 8) (w.alloc (.cells (bcells (List.replicate 8 0)) 5)) := fun w => run_mk w 8 (by omega)
  go_enter Try.func75, Try.ntmps75
  go_wp2
  go_loopw [4, 8] (fun _ i wr => ∃ k : Nat, k ≤ 8 ∧ i = .int .i64 k ∧ Blk wr w.heap.size (bcells ((be 8 n).take k ++ List.replicate (8 - k) 0)) 5 ∧ Below w.heap.size w wr) (fun _ i _ => 8 - (intOf i).toNat)
  case atStart => exact ⟨0, by omega, rfl, by simpa using Blk.new w _ _, (by repeat (first | exact Below.refl _ _ | assumption | apply below_drewN' | apply Below.drew | refine Below.alloc ?_ (by first | omega | (simp; done) | (simp; omega)) _ | refine Below.setCell ?_ (by first | omega | (simp; done) | (simp; omega)) _))⟩
  case round =>
    obtain ⟨k, hk, rfl, hb, hbel⟩ := hrel
    by_cases hlt : k < 8
    · have hby : n / 2 ^ (8 * (7 - k)) % 256 = ((byteAt n (8 - 1 - k)).toNat : Int) := by
        have := byte_of' n (8 - 1 - k)
        rw [← this]
      have hge : (0 : Int) ≤ 8 * (7 - (k : Int)) := by omega
      have hz := hb.fz k
      have hset := hb.setb k (byteAt n (8 - 1 - k))
      rw [be_step 8 n k hlt] at hset
      have hat : ∃ v, wr.cell? ⟨w.heap.size, k, none⟩ = some v := by
        refine ⟨_, hb.cell k (v := bv 0) ?_⟩
        have h2 : ((be 8 n).take k).length = k := by rw [List.length_take, be_length]; omega
        rw [bcells_at, List.getElem?_append_right (by omega), h2, Nat.sub_self, List.getElem?_replicate, if_pos (by omega)]
        rfl
      obtain ⟨v, hv⟩ := hat
      go_wp2
      refine ⟨⟨k + 1, by omega, by go_num, ?_, ?_⟩, by simp [intOf]; omega⟩
      · exact hset
      · exact hbel.setCell (Nat.le_refl _) _
    · obtain rfl : k = 8 := by omega
      have hb8 : Blk wr w.heap.size (bcells (be 8 n)) 5 := by simpa [List.take_of_length_le, be_length] using hb
      go_wp2
      go_ret
      exact ⟨rfl, hb8, hbel⟩

/-- A number of 64 bits, a byte on. -/
theorem or_byte64 (x : Int) (b : UInt8) (h0 : 0 ≤ x) (h1 : x < 72057594037927936) : bits .or .u64 (IntKind.u64.wrap (x * 256)) (b.toNat : Int) = x * 256 + (b.toNat : Int) := by
  have hb := b.toNat_lt
  have e : IntKind.u64.wrap (x * 256) = x * 256 := IntWalk.u64_in _ (by omega)
  rw [e]
  exact bits_join .u64 64 (by decide) (fun n a b => by rw [IntKind.wrap_u64]; omega) 8 _ _ (by omega) (by omega) (by omega) (by omega) (by omega) (by omega)

set_option maxHeartbeats 1000000 in
set_option maxRecDepth 100000 in
theorem ref_eight (n : Int) (w : World) (h0 : 0 ≤ n) (h1 : n < 18446744073709551616) :
    Calls Try.prog 80 #[.int .u64 n] w fun e w' => ∃ v, e = .returned v ∧ OB w' w.heap.size v (be 8 n) ∧ Below w.heap.size w w' := by
  go_enter Try.func80, Try.ntmps80
  go_wp2
  go_loopw [3, 4] (fun b i wr => ∃ (j : Nat) (l' : List UInt8), j ≤ 8 ∧ i = .int .i64 ((j : Int) - 1) ∧ OB wr w.heap.size b l' ∧ l'.length + j = 8 ∧ Gr w wr (.slice none 0 0) b ∧ Hid (l' ++ be j n = be 8 n)) (fun _ i _ => (intOf i + 1).toNat)
  case atStart => exact ⟨8, [], by omega, rfl, OB.nil _ _, rfl, Gr.refl _ _, rfl⟩
  case round =>
    obtain ⟨j, l', hj, hi8, hob, hll, hgr, hbe⟩ := hrel
    obtain ⟨A1, c1, rfl, hc1, hm1⟩ := hob.form
    have hbel := hgr.below (B := w.heap.size) (fun k hk => by cases hk) (Nat.le_refl _)
    rcases Nat.eq_zero_or_pos j with rfl | hj0
    · obtain rfl : u4 = .int .i64 (-1) := hi8
      have hb2 := hbe.out
      go_wp2
      go_ret
      refine ⟨_, rfl, ?_, hbel.1⟩
      rw [← hb2]
      simpa [be] using hob
    · obtain ⟨m, rfl⟩ : ∃ m, j = m + 1 := ⟨j - 1, by omega⟩
      obtain rfl : u4 = .int .i64 m := by rw [hi8]; congr 1; omega
      clear hi8
      have Hby := byte_of' n m
      have hk : IntKind.u64.wrap (8 * (m : Int)) = 8 * (m : Int) := IntWalk.u64_in _ (by omega)
      have hBw : w.heap.size ≤ wr.heap.size := hgr.keeps.size
      go_wp2_with (refine wpList_app rfl (.tmp 9) (.tmp 16) rfl w.heap.size _ l' [byteAt n m] _ 1 1 rfl rfl (hob.alloc _) (RB.one _ (byteAt n m)) (by omega) (by simp; omega) ?_; intro v2 w2 ha)
      obtain ⟨A2, c2, rfl, hc2, hm2⟩ := ha.own.form
      have hg2 : Gr w w2 _ _ := hgr.trans ((Gr.app ha).new _)
      have hown := ha.own
      have hb2 : Hid (l' ++ [byteAt n m] ++ be m n = be 8 n) := by
        have := hbe.out
        rw [← this, List.append_assoc]; rfl
      clear Hby ha
      go_wp2
      go_roundw
      case rel => exact ⟨m, _, by omega, rfl, hown, by rw [List.length_append, List.length_singleton]; omega, hg2, hb2⟩
      case measure => simp [intOf]

/-- number of eight bytes at most. -/
theorem ref_number (A : Option Addr) (c : Nat) (l : List UInt8) (w : World) (h : RB w A l.length c l) (h8 : l.length ≤ 8) :
    Calls Try.prog 73 #[.slice A l.length c] w fun e w' => e = .returned (.int .u64 (numB l)) ∧ w = w' := by
  go_enter Try.func73, Try.ntmps73
  go_wp2
  go_loop [3, 4] (fun n i => ∃ j : Nat, j ≤ l.length ∧ i = .int .i64 j ∧ n = .int .u64 (numB (l.take j))) (fun _ i => l.length - (intOf i).toNat)
  case atStart => exact ⟨0, by omega, rfl, rfl⟩
  case round =>
    obtain ⟨j, hj, rfl, rfl⟩ := hrel
    by_cases hlt : j < l.length
    · obtain ⟨g, o, rfl, hc⟩ := h.at_ (by omega)
      have hcell := hc j l[j] (List.getElem?_eq_getElem hlt)
      obtain ⟨b, hb⟩ : ∃ b, l[j] = b := ⟨_, rfl⟩
      rw [hb] at hcell
      have htk : l.take (j + 1) = l.take j ++ [b] := by rw [List.take_succ_eq_append_getElem hlt, hb]
      have Hn := Lib.hid (numB_snoc (l.take j) b)
      rw [← htk] at Hn
      have n0 := numB_nonneg (l.take j)
      clear htk hb hc
      unfold bv at hcell
      have bl := b.toNat_lt
      have n1 := numB_lt (l.take j)
      have hlen : (l.take j).length = j := by rw [List.length_take]; omega
      have p2 : (256 : Int) ^ (l.take j).length ≤ 72057594037927936 := by rw [hlen]; exact pow256 j (by omega)
      have Ho := Lib.hid (or_byte64 (numB (l.take j)) b n0 (by omega))
      clear n1 p2 hlen
      go_wp2
      exact ⟨⟨j + 1, by omega, by go_num, by rw [Ho.out, Hn.out]⟩, by simp [intOf]; omega⟩
    · obtain hjl : j = l.length := by omega
      have hd : l.take j = l := List.take_of_length_le (by omega)
      rw [hd, hjl]
      clear hd hjl hj
      go_wp2
      go_ret
      exact ⟨rfl, rfl⟩
end Go.Proofs.Ytfldmejjepakeaa
