/- Merged: Val2, Val3, Lex, Slab2, Nonce, Nonce2, Nonce3, Nonce4, NoncePure, First5, Args, Plain5, Val4, Val5, Val6, RwC, LayA, LayB, LayC, CgB, FreeW, FreeR, CgC, Raw1, WrKit, CgF. -/
import Derived.Test.YtjpgiohdaadieaaRk1
import Derived.Lib.AppendZerosOnto
import Derived.Laws.IdiomCopy
import Derived.WalkLawsBesides
import Derived.StillTailTactics
import Derived.ChangeSlices
import Derived.Deep.RegionHeld3
import Derived.Deep.DeepCutAuto
/- Contracts of values: eight, number, and the document's. -/
namespace Go.Proofs.Ytjpgiohdaadieaa
open Go.ChangeShapes Go.WideShapes Go.ChangeAt Go.RowKit
open Go.ChangeMaps (open_string shut_string)
set_option linter.unusedVariables false
set_option linter.unusedSimpArgs false
set_option maxRecDepth 100000

theorem bcells_set (l : List UInt8) (i : Nat) (b : UInt8) : (bcells l).setIfInBounds i (bv b) = bcells (l.set i b) := by
  apply Array.toList_inj.1
  simp [bcells]
theorem Blk.setb {w : World} {g t : Nat} {l : List UInt8} (h : Blk w g (bcells l) t) (i : Nat) (b : UInt8) : Blk (w.setCell ⟨g, i, none⟩ (bv b)) g (bcells (l.set i b)) t := by
  rw [← bcells_set]; exact h.set i (bv b)

/-- Its bytes, one by one. -/
theorem be_at (k : Nat) (n : Int) : ∀ i, i < k → (be k n)[i]? = some (byteAt n (k - 1 - i)) := by
  induction k with
  | zero => intro i h; omega
  | succ k ih =>
    intro i h
    cases i with
    | zero => simp [be]
    | succ i => simp only [be, List.getElem?_cons_succ]; rw [ih i (by omega)]; congr 2; omega
theorem be_step (k : Nat) (n : Int) (i : Nat) (h : i < k) : ((be k n).take i ++ List.replicate (k - i) 0).set i (byteAt n (k - 1 - i)) = (be k n).take (i + 1) ++ List.replicate (k - (i + 1)) 0 := by
  have hl := be_length k n
  have e : k - i = (k - (i + 1)) + 1 := by omega
  have h1 : ((be k n).take i).length = i := by rw [List.length_take, hl]; omega
  rw [e, List.replicate_succ, List.set_append_right _ _ (by omega), h1, Nat.sub_self, List.set_cons_zero, List.take_add_one, be_at k n i h]
  simp

set_option maxHeartbeats 1000000 in
set_option maxRecDepth 100000 in
theorem val_eight (n : Int) (w : World) (h0 : 0 ≤ n) (h1 : n < 18446744073709551616) :
    Calls Try.prog 78 #[.int .u64 n] w fun e w' => e = .returned (.slice (some ⟨w.heap.size, 0, none⟩) 8 8) ∧ Blk w' w.heap.size (bcells (be 8 n)) 5 ∧ Below w.heap.size w w' := by
  have hmk : ∀ w, (Instr.makeSlice 45 (.int .i64 8) (.int .i64 8)).run Try.prog w = .ok (.slice (some ⟨w.heap.size, 0, none⟩) 8 8) (w.alloc (.cells (bcells (List.replicate 8 0)) 5)) := fun w => run_mk w 8 (by omega)
  go_enter Try.func78, Try.ntmps78
  go_wp2
  go_loopw [4, 8] (fun _ i wr => ∃ k : Nat, k ≤ 8 ∧ i = .int .i64 k ∧ Blk wr w.heap.size (bcells ((be 8 n).take k ++ List.replicate (8 - k) 0)) 5 ∧ Below w.heap.size w wr) (fun _ i _ => 8 - (intOf i).toNat)
  case atStart => exact ⟨0, by omega, rfl, by simpa using Blk.new w _ _, (by repeat (first | exact Below.refl _ _ | assumption | apply below_drewN' | apply Below.drew | refine Below.alloc ?_ (by first | omega | (simp; done) | (simp; omega)) _ | refine Below.setCell ?_ (by first | omega | (simp; done) | (simp; omega)) _))⟩
  case round =>
    obtain ⟨k, hk, rfl, hb, hbel⟩ := hrel
    by_cases hlt : k < 8
    · have hby : n / 2 ^ (8 * (7 - k)) % 256 = ((byteAt n (8 - 1 - k)).toNat : Int) := by
        have := byte_of' n (8 - 1 - k)
        rw [← this]
      have hge : (0 : Int) ≤ 8 * (7 - (k : Int)) := by omega
      have hz := hb.fz k
      have hset := hb.setb k (byteAt n (8 - 1 - k))
      rw [be_step 8 n k hlt] at hset
      have hat : ∃ v, wr.cell? ⟨w.heap.size, k, none⟩ = some v := by
        refine ⟨_, hb.cell k (v := bv 0) ?_⟩
        have h2 : ((be 8 n).take k).length = k := by rw [List.length_take, be_length]; omega
        rw [bcells_at, List.getElem?_append_right (by omega), h2, Nat.sub_self, List.getElem?_replicate, if_pos (by omega)]
        rfl
      obtain ⟨v, hv⟩ := hat
      go_wp2
      refine ⟨⟨k + 1, by omega, by go_num, ?_, ?_⟩, by simp [intOf]; omega⟩
      · exact hset
      · exact hbel.setCell (Nat.le_refl _) _
    · obtain rfl : k = 8 := by omega
      have hb8 : Blk wr w.heap.size (bcells (be 8 n)) 5 := by simpa [List.take_of_length_le, be_length] using hb
      go_wp2
      go_ret
      exact ⟨rfl, hb8, hbel⟩

/-- A number of 64 bits, a byte on. -/
theorem or_byte64 (x : Int) (b : UInt8) (h0 : 0 ≤ x) (h1 : x < 72057594037927936) : bits .or .u64 (IntKind.u64.wrap (x * 256)) (b.toNat : Int) = x * 256 + (b.toNat : Int) := by
  have hb := b.toNat_lt
  have e : IntKind.u64.wrap (x * 256) = x * 256 := IntWalk.u64_in _ (by omega)
  rw [e]
  exact bits_join .u64 64 (by decide) (fun n a b => by rw [IntKind.wrap_u64]; omega) 8 _ _ (by omega) (by omega) (by omega) (by omega) (by omega) (by omega)

set_option maxHeartbeats 1000000 in
set_option maxRecDepth 100000 in
theorem ref_eight (n : Int) (w : World) (h0 : 0 ≤ n) (h1 : n < 18446744073709551616) :
    Calls Try.prog 63 #[.int .u64 n] w fun e w' => ∃ v, e = .returned v ∧ OB w' w.heap.size v (be 8 n) ∧ Below w.heap.size w w' := by
  go_enter Try.func63, Try.ntmps63
  go_wp2
  go_loopw [3, 4] (fun b i wr => ∃ (j : Nat) (l' : List UInt8), j ≤ 8 ∧ i = .int .i64 ((j : Int) - 1) ∧ OB wr w.heap.size b l' ∧ l'.length + j = 8 ∧ Gr w wr (.slice none 0 0) b ∧ Hid (l' ++ be j n = be 8 n)) (fun _ i _ => (intOf i + 1).toNat)
  case atStart => exact ⟨8, [], by omega, rfl, OB.nil _ _, rfl, Gr.refl _ _, rfl⟩
  case round =>
    obtain ⟨j, l', hj, hi8, hob, hll, hgr, hbe⟩ := hrel
    obtain ⟨A1, c1, rfl, hc1, hm1⟩ := hob.form
    have hbel := hgr.below (B := w.heap.size) (fun k hk => by cases hk) (Nat.le_refl _)
    rcases Nat.eq_zero_or_pos j with rfl | hj0
    · obtain rfl : u4 = .int .i64 (-1) := hi8
      have hb2 := hbe.out
      go_wp2
      go_ret
      refine ⟨_, rfl, ?_, hbel.1⟩
      rw [← hb2]
      simpa [be] using hob
    · obtain ⟨m, rfl⟩ : ∃ m, j = m + 1 := ⟨j - 1, by omega⟩
      obtain rfl : u4 = .int .i64 m := by rw [hi8]; congr 1; omega
      clear hi8
      have Hby := byte_of' n m
      have hk : IntKind.u64.wrap (8 * (m : Int)) = 8 * (m : Int) := IntWalk.u64_in _ (by omega)
      have hBw : w.heap.size ≤ wr.heap.size := hgr.keeps.size
      go_wp2_with (refine wpList_app rfl (.tmp 9) (.tmp 16) rfl w.heap.size _ l' [byteAt n m] _ 1 1 rfl rfl (hob.alloc _) (RB.one _ (byteAt n m)) (by omega) (by simp; omega) ?_; intro v2 w2 ha)
      obtain ⟨A2, c2, rfl, hc2, hm2⟩ := ha.own.form
      have hg2 : Gr w w2 _ _ := hgr.trans ((Gr.app ha).new _)
      have hown := ha.own
      have hb2 : Hid (l' ++ [byteAt n m] ++ be m n = be 8 n) := by
        have := hbe.out
        rw [← this, List.append_assoc]; rfl
      clear Hby ha
      go_wp2
      go_roundw
      case rel => exact ⟨m, _, by omega, rfl, hown, by rw [List.length_append, List.length_singleton]; omega, hg2, hb2⟩
      case measure => simp [intOf]

/-- number of eight bytes at most. -/
theorem ref_number (A : Option Addr) (c : Nat) (l : List UInt8) (w : World) (h : RB w A l.length c l) (h8 : l.length ≤ 8) :
    Calls Try.prog 72 #[.slice A l.length c] w fun e w' => e = .returned (.int .u64 (numB l)) ∧ w = w' := by
  go_enter Try.func72, Try.ntmps72
  go_wp2
  go_loop [3, 4] (fun n i => ∃ j : Nat, j ≤ l.length ∧ i = .int .i64 j ∧ n = .int .u64 (numB (l.take j))) (fun _ i => l.length - (intOf i).toNat)
  case atStart => exact ⟨0, by omega, rfl, rfl⟩
  case round =>
    obtain ⟨j, hj, rfl, rfl⟩ := hrel
    by_cases hlt : j < l.length
    · obtain ⟨g, o, rfl, hc⟩ := h.at_ (by omega)
      have hcell := hc j l[j] (List.getElem?_eq_getElem hlt)
      obtain ⟨b, hb⟩ : ∃ b, l[j] = b := ⟨_, rfl⟩
      rw [hb] at hcell
      have htk : l.take (j + 1) = l.take j ++ [b] := by rw [List.take_succ_eq_append_getElem hlt, hb]
      have Hn := Lib.hid (numB_snoc (l.take j) b)
      rw [← htk] at Hn
      have n0 := numB_nonneg (l.take j)
      clear htk hb hc
      unfold bv at hcell
      have bl := b.toNat_lt
      have n1 := numB_lt (l.take j)
      have hlen : (l.take j).length = j := by rw [List.length_take]; omega
      have p2 : (256 : Int) ^ (l.take j).length ≤ 72057594037927936 := by rw [hlen]; exact pow256 j (by omega)
      have Ho := Lib.hid (or_byte64 (numB (l.take j)) b n0 (by omega))
      clear n1 p2 hlen
      go_wp2
      exact ⟨⟨j + 1, by omega, by go_num, by rw [Ho.out, Hn.out]⟩, by simp [intOf]; omega⟩
    · obtain hjl : j = l.length := by omega
      have hd : l.take j = l := List.take_of_length_le (by omega)
      rw [hd, hjl]
      clear hd hjl hj
      go_wp2
      go_ret
      exact ⟨rfl, rfl⟩
end Go.Proofs.Ytjpgiohdaadieaa
/- Contracts of values: number, filled (bytes of a string). -/
namespace Go.Proofs.Ytjpgiohdaadieaa
open Go.ChangeShapes Go.WideShapes Go.ChangeAt Go.RowKit
open Go.ChangeMaps (open_string shut_string)
set_option linter.unusedVariables false
set_option linter.unusedSimpArgs false
set_option maxRecDepth 100000

/-- '[]byte(s)'. -/
theorem conv_str (w : World) (l : List UInt8) : (convert 9 45 (.string (str l))).run Try.prog w = .ok (.slice (some ⟨w.heap.size, 0, none⟩) l.length (grownCap w l.length 0 5)) (Lib.bytesWorld w 5 (str l)) := by
  have := Lib.run_convert_string_bytes (P := Try.prog) w 9 45 5 (str l) Try.underlying9 Try.underlying45 Try.underlying5
  rw [str_size] at this
  exact this
theorem bytesWorld_below (w : World) (l : List UInt8) : Below w.heap.size w (Lib.bytesWorld w 5 (str l)) :=
  ⟨rfl, rfl, rfl, by rw [Lib.bytesWorld_size]; omega, fun k hk => Lib.bytesWorld_at_old w _ _ k hk⟩
theorem bytesWorld_cell (w : World) (l : List UInt8) (i : Nat) (b : UInt8) (hb : l[i]? = some b) : (Lib.bytesWorld w 5 (str l)).cell? ⟨w.heap.size, i, none⟩ = some (bv b) := by
  have hi : i < l.length := (List.getElem?_eq_some_iff.1 hb).1
  rw [Lib.bytesWorld_cell w _ (str l) i (by rw [str_size]; exact hi), str_toList, List.getD, hb]
  rfl
theorem grown_fit (w : World) (n : Nat) (hn : n ≤ 1099511627776) : n ≤ grownCap w n 0 5 ∧ grownCap w n 0 5 ≤ maxLen := ⟨grownCap_ge w n 0 _, grownCap_le_maxLen w n 0 _ (by unfold maxLen; omega)⟩
theorem bytesWorld_rb (w : World) (l : List UInt8) (hn : l.length ≤ 1099511627776) : RB (Lib.bytesWorld w 5 (str l)) (some ⟨w.heap.size, 0, none⟩) l.length (grownCap w l.length 0 5) l :=
  ⟨rfl, (grown_fit w _ hn).1, (grown_fit w _ hn).2, fun h => (by cases h), fun _ => ⟨_, _, rfl, fun i b hb => (by rw [Nat.zero_add]; exact bytesWorld_cell w l i b hb)⟩⟩

theorem bytesCells_eq (w : World) (l : List UInt8) : Lib.bytesCells w 5 (str l) = (l.map bv).toArray ++ Array.replicate (grownCap w l.length 0 5 - l.length) (.int .u8 0) := by
  unfold Lib.bytesCells
  rw [str_size]
  congr 1
  apply Array.toList_inj.1
  simp [str, bv]
theorem bytesWorld_all (w : World) (l : List UInt8) (j : Nat) (hj : j < grownCap w l.length 0 5) (hl : l.length ≤ j) : (Lib.bytesWorld w 5 (str l)).cell? ⟨w.heap.size, j, none⟩ = some (.int .u8 0) := by
  have key : (Lib.bytesWorld w 5 (str l)).cell? ⟨w.heap.size, j, none⟩ = (Lib.bytesCells w 5 (str l))[j]? := by simp [World.cell?, Lib.bytesWorld_at_new]
  rw [key, bytesCells_eq, Array.getElem?_append_right (by simp; exact hl), Array.getElem?_replicate, if_pos (by simp; omega)]
theorem bytesWorld_fz (w : World) (l : List UInt8) (j : Nat) (hj : j < grownCap w l.length 0 5) : (Lib.bytesWorld w 5 (str l)).frozen? ⟨w.heap.size, j, none⟩ = false := by
  have e : (str l).data.size = l.length := by simp [str]
  have e2 := str_size l
  have e3 : (Lib.bytesCells w 5 (str l)).size = grownCap w l.length 0 5 := by
    have := grownCap_ge w l.length 0 5
    simp [Lib.bytesCells, e, e2]; omega
  simp only [World.frozen?, Lib.bytesWorld_at_new, e3, Bool.and_eq_false_iff, decide_eq_false_iff_not]
  left
  omega

theorem below_setCells {B b : Nat} {a : World} (vs : List Value) : ∀ (o : Nat) {w : World}, Below B a w → B ≤ b → Below B a (w.setCells b o vs) := by
  induction vs with
  | nil => intro o w h _; exact h
  | cons v r ih => intro o w h hB; exact ih _ (h.setCell (p := ⟨b, o, none⟩) hB v) hB
theorem zeroCells_one (z : Value) (n : Nat) : Builtin.zeroCells #[z] n = (List.replicate n z).toArray := by
  apply Array.ext
  · simp [Builtin.zeroCells]
  · intro i h1 h2
    simp [Builtin.zeroCells, Nat.mod_one]

theorem filled_run (ty : TypeId) (w : World) (l : List UInt8) (hl : l.length ≤ 8) :
    ∃ v w', (Builtin.append_ #[45, 3] ty #[.slice (some ⟨w.heap.size, 0, none⟩) l.length (grownCap w l.length 0 5), .int .i64 (8 - (l.length : Int))]).run Try.prog (Lib.bytesWorld w 5 (str l)) = .ok v w' ∧ Fr w' w.heap.size v (fill l 8) ∧ Below w.heap.size w w' := by
  obtain ⟨i0, hi, hz0, hz1, hz2⟩ := info_parts info_u8
  obtain ⟨k, hk⟩ : ∃ k : Nat, l.length + k = 8 := ⟨8 - l.length, by omega⟩
  have hk2 : (8 - (l.length : Int)) = ((k : Nat) : Int) := by omega
  rw [hk2]
  have hfill : fill l 8 = l ++ List.replicate k 0 := by unfold fill; rw [List.take_of_length_le hl]; congr 2; omega
  have hfl : (fill l 8).length = 8 := fill_length l 8
  have hb := bytesWorld_below w l
  have hg := grown_fit w l.length (by omega)
  generalize hC : grownCap w l.length 0 5 = C at *
  by_cases hfit : l.length + k ≤ C
  · have hst := run_storeCells_cells (P := Try.prog) w.heap.size l.length (List.replicate k (Value.int .u8 0)) 0 (Lib.bytesWorld w 5 (str l))
      (fun j hj => by rw [bytesWorld_all w l (l.length + 0 + j) (by simp at hj; omega) (by omega)]; rfl)
      (fun j hj => bytesWorld_fz w l _ (by simp at hj; omega)) (fun v hv => by rw [List.eq_of_mem_replicate hv]; rfl)
    have hadd : (⟨w.heap.size, 0, none⟩ : Addr).add l.length = ⟨w.heap.size, l.length, none⟩ := by rw [Addr.add_lit, Nat.zero_add]
    have hpos : ¬ ((k : Int) < 0) := by omega
    have h48 : ¬ (281474976710656 < (k : Int)) := by omega
    have hw : IntKind.i64.wrap (k : Int) = k := by rw [IntKind.wrap_i64]; omega
    have hcells : (Value.int IntKind.u8 0).cells = #[Value.int .u8 0] := rfl
    rw [Nat.add_zero] at hst
    refine ⟨.slice (some ⟨w.heap.size, 0, none⟩) 8 C, (Lib.bytesWorld w 5 (str l)).setCells w.heap.size l.length (List.replicate k (Value.int .u8 0)), ?_, ?_, below_setCells _ _ hb (Nat.le_refl _)⟩
    · rcases Nat.eq_zero_or_pos k with rfl | hk0
      · have hw0 : IntKind.i64.wrap 0 = 0 := rfl
        have hle : l.length ≤ C := hg.1
        simp [hw0, hle, Builtin.append_, run_underlying Try.underlying45, run_underlying Try.underlying3, sizeOf, typeInfo, zeroValue, hi, hz0, hz1, hz2, asInt, asIntOf, hfit, hadd, storeCells, World.setCells]
        omega
      · have hk1 : ¬ (k = 0) := by omega
        simp [hcells, Builtin.append_, run_underlying Try.underlying45, run_underlying Try.underlying3, sizeOf, typeInfo, zeroValue, hi, hz0, hz1, hz2, asInt, asIntOf, hw, hpos, h48, hk1, hfit, hadd, zeroCells_one, hst]
        omega
    · refine ⟨some ⟨w.heap.size, 0, none⟩, C, by rw [hfl], ?_, fun _ a ha => by injection ha with ha; rw [← ha]; exact Nat.le_refl _⟩
      refine ⟨rfl, by rw [hfl]; omega, hg.2, fun h => (by cases h), fun _ => ⟨_, _, rfl, fun i b hb2 => ?_⟩⟩
      rw [Nat.zero_add]
      have hi8 : i < 8 := by have := (List.getElem?_eq_some_iff.1 hb2).1; omega
      rw [hfill] at hb2
      by_cases hil : i < l.length
      · rw [World.cell?_setCells_out _ _ _ _ _ (fun _ _ => .inl hil)]
        rw [List.getElem?_append_left hil] at hb2
        exact bytesWorld_cell w l i b hb2
      · rw [List.getElem?_append_right (by omega), List.getElem?_replicate, if_pos (by omega)] at hb2
        injection hb2 with hb2
        subst hb2
        have := World.cell?_setCells_in w.heap.size (List.replicate k (Value.int IntKind.u8 0)) l.length (Lib.bytesWorld w 5 (str l)) (fun j hj => by rw [bytesWorld_all w l (l.length + j) (by simp at hj; omega) (by omega)]; rfl) (i - l.length) (by simp; omega)
        rw [show l.length + (i - l.length) = i from by omega] at this
        rw [this]
        simp [bv]
  · have hk0 : 0 < k := by omega
    have hold : (Builtin.firstCells i0.size l.length (.slice (some ⟨w.heap.size, 0, none⟩) l.length C)).run Try.prog (Lib.bytesWorld w 5 (str l)).drew = .ok (l.map bv).toArray (Lib.bytesWorld w 5 (str l)).drew := by
      have hrd : ∀ j v, (l.map bv)[j]? = some v → (Lib.bytesWorld w 5 (str l)).drew.cell? ((⟨w.heap.size, 0, none⟩ : Addr).add j) = some v := by
        intro j v hv
        rw [List.getElem?_map] at hv
        cases hb3 : l[j]? with
        | none => rw [hb3] at hv; cases hv
        | some b =>
          rw [hb3] at hv
          injection hv with hv
          subst hv
          have e : (⟨w.heap.size, 0, none⟩ : Addr).add j = ⟨w.heap.size, j, none⟩ := by rw [Addr.add_lit, Nat.zero_add]
          have h3 := bytesWorld_cell w l j b hb3
          rw [e]
          exact h3
      have := run_loadCells_list (P := Try.prog) (Lib.bytesWorld w 5 (str l)).drew ⟨w.heap.size, 0, none⟩ (l.map bv) hrd
      simpa [Builtin.firstCells, hz1] using this
    have hnc : Builtin.nextslicecap (l.length + k) C * i0.bytes ≤ 281474976710656 := by
      rw [hz2, hk, Nat.mul_one]
      unfold Builtin.nextslicecap
      by_cases h2 : 8 > 2 * C
      · rw [if_pos h2]; omega
      · rw [if_neg h2, if_pos (by omega)]; omega
    have hg2 := Lib.run_append_grow_zeros (P := Try.prog) (Lib.bytesWorld w 5 (str l)) 45 3 ty 5 i0 (.int .u8 0) .i64 .i64 Try.underlying45 Try.underlying3 hi hz0 (some ⟨w.heap.size, 0, none⟩) l.length C (l.map bv) hold k hk0 (by omega) (by omega) (by omega) (by rw [hz2]; omega) hnc
    refine ⟨_, _, hg2, ?_, (hb.drew).alloc hb.size _⟩
    have hge := grownCap_ge (Lib.bytesWorld w 5 (str l)) (l.length + k) C 5
    have hgm := grownCap_le_maxLen (Lib.bytesWorld w 5 (str l)) (l.length + k) C 5 (by unfold maxLen; omega)
    refine ⟨some ⟨(Lib.bytesWorld w 5 (str l)).heap.size, 0, none⟩, grownCap (Lib.bytesWorld w 5 (str l)) (l.length + k) C 5, by rw [hfl, hk], ?_, fun _ a ha => by injection ha with ha; rw [← ha]; exact hb.size⟩
    refine ⟨rfl, by rw [hfl]; omega, hgm, fun h => (by cases h), fun _ => ⟨_, _, rfl, fun i b hb2 => ?_⟩⟩
    rw [Nat.zero_add]
    have hi8 : i < 8 := by have := (List.getElem?_eq_some_iff.1 hb2).1; omega
    have hcells : (Value.int IntKind.u8 0).cells = #[Value.int .u8 0] := rfl
    have hnew := heap_alloc_new (Lib.bytesWorld w 5 (str l)).drew (.cells ((l.map bv).toArray ++ Builtin.zeroCells (Value.int IntKind.u8 0).cells k ++ Builtin.zeroCells (Value.int IntKind.u8 0).cells (grownCap (Lib.bytesWorld w 5 (str l)) (l.length + k) C 5 - (l.length + k))) 5)
    have hd : (Lib.bytesWorld w 5 (str l)).drew.heap.size = (Lib.bytesWorld w 5 (str l)).heap.size := rfl
    rw [hd] at hnew
    simp only [World.cell?, hnew]
    rw [hcells, zeroCells_one, Array.getElem?_append_left (by simp; omega)]
    rw [hfill] at hb2
    have : ((l.map bv).toArray ++ (List.replicate k (Value.int IntKind.u8 0)).toArray) = ((l ++ List.replicate k 0).map bv).toArray := by simp [bv]
    rw [this, List.getElem?_toArray, List.getElem?_map, hb2]
    rfl

theorem val_filled (l : List UInt8) (w : World) (hl : l.length ≤ 8) :
    Calls Try.prog 79 #[.string (str l)] w fun e w' => ∃ v, e = .returned v ∧ Fr w' w.heap.size v (fill l 8) ∧ Below w.heap.size w w' := by
  have hz := str_size l
  have hc := fun w => conv_str w l
  obtain ⟨v, w', hr, hf, hb⟩ := filled_run 45 w l hl
  go_enter Try.func79, Try.ntmps79
  go_wp2_with (at_builtin; refine Lib.wpList_append_run _ rfl _ _ _ _ rfl _ _ rfl rfl _ _ hr ?_)
  go_ret
  exact ⟨_, rfl, hf, hb⟩

/-- number of eight bytes at most. -/
theorem val_number (l : List UInt8) (w : World) (h8 : l.length ≤ 8) :
    Calls Try.prog 83 #[.string (str l)] w fun e w' => e = .returned (.int .u64 (numB l)) ∧ Below w.heap.size w w' := by
  have hz := str_size l
  have hc := fun w => conv_str w l
  have h := bytesWorld_rb w l (by omega)
  have hb := bytesWorld_below w l
  go_enter Try.func83, Try.ntmps83
  go_wp2
  obtain ⟨W, hW⟩ : ∃ W, W = Lib.bytesWorld w 5 (str l) := ⟨_, rfl⟩
  rw [← hW] at h hb
  rw [← hW]
  clear hW hc hz
  generalize grownCap w l.length 0 5 = C at *
  go_loop [3, 5, 9] (fun n _ i => ∃ j : Nat, j ≤ l.length ∧ i = .int .i64 j ∧ n = .int .u64 (numB (l.take j))) (fun _ _ i => l.length - (intOf i).toNat)
  case atStart => exact ⟨0, by omega, rfl, rfl⟩
  case round =>
    obtain ⟨j, hj, rfl, rfl⟩ := hrel
    by_cases hlt : j < l.length
    · obtain ⟨g, o, ho, hc⟩ := h.at_ (by omega)
      injection ho with ho
      injection ho with ho1 ho2
      subst ho1; subst ho2
      have hcell := hc j l[j] (List.getElem?_eq_getElem hlt)
      rw [Nat.zero_add] at hcell
      obtain ⟨b, hb⟩ : ∃ b, l[j] = b := ⟨_, rfl⟩
      rw [hb] at hcell
      have htk : l.take (j + 1) = l.take j ++ [b] := by rw [List.take_succ_eq_append_getElem hlt, hb]
      have Hn := Lib.hid (numB_snoc (l.take j) b)
      rw [← htk] at Hn
      have n0 := numB_nonneg (l.take j)
      clear htk hb hc
      unfold bv at hcell
      have bl := b.toNat_lt
      have n1 := numB_lt (l.take j)
      have hlen : (l.take j).length = j := by rw [List.length_take]; omega
      have p2 : (256 : Int) ^ (l.take j).length ≤ 72057594037927936 := by rw [hlen]; exact pow256 j (by omega)
      have Ho := Lib.hid (or_byte64 (numB (l.take j)) b n0 (by omega))
      clear n1 p2 hlen
      go_wp2
      exact ⟨⟨j + 1, by omega, by go_num, by rw [Ho.out, Hn.out]⟩, by simp [intOf]; omega⟩
    · obtain hjl : j = l.length := by omega
      have hd : l.take j = l := List.take_of_length_le (by omega)
      rw [hd, hjl]
      clear hd hjl hj
      go_wp2
      go_ret
      exact ⟨rfl, hb⟩
end Go.Proofs.Ytjpgiohdaadieaa
/- The order of bytes: numbers written with the greatest byte first order as they do. -/
namespace Go.Proofs.Ytjpgiohdaadieaa
open Go.ChangeShapes Go.WideShapes Go.ChangeAt Go.RowKit
open Go.ChangeMaps (open_string shut_string)
set_option linter.unusedVariables false
set_option linter.unusedSimpArgs false
set_option maxRecDepth 100000

theorem numF_lin (l : List UInt8) : ∀ a : Int, l.foldl (fun (n : Int) (b : UInt8) => n * 256 + (b.toNat : Int)) a = a * 256 ^ l.length + numB l := by
  induction l with
  | nil => intro a; simp [numB]
  | cons b l ih =>
    intro a
    have e0 : numB (b :: l) = (b.toNat : Int) * 256 ^ l.length + numB l := by
      unfold numB
      rw [List.foldl_cons, ih]
      simp only [Int.zero_mul, Int.zero_add]
      rfl
    rw [List.foldl_cons, ih, e0, List.length_cons, Int.pow_succ, Int.add_mul, Int.mul_comm (256 ^ l.length) 256, Int.mul_assoc, Int.add_assoc]

theorem numB_cons (b : UInt8) (l : List UInt8) : numB (b :: l) = (b.toNat : Int) * 256 ^ l.length + numB l := by
  unfold numB
  rw [List.foldl_cons, numF_lin]
  simp only [Int.zero_mul, Int.zero_add]
  rfl
theorem numB_append (l l' : List UInt8) : numB (l ++ l') = numB l * 256 ^ l'.length + numB l' := by
  show List.foldl _ _ _ = _
  rw [List.foldl_append, numF_lin]
  rfl

theorem numB_be (k m : Nat) : numB (be k (m : Int)) = ((m % 256 ^ k : Nat) : Int) := by
  induction k with
  | zero => simp [be, numB, Nat.mod_one]
  | succ k ih =>
    have hb : ((byteAt (m : Int) k).toNat : Int) = ((m / 256 ^ k % 256 : Nat) : Int) := by
      have h := byte_of (m : Int) k
      rw [IntKind.wrap_u8, show (8 * (k : Int)).toNat = 8 * k from by omega] at h
      rw [← h]
      have e : (2 : Int) ^ (8 * k) = ((256 ^ k : Nat) : Int) := by
        rw [Int.pow_mul, Int.natCast_pow]
        rfl
      rw [e]
      generalize 256 ^ k = P
      rw [Int.natCast_emod, Int.natCast_ediv]
      rfl
    rw [be, numB_cons, be_length, ih, hb, Nat.pow_succ, Nat.mod_mul]
    have e2 : (256 : Int) ^ k = ((256 ^ k : Nat) : Int) := by rw [Int.natCast_pow]; rfl
    rw [e2]
    generalize 256 ^ k = P
    rw [Int.natCast_add, Int.natCast_mul, Int.mul_comm]
    omega

theorem bytesLess_num : ∀ l l' : List UInt8, l.length = l'.length → Op.bytesLess l l' = decide (numB l < numB l')
  | [], [], _ => by simp [Op.bytesLess, numB]
  | [], _ :: _, h => by simp at h
  | _ :: _, [], h => by simp at h
  | a :: x, b :: y, h => by
    have hl : x.length = y.length := by simpa using h
    have ih := bytesLess_num x y hl
    have x0 := numB_nonneg x
    have y0 := numB_nonneg y
    have x1 := numB_lt x
    have y1 := numB_lt y
    rw [numB_cons, numB_cons, hl]
    rw [hl] at x1
    generalize (256 : Int) ^ y.length = P at *
    simp only [Op.bytesLess, ih]
    by_cases h1 : a < b
    · have : a.toNat < b.toNat := UInt8.lt_iff_toNat_lt.1 h1
      have h2 : ((a.toNat : Int) + 1) * P ≤ (b.toNat : Int) * P := Int.mul_le_mul_of_nonneg_right (by omega) (by omega)
      rw [Int.add_mul, Int.one_mul] at h2
      simp only [h1, decide_true, Bool.true_or]
      exact (decide_eq_true (by omega)).symm
    · by_cases h3 : a = b
      · subst h3
        simp
      · have : b.toNat < a.toNat := by
          have h4 : ¬ a.toNat < b.toNat := fun h => h1 (UInt8.lt_iff_toNat_lt.2 h)
          have h5 : a.toNat ≠ b.toNat := fun h => h3 (UInt8.toNat_inj.1 h)
          omega
        have h2 : ((b.toNat : Int) + 1) * P ≤ (a.toNat : Int) * P := Int.mul_le_mul_of_nonneg_right (by omega) (by omega)
        rw [Int.add_mul, Int.one_mul] at h2
        have h6 : (a == b) = false := by simpa using h3
        simp only [h1, h6, decide_false, Bool.false_and, Bool.or_self]
        exact (decide_eq_false (by omega)).symm

theorem numB_inj : ∀ l l' : List UInt8, l.length = l'.length → numB l = numB l' → l = l'
  | [], [], _, _ => rfl
  | [], _ :: _, h, _ => by simp at h
  | _ :: _, [], h, _ => by simp at h
  | a :: x, b :: y, h, e => by
    have hl : x.length = y.length := by simpa using h
    have x0 := numB_nonneg x
    have y0 := numB_nonneg y
    have x1 := numB_lt x
    have y1 := numB_lt y
    rw [numB_cons, numB_cons, hl] at e
    rw [hl] at x1
    have ih := numB_inj x y hl
    generalize (256 : Int) ^ y.length = P at *
    have hab : a.toNat = b.toNat := by
      rcases Nat.lt_trichotomy a.toNat b.toNat with h | h | h
      · have h2 : ((a.toNat : Int) + 1) * P ≤ (b.toNat : Int) * P := Int.mul_le_mul_of_nonneg_right (by omega) (by omega)
        rw [Int.add_mul, Int.one_mul] at h2
        omega
      · exact h
      · have h2 : ((b.toNat : Int) + 1) * P ≤ (a.toNat : Int) * P := Int.mul_le_mul_of_nonneg_right (by omega) (by omega)
        rw [Int.add_mul, Int.one_mul] at h2
        omega
    have : a = b := UInt8.toNat_inj.1 hab
    subst this
    rw [ih (by omega)]
end Go.Proofs.Ytjpgiohdaadieaa
/- Contracts of slab.Writer: Sealed, Raw of one part, Len; of slab.Reader. -/
namespace Go.Proofs.Ytjpgiohdaadieaa
open Go.ChangeShapes Go.WideShapes Go.ChangeAt Go.RowKit
open Go.ChangeMaps (open_string shut_string)
set_option linter.unusedVariables false
set_option linter.unusedSimpArgs false
set_option maxRecDepth 100000

/-- What Sealed tells. -/
def sealedE (l : List UInt8) (br : Bool) (n : Int) : Int := if br || decide (n < 0) || decide (1048576 < n) then 1 else if n < l.length then 4 else 0

theorem sealed_err (p : Nat) (v : Value) (l : List UInt8) (br : Bool) (n : Int) (w : World) (h : Wr w p v l br) (hl : l.length ≤ 1099511627776) (he : sealedE l br n ≠ 0) :
    Calls Try.prog 31 #[.pointer (some ⟨p, 0, none⟩), .int .i64 n] w fun e w' => e = .returned (.tuple #[.slice none 0 0, .int .i64 (sealedE l br n)]) ∧ w = w' := by
  obtain ⟨A, c, rfl, hc1, hc2⟩ := h.own.form
  have c0 := h.c0
  have c1 := h.c1
  rcases br with _ | _
  · by_cases h1 : n < 0
    · have e : sealedE l false n = 1 := by simp [sealedE, h1]
      rw [e]
      go_enter Try.func31, Try.ntmps31
      go_wp2
      go_ret2
      exact ⟨rfl, rfl⟩
    · by_cases h2 : 1048576 < n
      · have e : sealedE l false n = 1 := by simp [sealedE, h2]
        rw [e]
        go_enter Try.func31, Try.ntmps31
        go_wp2
        go_ret2
        exact ⟨rfl, rfl⟩
      · have h3 : n < l.length := by simp only [sealedE] at he; simp [h1, h2] at he; omega
        have e : sealedE l false n = 4 := by simp [sealedE, h1, h2, h3]
        rw [e]
        go_enter Try.func31, Try.ntmps31
        go_wp2
        go_ret2
        exact ⟨rfl, rfl⟩
  · have e : sealedE l true n = 1 := by simp [sealedE]
    rw [e]
    go_enter Try.func31, Try.ntmps31
    go_wp2
    go_ret2
    exact ⟨rfl, rfl⟩

theorem sealed_ok (p : Nat) (v : Value) (l : List UInt8) (n : Nat) (w : World) (h : Wr w p v l false) (hn : n ≤ 1048576) (hl : l.length ≤ n) :
    Calls Try.prog 31 #[.pointer (some ⟨p, 0, none⟩), .int .i64 n] w fun e w' => e = .returned (.tuple #[.slice (some ⟨w.heap.size, 0, none⟩) n n, .int .i64 0]) ∧
      Blk w' w.heap.size (bcells (fill l n)) 5 ∧ Below w.heap.size w w' := by
  obtain ⟨A, c, rfl, hc1, hc2⟩ := h.own.form
  have c0 := h.c0
  have c1 := h.c1
  have hmk := fun w => run_mk w n (by omega)
  have hlt := h.lt
  go_enter Try.func31, Try.ntmps31
  go_wp2_with (refine wpList_cp rfl (.tmp 30) (.tmp 34) rfl w.heap.size 0 n n (List.replicate n 0) l A l.length c rfl rfl (Blk.new _ _ _) (h.own.reads.alloc _) (by simp) ?_; intro w2 hb2 hk2)
  rw [splice_fill] at hb2
  have b2 : Below w.heap.size w w2 := ((Below.refl w.heap.size w).alloc (Nat.le_refl _) _).keeps hk2 (by omega) (Nat.le_refl _)
  go_wp2
  go_ret2
  exact ⟨rfl, hb2, b2⟩

end Go.Proofs.Ytjpgiohdaadieaa
/- Contracts of package nonce: the source. -/
namespace Go.Proofs.Ytjpgiohdaadieaa
open Go.ChangeShapes Go.WideShapes Go.ChangeAt Go.RowKit
open Go.ChangeMaps (open_string shut_string)
set_option linter.unusedVariables false
set_option linter.unusedSimpArgs false
set_option maxRecDepth 100000

def amongB (n : Int) : Bool := decide (0 ≤ n) && decide (n ≤ 1099511627776)

def src (gen count most : Int) : Array Value := #[.int .i64 gen, .int .i64 count, .int .i64 most]

def mayAt (gen count most : Int) : Bool := decide (1 ≤ gen) && amongB gen && amongB count && amongB most && decide (count ≤ most)

end Go.Proofs.Ytjpgiohdaadieaa
/- Contracts of nonces: Bytes, Parse, Less, and the document's. -/
namespace Go.Proofs.Ytjpgiohdaadieaa
open Go.ChangeShapes Go.WideShapes Go.ChangeAt Go.RowKit
open Go.ChangeMaps (open_string shut_string)
set_option linter.unusedVariables false
set_option linter.unusedSimpArgs false
set_option maxRecDepth 100000

/-- Several numbers, one behind the other; those that may not be are passed over. -/
def numsP (width : Int) : List UInt8 → List Int → List UInt8
  | l, [] => l
  | l, n :: ns => numsP width (numL l false width n) ns

set_option maxHeartbeats 1000000 in
theorem nums_any (B : Nat) (v : Value) (l : List UInt8) (width : Int) (ns : List Int) (A : Option Addr) (m c : Nat) (w : World) (h : OB w B v l) (hB : B ≤ w.heap.size) (hr : RI w A m c ns)
    (hsep : 0 < m → ∀ a, A = some a → v.ownBlock ≠ some a.block ∧ a.block < w.heap.size) (hl : l.length + 7 * m ≤ 1099511627776) :
    Calls Try.prog 34 #[v, .int .i64 width, .slice A m c] w fun e w' => ∃ v', e = .returned v' ∧ OB w' B v' (numsP width l ns) ∧ Gr w w' v v' := by
  obtain ⟨A0, c0, rfl, hc0, hm0⟩ := h.form
  have hm := hr.max
  have hmc := hr.cap
  unfold maxLen at hm
  have hlen := Lib.hid hr.len
  go_enter Try.func34, Try.ntmps34
  go_wp2
  go_loopw [0, 7] (fun b i wr => ∃ (j : Nat) (l' : List UInt8), j ≤ m ∧ i = .int .i64 j ∧ OB wr B b l' ∧ Gr w wr (.slice A0 l.length c0) b ∧ l'.length ≤ l.length + 7 * j ∧ Hid (numsP width l' (ns.drop j) = numsP width l ns)) (fun _ i _ => m - (intOf i).toNat)
  case atStart => exact ⟨0, l, by omega, rfl, h, Gr.refl _ _, by omega, rfl⟩
  case round =>
    obtain ⟨j, l', hj, rfl, hob, hgr, hll, hns⟩ := hrel
    obtain ⟨A1, c1, rfl, hc1, hm1⟩ := hob.form
    by_cases hlt : j < m
    · obtain ⟨g, o, rfl, hc⟩ := hr.at_ (by omega)
      have hs := hsep (by omega) _ rfl
      have hjn : j < ns.length := by rw [hlen.out]; exact hlt
      have hcell : wr.cell? ⟨g, o + j, none⟩ = some (.int .i64 ns[j]) := (World.cell?_of_block (w := w) (hgr.keeps.block g hs.2 hs.1)).trans (hc j _ (List.getElem?_eq_getElem hjn))
      have hdrop := Lib.hid (List.drop_eq_getElem_cons hjn)
      obtain ⟨x, hx⟩ : ∃ x, x = ns[j] := ⟨_, rfl⟩
      rw [← hx] at hcell
      have Hx := Lib.hid hx
      clear hx hc
      go_wp2_with fail
      refine (put_any B _ l' width x _ hob (Nat.le_trans hB hgr.keeps.size) (by omega)).mono ?_
      rintro e w2 ⟨v2, rfl, ho2, hg2⟩
      have hl2 := numL_length l' false width x
      have hgr2 := hgr.trans hg2
      go_wp2
      go_roundw
      case rel => exact ⟨j + 1, _, by omega, by go_num, ho2, hgr2, by omega, by have := hns.out; rw [hdrop.out, ← Hx.out] at this; exact this⟩
      case measure => simp [intOf]; omega
    · obtain rfl : j = m := by omega
      have hd : ns.drop j = [] := List.drop_eq_nil_of_le (by rw [hlen.out]; exact Nat.le_refl _)
      have hns' := hns.out
      rw [hd] at hns'
      have HN := Lib.hid hns'
      clear hd hns hns'
      go_wp2
      go_ret
      refine ⟨_, rfl, ?_, hgr⟩
      rw [← HN.out]
      exact hob

/-- A nonce's twelve bytes. -/
def nonceB (gen count : Int) : List UInt8 := if amongB gen && amongB count then be 6 gen ++ be 6 count else List.replicate 12 0

theorem good6 (n : Int) (h : amongB n = true) : badNum 6 n = false := by
  simp [amongB] at h
  have e : topW (Int.toNat 6) = 281474976710655 := by simp [topW]
  simp only [badNum, e, mayW]
  simp
  omega

theorem numsL_nonce (gen count : Int) (h1 : amongB gen = true) (h2 : amongB count = true) : numsL [] false 6 [gen, count] = (be 6 gen ++ be 6 count, false) := by
  simp [numsL, numL, good6 _ h1, good6 _ h2]
theorem numsP_nonce (gen count : Int) (h1 : amongB gen = true) (h2 : amongB count = true) : numsP 6 [] [gen, count] = be 6 gen ++ be 6 count := by
  simp [numsP, numL, good6 _ h1, good6 _ h2]
theorem nonceB_length (gen count : Int) : (nonceB gen count).length = 12 := by
  unfold nonceB; split <;> simp [be_length]

end Go.Proofs.Ytjpgiohdaadieaa
/- Contracts of nonces: Parse, Less, and the document's May, Bytes, ParseNonce. -/
namespace Go.Proofs.Ytjpgiohdaadieaa
open Go.ChangeShapes Go.WideShapes Go.ChangeAt Go.RowKit
open Go.ChangeMaps (open_string shut_string)
set_option linter.unusedVariables false
set_option linter.unusedSimpArgs false
set_option maxRecDepth 100000

theorem ref_Num (A : Option Addr) (k c : Nat) (D : List UInt8) (w : World) (h : RB w A k c D) (h1 : 1 ≤ k) (h7 : k ≤ 7) :
    Calls Try.prog 71 #[.slice A k c] w fun r w' => r = .returned (.int .i64 (rnumV D)) ∧ w = w' := by
  have HDl := Lib.hid h.len
  obtain ⟨g, o, rfl, hc⟩ := h.at_ (by omega)
  go_enter Try.func71, Try.ntmps71
  go_wp2
  go_loop [3, 4] (fun n i => ∃ j : Nat, j ≤ k ∧ i = .int .i64 j ∧ n = .int .i64 (numB (D.take j))) (fun _ i => k - (intOf i).toNat)
  case atStart => exact ⟨0, by omega, rfl, rfl⟩
  case round =>
    obtain ⟨j, hj, rfl, rfl⟩ := hrel
    by_cases hlt : j < k
    · have hjD : j < D.length := by rw [HDl.out]; exact hlt
      have hcell := hc j D[j] (List.getElem?_eq_getElem hjD)
      obtain ⟨b, hb⟩ : ∃ b, D[j] = b := ⟨_, rfl⟩
      rw [hb] at hcell
      have htk : D.take (j + 1) = D.take j ++ [b] := by rw [List.take_succ_eq_append_getElem hjD, hb]
      have Hn := Lib.hid (numB_snoc (D.take j) b)
      rw [← htk] at Hn
      have n0 := numB_nonneg (D.take j)
      clear htk hb hc
      unfold bv at hcell
      have bl := b.toNat_lt
      have n1 := numB_lt (D.take j)
      have hlen : (D.take j).length = j := by rw [List.length_take]; omega
      have p2 : (256 : Int) ^ (D.take j).length ≤ 281474976710656 := by
        have : j = 0 ∨ j = 1 ∨ j = 2 ∨ j = 3 ∨ j = 4 ∨ j = 5 ∨ j = 6 := by omega
        rw [hlen]
        rcases this with rfl | rfl | rfl | rfl | rfl | rfl | rfl <;> decide
      have Ho := Lib.hid (or_byte (numB (D.take j)) b n0 (by omega))
      clear n1 p2 hlen
      go_wp2
      exact ⟨⟨j + 1, by omega, by go_num, by rw [Ho.out, Hn.out]⟩, by simp [intOf]; omega⟩
    · obtain rfl : j = k := by omega
      have hd : D.take j = D := List.take_of_length_le (by rw [HDl.out]; exact Nat.le_refl _)
      rw [hd]
      have n0 := numB_nonneg D
      by_cases ht : numB D = topW j
      · have ht2 : (numB D == topW j) = true := by rw [beq_iff_eq]; exact ht
        have e1 : rnumV D = -1 := by unfold rnumV; rw [HDl.out, if_pos ht]
        have E1 := Lib.hid e1
        clear ht hc hd e1
        go_wp2_with (go_at_call 81; refine (ref_most _ _ h1 h7).mono ?_; rintro e w' ⟨rfl, rfl⟩)
        go_ret
        exact ⟨ret_int E1.out.symm, rfl⟩
      · have ht2 : (numB D == topW j) = false := by rw [beq_eq_false_iff_ne]; exact ht
        have e1 : rnumV D = numB D := by unfold rnumV; rw [HDl.out, if_neg ht]
        have E1 := Lib.hid e1
        clear ht hc hd e1
        go_wp2_with (go_at_call 81; refine (ref_most _ _ h1 h7).mono ?_; rintro e w' ⟨rfl, rfl⟩)
        go_ret
        exact ⟨ret_int E1.out.symm, rfl⟩

/-- The document's reading of twelve bytes. -/
def parseOk (l : List UInt8) : Bool := l.length == 12 && (amongB (rnumV (l.take 6)) && amongB (rnumV (l.drop 6)))

/-- The nonce that is read. -/
def parseV (l : List UInt8) : Value := if parseOk l then .agg #[.int .i64 (rnumV (l.take 6)), .int .i64 (rnumV (l.drop 6))] else .agg #[.int .i64 0, .int .i64 0]
theorem parseV_yes {l : List UInt8} (h : parseOk l = true) : parseV l = .agg #[.int .i64 (rnumV (l.take 6)), .int .i64 (rnumV (l.drop 6))] := by simp [parseV, h]
theorem parseV_no {l : List UInt8} (h : parseOk l = false) : parseV l = .agg #[.int .i64 0, .int .i64 0] := by simp [parseV, h]

end Go.Proofs.Ytjpgiohdaadieaa
/- Contracts of nonce.Parse and nonce.Less. -/
namespace Go.Proofs.Ytjpgiohdaadieaa
open Go.ChangeShapes Go.WideShapes Go.ChangeAt Go.RowKit
open Go.ChangeMaps (open_string shut_string)
set_option linter.unusedVariables false
set_option linter.unusedSimpArgs false
set_option maxRecDepth 100000

def parseE (l : List UInt8) : Int := if parseOk l then 0 else 2
theorem parseE_yes {l : List UInt8} (h : parseOk l = true) : parseE l = 0 := by simp [parseE, h]
theorem parseE_no {l : List UInt8} (h : parseOk l = false) : parseE l = 2 := by simp [parseE, h]

theorem rnumR_six (l : List UInt8) (h : 6 ≤ l.length) : rnumR l 0 6 = (rnumV (l.take 6), l.drop 6, 0) := by
  have e : rnumE l 0 6 = 0 := by
    unfold rnumE
    rw [if_pos (by decide)]
    unfold rawE
    rw [if_neg (by omega), if_neg (by omega)]
  unfold rnumR
  rw [if_pos e]
  rfl

def cmpI (x y : Int) : Int := if x < y then -1 else if y < x then 1 else 0

def orI (x y : Int) : Int := if x = 0 then y else x

/-- Does one stand ahead of the other? -/
def lessB (g c g' c' : Int) : Bool := decide (orI (cmpI g g') (cmpI c c') < 0)

end Go.Proofs.Ytjpgiohdaadieaa
/- What a nonce's bytes tell: its numbers, its order. -/
namespace Go.Proofs.Ytjpgiohdaadieaa
open Go.ChangeShapes Go.WideShapes Go.ChangeAt Go.RowKit
open Go.ChangeMaps (open_string shut_string)
set_option linter.unusedVariables false
set_option linter.unusedSimpArgs false
set_option maxRecDepth 100000

theorem among_nat {n : Int} (h : amongB n = true) : ∃ m : Nat, n = m ∧ m ≤ 1099511627776 := by
  simp [amongB] at h
  exact ⟨n.toNat, by omega, by omega⟩

theorem numB_six {n : Int} (h : amongB n = true) : numB (be 6 n) = n := by
  obtain ⟨m, rfl, hm⟩ := among_nat h
  rw [numB_be, Nat.mod_eq_of_lt (Nat.lt_of_le_of_lt hm (by decide))]

theorem rnumV_six {n : Int} (h : amongB n = true) : rnumV (be 6 n) = n := by
  unfold rnumV
  rw [be_length, numB_six h]
  have e : topW 6 = 281474976710655 := by simp [topW]
  simp [amongB] at h
  rw [e, if_neg (by omega)]

theorem nonceB_yes {g c : Int} (h1 : amongB g = true) (h2 : amongB c = true) : nonceB g c = be 6 g ++ be 6 c := by simp [nonceB, h1, h2]

theorem parse_back {g c : Int} (h1 : amongB g = true) (h2 : amongB c = true) : parseOk (nonceB g c) = true ∧ parseV (nonceB g c) = .agg #[.int .i64 g, .int .i64 c] ∧ parseE (nonceB g c) = 0 := by
  have t : (be 6 g ++ be 6 c).take 6 = be 6 g := by rw [List.take_append_of_le_length (by rw [be_length]; omega), List.take_of_length_le (by rw [be_length]; omega)]
  have d : (be 6 g ++ be 6 c).drop 6 = be 6 c := by
    rw [List.drop_append, be_length, List.drop_eq_nil_of_le (by rw [be_length]; omega)]; rfl
  have ok : parseOk (nonceB g c) = true := by
    rw [nonceB_yes h1 h2]
    unfold parseOk
    rw [t, d, rnumV_six h1, rnumV_six h2, h1, h2]
    simp [be_length]
  refine ⟨ok, ?_, parseE_yes ok⟩
  rw [parseV_yes ok, nonceB_yes h1 h2, t, d, rnumV_six h1, rnumV_six h2]

theorem numB_nonce {g c : Int} (h1 : amongB g = true) (h2 : amongB c = true) : numB (nonceB g c) = g * 281474976710656 + c := by
  rw [nonceB_yes h1 h2, numB_append, numB_six h1, numB_six h2, be_length]
  rfl

theorem lessB_spec (g c g' c' : Int) : lessB g c g' c' = decide (g < g' ∨ g = g' ∧ c < c') := by
  unfold lessB orI cmpI
  by_cases h1 : g < g'
  · simp [h1]
  · by_cases h2 : g' < g
    · have : g ≠ g' := by omega
      simp [h1, h2, this]
    · obtain rfl : g = g' := by omega
      by_cases h3 : c < c'
      · simp [h3]
      · by_cases h4 : c' < c <;> simp [h3, h4]

theorem less_bytes {g c g' c' : Int} (h1 : amongB g = true) (h2 : amongB c = true) (h3 : amongB g' = true) (h4 : amongB c' = true) : Op.bytesLess (nonceB g c) (nonceB g' c') = lessB g c g' c' := by
  rw [bytesLess_num _ _ (by rw [nonceB_length, nonceB_length]), numB_nonce h1 h2, numB_nonce h3 h4, lessB_spec]
  simp [amongB] at h1 h2 h3 h4
  rw [decide_eq_decide]
  omega

theorem eq_bytes {g c g' c' : Int} (h1 : amongB g = true) (h2 : amongB c = true) (h3 : amongB g' = true) (h4 : amongB c' = true) : (nonceB g c == nonceB g' c') = (g == g' && c == c') := by
  rw [Bool.eq_iff_iff]
  simp only [beq_iff_eq, Bool.and_eq_true]
  constructor
  · intro h
    have := congrArg numB h
    rw [numB_nonce h1 h2, numB_nonce h3 h4] at this
    simp [amongB] at h1 h2 h3 h4
    omega
  · rintro ⟨rfl, rfl⟩; rfl
end Go.Proofs.Ytjpgiohdaadieaa
/- The chapter's examples hold: what 'first' of chapter 5 tells. -/
namespace Go.Proofs.Ytjpgiohdaadieaa
open Go.ChangeShapes Go.WideShapes Go.ChangeAt Go.RowKit
open Go.ChangeMaps (open_string shut_string)
set_option linter.unusedVariables false
set_option linter.unusedSimpArgs false
set_option maxRecDepth 100000

end Go.Proofs.Ytjpgiohdaadieaa
/- A slice of bytes that came in reads as bytes. -/
namespace Go.Proofs.Ytjpgiohdaadieaa
open Go.ChangeShapes Go.WideShapes Go.ChangeAt Go.RowKit
open Go.ChangeMaps (open_string shut_string)
set_option linter.unusedVariables false
set_option linter.unusedSimpArgs false
set_option maxRecDepth 100000
section
variable {H : Type} {enc : TypeId × Value → H}
theorem cells_u8 : Try.prog.cellsOf 5 = 1 := by kernel_rfl
theorem wf_byte {n : Int} (h : (Lit.int .u8 n).wf = true) : 0 ≤ n ∧ n < 256 := by
  have := range_u8 (zs := [n]) (fun m hm => by simp at hm; subst hm; exact h) 0
  simp at this
  omega
theorem open_bytes1 {W : World} {fuel : Nat} {v : Value} {x : DataW H × List MemPlace} (hf : DataW.trod enc Try.prog W 0 (fun _ => true) true fuel 45 [v] = some x) :
    ∃ A n c l, v = .slice A n c ∧ RB W A n c l := by
  rcases open_ints Try.underlying45 Try.underlying5 cells_u8 hf with ⟨hcs, hx⟩ | ⟨a, len', cap', zs, hcs, _, hl, hm, hz, hx, hcell, hwz⟩
  · simp at hcs
    exact ⟨none, 0, 0, [], hcs, RB.none_ W⟩
  · simp at hcs
    simp only [if_true] at hz
    refine ⟨some a, len', cap', (zs.take len').map fun n => UInt8.ofNat n.toNat, hcs, by simp; omega, hl, hm, fun h => (by cases h), fun hn => ?_⟩
    obtain ⟨ab, ao, spot⟩ := a
    have hspot : spot = none := by simpa [Addr.add] using World.cell?_spot (hcell 0 (by omega))
    subst hspot
    refine ⟨ab, ao, rfl, fun i b hb => ?_⟩
    have hi : i < len' := by have := (List.getElem?_eq_some_iff.1 hb).1; simp at this; omega
    have hc := hcell i (by omega)
    rw [Addr.add_lit] at hc
    rw [hc]
    rw [List.getElem?_map, List.getElem?_take, if_pos hi, List.getElem?_eq_getElem (by omega)] at hb
    simp only [Option.map_some, Option.some.injEq] at hb
    rw [← hb]
    have hw := wf_byte (hwz (zs[i]'(by omega)) (List.getElem_mem _))
    simp only [List.getD, List.getElem?_eq_getElem (show i < zs.length by omega), Option.getD_some, bv]
    generalize zs[i]'(by omega) = z at *
    rw [UInt8.toNat_ofNat', Nat.mod_eq_of_lt (by omega)]
    congr 3
    omega
theorem open_bytes {W : World} {base : Nat} {v1 : Value} {d1 : DataW H} {p1 : List MemPlace} (hval : Value.okWide Try.prog W .any base 45 v1) (h1 : DataW.Trod enc Try.prog W 0 (fun _ => true) true 45 v1 d1 p1) :
    ∃ A n c l, v1 = .slice A n c ∧ RB W A n c l := by
  obtain ⟨a1, len, cap, rfl⟩ := okWide_slice Try.underlying45 hval
  obtain ⟨fuel, hf⟩ := h1
  exact open_bytes1 hf
end
end Go.Proofs.Ytjpgiohdaadieaa
/- oublaw5.plain, and the words of the laws of chapter 5. -/
namespace Go.Proofs.Ytjpgiohdaadieaa
open Go.ChangeShapes Go.WideShapes Go.ChangeAt Go.RowKit
open Go.ChangeMaps (open_string shut_string)
set_option linter.unusedVariables false
set_option linter.unusedSimpArgs false
set_option maxRecDepth 100000

theorem Below.next' {N : Nat} {a w w' : World} (hb : Below w.heap.size w w') (h : Below N a w) (hN : N ≤ a.heap.size) : Below N a w' := h.trans (hb.mono (Nat.le_trans hN h.size))

theorem parseV_two (l : List UInt8) : ∃ x0 x1 : Int, parseV l = .agg #[.int .i64 x0, .int .i64 x1] := by
  rcases h : parseOk l with _ | _
  · exact ⟨0, 0, parseV_no h⟩
  · exact ⟨_, _, parseV_yes h⟩
end Go.Proofs.Ytjpgiohdaadieaa
/- Contracts of values: Encode. -/
namespace Go.Proofs.Ytjpgiohdaadieaa
open Go.ChangeShapes Go.WideShapes Go.ChangeAt Go.RowKit
open Go.ChangeMaps (open_string shut_string)
set_option linter.unusedVariables false
set_option linter.unusedSimpArgs false
set_option maxRecDepth 100000

/-- Words of 64 bits. -/
def u64 (n : Int) : Int := IntKind.u64.wrap n
theorem u64_range (n : Int) : 0 ≤ u64 n ∧ u64 n < 18446744073709551616 := by unfold u64; rw [IntKind.wrap_u64]; omega

/-- The text of a value that may be. -/
def encB (k n : Int) (l : List UInt8) : List UInt8 := if k = 1 then 1 :: be 8 (u64 n) else UInt8.ofNat (2 + l.length) :: fill l 8
def encE (k n : Int) (l : List UInt8) : Int := if mayV k n l then 0 else 12
theorem encB_length (k n : Int) (l : List UInt8) : (encB k n l).length = 9 := by
  unfold encB; split <;> simp [be_length, fill_length]

theorem may_is_v (k n : Int) (l : List UInt8) (b : Bool) (w : World) (h : mayV k n l = b) : Calls Try.prog 57 #[.agg #[.int .i64 (k), .int .i64 (n), .string (str (l))]] w fun e w' => e = .returned (.bool b) ∧ Below w.heap.size w w' := by
  have := val_may k n l w
  rw [h] at this
  exact this

set_option maxRecDepth 100000 in
theorem enc_no (k n : Int) (l : List UInt8) (w : World) (hm : mayV k n l = false) :
    Calls Try.prog 60 #[.agg #[.int .i64 (k), .int .i64 (n), .string (str (l))]] w fun e w' => e = .returned (.tuple #[.slice none 0 0, .int .i64 12]) ∧ Below w.heap.size w w' := by
  go_enter Try.func60, Try.ntmps60
  go_wp2_with (go_at_call 57; refine (may_is_v _ _ _ _ _ hm).mono ?_; rintro e w1 ⟨rfl, hb⟩)
  go_ret2
  exact ⟨rfl, ((Below.refl w.heap.size w).alloc (Nat.le_refl _) _).trans (hb.mono (by simp))⟩

set_option maxHeartbeats 1000000 in
set_option maxRecDepth 100000 in
theorem enc_int (n : Int) (l : List UInt8) (w : World) (hm : mayV 1 n l = true) :
    Calls Try.prog 60 #[.agg #[.int .i64 (1), .int .i64 (n), .string (str (l))]] w fun e w' => ∃ v, e = .returned (.tuple #[v, .int .i64 0]) ∧ OB w' w.heap.size v (encB 1 n l) ∧ Below w.heap.size w w' := by
  have hbx := Blk.new w #[.int .i64 (1), .int .i64 (n), .string (str (l))] 41
  have hbl : Below w.heap.size w (w.alloc (.cells #[.int .i64 (1), .int .i64 (n), .string (str (l))] 41)) := (by repeat (first | exact Below.refl _ _ | assumption | apply below_drewN' | apply Below.drew | refine Below.alloc ?_ (by first | omega | (simp; done) | (simp; omega)) _ | refine Below.setCell ?_ (by first | omega | (simp; done) | (simp; omega)) _))
  have hu := u64_range n
  go_enter Try.func60, Try.ntmps60
  go_wp2_with fail
  refine (may_is_v _ _ _ _ _ hm).mono ?_
  rintro e w1 ⟨rfl, hb⟩
  have hb1 := hbx.below hb (by simp)
  have c0 := hb1.cell 0 (v := .int .i64 1) rfl
  have c1 := hb1.cell 1 (v := .int .i64 n) rfl
  have hbl1 := hbl.trans (hb.mono (by simp))
  have hlt1 := hb1.lt
  have hq : IntKind.u64.wrap n = u64 n := rfl
  go_wp2_with fail
  refine (val_eight (u64 n) _ hu.1 hu.2).mono ?_
  rintro e w2 ⟨rfl, hb2, hbe2⟩
  simp only [World.size_alloc] at hb2 hbe2
  have hob : OB w2 w.heap.size (.slice (some ⟨w1.heap.size, 0, none⟩) 1 1) [1] :=
    OB.of_row (l := [1]) ((Blk.new w1 (bcells [1]) 5).below hbe2 (by simp)) (by unfold maxLen; simp) (by omega)
  have hrb := RB.of_row hb2 (by rw [be_length]; unfold maxLen; omega)
  have hbl2 := (hbl1.alloc (by omega) (.cells #[.int .u8 1] 5)).trans (hbe2.mono (by omega))
  have hsz := hbl2.size
  rw [be_length] at hrb
  go_wp2_with (refine wpList_app rfl (.tmp 12) (.tmp 16) rfl w.heap.size (.slice (some ⟨w1.heap.size, 0, none⟩) 1 1) [1] (be 8 (u64 n)) _ 8 8 rfl rfl hob hrb (by simp) (by omega) ?_; intro v3 w3 ha; obtain ⟨A3, c3, rfl, _, _⟩ := ha.own.form)
  go_ret2
  exact ⟨_, rfl, ha.own, hbl2.keeps ha.keeps (fun i hi e => by simp [Value.ownBlock] at e; omega) (Nat.le_refl _)⟩

set_option maxHeartbeats 1000000 in
set_option maxRecDepth 100000 in
theorem enc_text (n : Int) (l : List UInt8) (w : World) (hm : mayV 2 n l = true) :
    Calls Try.prog 60 #[.agg #[.int .i64 (2), .int .i64 (n), .string (str (l))]] w fun e w' => ∃ v, e = .returned (.tuple #[v, .int .i64 0]) ∧ OB w' w.heap.size v (encB 2 n l) ∧ Below w.heap.size w w' := by
  have hl : l.length ≤ 8 := by simp [mayV] at hm; exact hm.2
  have hz := str_size l
  have hbx := Blk.new w #[.int .i64 (2), .int .i64 (n), .string (str (l))] 41
  have hbl : Below w.heap.size w (w.alloc (.cells #[.int .i64 (2), .int .i64 (n), .string (str (l))] 41)) := (by repeat (first | exact Below.refl _ _ | assumption | apply below_drewN' | apply Below.drew | refine Below.alloc ?_ (by first | omega | (simp; done) | (simp; omega)) _ | refine Below.setCell ?_ (by first | omega | (simp; done) | (simp; omega)) _))
  go_enter Try.func60, Try.ntmps60
  go_wp2_with fail
  refine (may_is_v _ _ _ _ _ hm).mono ?_
  rintro e w1 ⟨rfl, hb⟩
  have hb1 := hbx.below hb (by simp)
  have c0 := hb1.cell 0 (v := .int .i64 2) rfl
  have c2 := hb1.cell 2 (v := .string (str l)) rfl
  have hbl1 := hbl.trans (hb.mono (by simp))
  have hlt1 := hb1.lt
  have B9 := (Below.refl w1.heap.size w1).drew
  obtain ⟨x, hx⟩ : ∃ x, x = UInt8.ofNat (2 + l.length) := ⟨_, rfl⟩
  have hx8 : IntKind.u8.wrap (IntKind.i64.wrap (2 + (l.length : Int))) = (x.toNat : Int) := by
    rw [hx, UInt8.toNat_ofNat', IntKind.wrap_u8, IntKind.wrap_i64]; omega
  have HE : Hid (encB 2 n l = [x] ++ fill l 8) := by rw [hx]; rfl
  have hfl := fill_length l 8
  clear hx hb hbx hbl hb1 hm
  go_wp2_with fail
  go_region_held3 (fun w' => Below w1.heap.size w1 w' ∧ w'.cell? ⟨w.heap.size, 2, none⟩ = some (.string (str l)))
    (first | exact ⟨by assumption, by assumption⟩ | (refine ⟨(by repeat (first | exact Below.refl _ _ | assumption | apply below_drewN' | apply Below.drew | refine Below.alloc ?_ (by first | omega | (simp; done) | (simp; omega)) _ | refine Below.setCell ?_ (by first | omega | (simp; done) | (simp; omega)) _)), ?_⟩; go_keep))
    (first
      | (go_at_call 79; refine (val_filled l _ hl).mono ?_; rintro e w2 ⟨v, rfl, ⟨A, c, rfl, hrb, hA⟩, hb⟩;
         have B2 := Below.next' hb (by assumption : Below w1.heap.size w1 _ ∧ _).1 (Nat.le_refl _); have d2 := (B2.cell (p := ⟨w.heap.size, 2, none⟩) hlt1).trans c2; rw [hfl] at hrb; have z2 := B2.size;
         try (have hob : OB w2 w.heap.size (.slice (some ⟨w1.heap.size, 0, none⟩) 1 1) [x] := OB.of_row (l := [x]) ((Blk.new w1 (bcells [x]) 5).drew.below hb (by simp)) (by unfold maxLen; simp) (by omega)))
      | (refine step_app rfl (.tmp 23) (.tmp 26) rfl w.heap.size (.slice (some ⟨w1.heap.size, 0, none⟩) 1 1) [x] (fill l 8) A 8 c rfl rfl hob hrb (by simp) (by have := B2.size; omega) ?_; intro v3 w3 ha; obtain ⟨A3, c3, rfl, _, _⟩ := ha.own.form; have B3 := B2.keeps ha.keeps (fun i hi e => by simp [Value.ownBlock] at e; omega) (Nat.le_refl _); have d3 := (B3.cell (p := ⟨w.heap.size, 2, none⟩) hlt1).trans c2)
      | (refine step_app rfl (.tmp 23) (.tmp 26) rfl w.heap.size (.slice (some ⟨w2.heap.size, 0, none⟩) 1 1) [x] (fill l 8) A 8 c rfl rfl (OB.of_row (l := [x]) (Blk.new w2 (bcells [x]) 5) (by unfold maxLen; simp) (by have := B2.size; omega)) (hrb.alloc _) (by simp) (by have := B2.size; simp; omega) ?_; intro v3 w3 ha; obtain ⟨A3, c3, rfl, _, _⟩ := ha.own.form; have B3 := (B2.alloc B2.size _).keeps ha.keeps (fun i hi e => by simp [Value.ownBlock] at e; have := B2.size; omega) (Nat.le_refl _); have d3 := (B3.cell (p := ⟨w.heap.size, 2, none⟩) hlt1).trans c2)
      )
  all_goals (go_wp2; go_ret2; refine ⟨_, rfl, ?_, hbl1.trans (B3.mono (by omega))⟩; have hown := ha.own; rw [show ([x] ++ fill l 8).length = 9 by simp [hfl]] at hown; rw [HE.out]; exact hown)
end Go.Proofs.Ytjpgiohdaadieaa
/- Contracts of values: the document's Encode. -/
namespace Go.Proofs.Ytjpgiohdaadieaa
open Go.ChangeShapes Go.WideShapes Go.ChangeAt Go.RowKit
open Go.ChangeMaps (open_string shut_string)
set_option linter.unusedVariables false
set_option linter.unusedSimpArgs false
set_option maxRecDepth 100000

theorem refmay_is (k n : Int) (l : List UInt8) (b : Bool) (w : World) (h : mayV k n l = b) : Calls Try.prog 48 #[.agg #[.int .i64 (k), .int .i64 (n), .string (str (l))]] w fun e w' => e = .returned (.bool b) ∧ Below w.heap.size w w' := by
  have := ref_may15 k n l w
  rw [h] at this
  exact this

set_option maxRecDepth 100000 in
theorem renc_no (k n : Int) (l : List UInt8) (w : World) (hm : mayV k n l = false) :
    Calls Try.prog 35 #[.agg #[.int .i64 (k), .int .i64 (n), .string (str (l))]] w fun e w' => e = .returned (.tuple #[.slice none 0 0, .int .i64 12]) ∧ Below w.heap.size w w' := by
  go_enter Try.func35, Try.ntmps35
  go_wp2_with (go_at_call 48; refine (refmay_is _ _ _ _ _ hm).mono ?_; rintro e w1 ⟨rfl, hb⟩)
  go_ret2
  exact ⟨rfl, ((Below.refl w.heap.size w).alloc (Nat.le_refl _) _).trans (hb.mono (by simp))⟩

set_option maxHeartbeats 1000000 in
set_option maxRecDepth 100000 in
theorem renc_text (n : Int) (l : List UInt8) (w : World) (hm : mayV 2 n l = true) :
    Calls Try.prog 35 #[.agg #[.int .i64 (2), .int .i64 (n), .string (str (l))]] w fun e w' => ∃ v, e = .returned (.tuple #[v, .int .i64 0]) ∧ OB w' w.heap.size v (encB 2 n l) ∧ Below w.heap.size w w' := by
  have hl : l.length ≤ 8 := by simp [mayV] at hm; exact hm.2
  have hz := str_size l
  have hcv := fun w => conv_str w l
  have hbx := Blk.new w #[.int .i64 (2), .int .i64 (n), .string (str (l))] 41
  have hbl : Below w.heap.size w (w.alloc (.cells #[.int .i64 (2), .int .i64 (n), .string (str (l))] 41)) := (by repeat (first | exact Below.refl _ _ | assumption | apply below_drewN' | apply Below.drew | refine Below.alloc ?_ (by first | omega | (simp; done) | (simp; omega)) _ | refine Below.setCell ?_ (by first | omega | (simp; done) | (simp; omega)) _))
  go_enter Try.func35, Try.ntmps35
  go_wp2_with fail
  refine (refmay_is _ _ _ _ _ hm).mono ?_
  rintro e w1 ⟨rfl, hb⟩
  have hb1 := hbx.below hb (by simp)
  have c0 := hb1.cell 0 (v := .int .i64 2) rfl
  have hbl1 := hbl.trans (hb.mono (by simp))
  have hlt1 := hb1.lt
  obtain ⟨x, hx⟩ : ∃ x, x = UInt8.ofNat (2 + l.length) := ⟨_, rfl⟩
  have hx8 : IntKind.u8.wrap (IntKind.i64.wrap (2 + (l.length : Int))) = (x.toNat : Int) := by
    rw [hx, UInt8.toNat_ofNat', IntKind.wrap_u8, IntKind.wrap_i64]; omega
  have HE : Hid (encB 2 n l = [x] ++ fill l 8) := by rw [hx]; rfl
  have hfl := fill_length l 8
  have keep := fun {w' w'' : World} (h : Below w1.heap.size w1 w') (hb : Below w'.heap.size w' w'') => h.next hb (Nat.le_refl _)
  clear hx hb hbx hbl hm
  go_wp2_with fail
  have hvo := Free.val
  refine Free.wp_facts (M := [0, 1, 3, 7, 15, 31, 0, 64, 192, 448, 1023, 2047, 4095]) (D := [[], [(0, 18)], [(1, 19)], [(2, 20)], [(3, 21)], [(4, 22)], [], [(6, 24)], [(7, 25)], [(8, 26)], [(5, 23), (9, 27)], [(10, 28)], []]) (outs := [11, 12]) (soles := [10]) (E := [(0, 18, false), (1, 19, false), (2, 20, false), (3, 21, false), (4, 22, false), (5, 23, false), (6, 24, false), (7, 25, false), (8, 26, false), (9, 27, false), (10, 28, false), (11, 2, true), (12, 3, true)]) (N := 29) (S := (fun w' => Below w1.heap.size w1 w')) [Free.Fact.is ?_, Free.Fact.is ?_, Free.Fact.is ?_, Free.Fact.is ?_, Free.Fact.is ?_, Free.Fact.own w1.heap.size [x], Free.Fact.is ?_, Free.Fact.is ?_, Free.Fact.sl l.length l, Free.Fact.sl 8 (fill l 8), Free.Fact.own w1.heap.size ([x] ++ fill l 8), Free.Fact.own w1.heap.size ([x] ++ fill l 8), Free.Fact.is ?_] (by kernel_rfl) (by kernel_rfl) rfl ((Below.refl _ _).drew) ?_ ?_
  rotate_left 8
  refine Free.cons ?_ ?_
  · intro w' hS; intro K hK; have c2 := (hb1.below hS hlt1).cell 2 (v := .string (str l)) rfl; first | (refine Free.run_yes (by rfl) ?_; go_simp; refine Free.o hK hS ?_; exact rfl) | (refine Free.run_no (by rfl) (Free.o hK hS ?_); exact rfl)
  refine Free.cons ?_ ?_
  · intro w' hS; (rintro _ rfl); intro K hK; have c2 := (hb1.below hS hlt1).cell 2 (v := .string (str l)) rfl; first | (refine Free.run_yes (by rfl) ?_; go_simp; refine Free.o hK hS ?_; exact rfl) | (refine Free.run_no (by rfl) (Free.o hK hS ?_); exact rfl)
  refine Free.cons ?_ ?_
  · intro w' hS; (rintro _ rfl); intro K hK; have c2 := (hb1.below hS hlt1).cell 2 (v := .string (str l)) rfl; first | (refine Free.run_yes (by rfl) ?_; go_simp; refine Free.o hK hS ?_; exact rfl) | (refine Free.run_no (by rfl) (Free.o hK hS ?_); exact rfl)
  refine Free.cons ?_ ?_
  · intro w' hS; (rintro _ rfl); intro K hK; have c2 := (hb1.below hS hlt1).cell 2 (v := .string (str l)) rfl; first | (refine Free.run_yes (by rfl) ?_; go_simp; refine Free.o hK hS ?_; exact rfl) | (refine Free.run_no (by rfl) (Free.o hK hS ?_); exact rfl)
  refine Free.cons ?_ ?_
  · intro w' hS; (rintro _ rfl); intro K hK; have c2 := (hb1.below hS hlt1).cell 2 (v := .string (str l)) rfl; first | (refine Free.run_yes (by rfl) ?_; go_simp; refine Free.o hK hS ?_; exact rfl) | (refine Free.run_no (by rfl) (Free.o hK hS ?_); exact rfl)
  refine Free.cons ?_ ?_
  · intro w' hS; (rintro _ rfl); intro K hK; have c2 := (hb1.below hS hlt1).cell 2 (v := .string (str l)) rfl; refine Free.run_yes (by rfl) ?_; (go_simp; (try simp only [Free.valOf, Act.put, List.setIfInBounds_toArray, List.set_cons_zero, List.set_cons_succ, Array.getD_eq_getD_getElem?, List.getElem?_toArray, List.getElem?_cons_succ, List.getElem?_cons_zero, Option.getD_some]); refine hK.out _ _ (OB.of_row (l := [x]) (Blk.new w' (bcells [x]) 5) (by unfold maxLen; simp) hS.size) (hS.alloc hS.size _) (.inr ((Below.refl _ _).alloc (Nat.le_refl _) _)))
  refine Free.cons ?_ ?_
  · intro w' hS; intro K hK; have c2 := (hb1.below hS hlt1).cell 2 (v := .string (str l)) rfl; first | (refine Free.run_yes (by rfl) ?_; go_simp; refine Free.o hK hS ?_; exact rfl) | (refine Free.run_no (by rfl) (Free.o hK hS ?_); exact rfl)
  refine Free.cons ?_ ?_
  · intro w' hS; (rintro _ rfl); intro K hK; have c2 := (hb1.below hS hlt1).cell 2 (v := .string (str l)) rfl; first | (refine Free.run_yes (by rfl) ?_; go_simp; refine Free.o hK hS ?_; exact rfl) | (refine Free.run_no (by rfl) (Free.o hK hS ?_); exact rfl)
  refine Free.cons ?_ ?_
  · intro w' hS; (rintro _ rfl); intro K hK; have c2 := (hb1.below hS hlt1).cell 2 (v := .string (str l)) rfl; refine Free.run_yes (by rfl) ?_; (go_simp; (try simp only [Free.valOf, Act.put, List.setIfInBounds_toArray, List.set_cons_zero, List.set_cons_succ, Array.getD_eq_getD_getElem?, List.getElem?_toArray, List.getElem?_cons_succ, List.getElem?_cons_zero, Option.getD_some]); refine hK.out _ _ ⟨_, _, rfl, bytesWorld_rb w' l (by omega)⟩ (keep hS (bytesWorld_below w' l)) (.inr (bytesWorld_below w' l)))
  refine Free.cons ?_ ?_
  · intro w' hS; (intro v8 h8); intro K hK; have c2 := (hb1.below hS hlt1).cell 2 (v := .string (str l)) rfl; refine Free.run_yes (by rfl) ?_; (obtain ⟨A, c, rfl, hrb⟩ := h8; go_simp; refine (ref_Fill A l.length c 8 l _ hrb (by omega)).mono ?_; rintro e w2 ⟨rfl, hbk, hb⟩; (try simp only [Free.valOf, Act.put, List.setIfInBounds_toArray, List.set_cons_zero, List.set_cons_succ, Array.getD_eq_getD_getElem?, List.getElem?_toArray, List.getElem?_cons_succ, List.getElem?_cons_zero, Option.getD_some]); refine hK.out _ _ (hbk.sl 8 hfl (by unfold maxLen; omega)) (keep hS hb) (.inr hb))
  refine Free.cons ?_ ?_
  · intro w' hS; (intro v5 h5); (intro v9 h9); intro K hK; have c2 := (hb1.below hS hlt1).cell 2 (v := .string (str l)) rfl; refine Free.run_yes (by rfl) ?_; (obtain ⟨A, c, rfl, hrb⟩ := h9; refine wp_app (.tmp 23) (.tmp 27) rfl w1.heap.size v5 [x] (fill l 8) A 8 c rfl rfl h5 hrb (by simp) hS.size ?_; intro v3 w3 ha; refine ⟨rfl, ?_⟩; (try simp only [Free.valOf, Act.put, List.setIfInBounds_toArray, List.set_cons_zero, List.set_cons_succ, Array.getD_eq_getD_getElem?, List.getElem?_toArray, List.getElem?_cons_succ, List.getElem?_cons_zero, Option.getD_some]); refine hK.out _ _ ha.own (hS.keeps ha.keeps (fun i hi e => by have := (OB.lt h5 i e).1; omega) (Nat.le_refl _)) (.inl rfl))
  refine Free.cons ?_ ?_
  · intro w' hS; (intro v10 h10); intro K hK; have c2 := (hb1.below hS hlt1).cell 2 (v := .string (str l)) rfl; first | (refine Free.run_yes (by rfl) ?_; go_simp; refine Free.o hK hS ?_; first | exact rfl | assumption) | (refine Free.run_no (by rfl) (Free.o hK hS ?_); exact rfl)
  refine Free.cons ?_ ?_
  · intro w' hS; intro K hK; have c2 := (hb1.below hS hlt1).cell 2 (v := .string (str l)) rfl; first | (refine Free.run_yes (by rfl) ?_; go_simp; refine Free.o hK hS ?_; exact rfl) | (refine Free.run_no (by rfl) (Free.o hK hS ?_); exact rfl)
  exact Free.nil
  clear hvo
  intro w' hS; intro v0; intro v1; intro v2; intro v3; intro v4; intro v5; intro v6; intro v7; intro v8; intro v9; intro v10; intro v11 h11; (rintro _ rfl); (try simp only [Act.put, List.setIfInBounds_toArray, List.set_cons_zero, List.set_cons_succ]); refine Free.toldE_nil ?_
  obtain ⟨A, c, rfl, _, _⟩ := OB.form h11
  go_wp2
  go_ret2
  refine ⟨_, rfl, ?_, hbl1.trans (hS.mono (by omega))⟩
  rw [HE.out]
  exact OB.mono h11 (fun k hk => by have := (OB.lt h11 k hk).1; omega)
end Go.Proofs.Ytjpgiohdaadieaa
/- Contracts of values: Encode whole, Key. -/
namespace Go.Proofs.Ytjpgiohdaadieaa
open Go.ChangeShapes Go.WideShapes Go.ChangeAt Go.RowKit
open Go.ChangeMaps (open_string shut_string)
set_option linter.unusedVariables false
set_option linter.unusedSimpArgs false
set_option maxRecDepth 100000

set_option maxHeartbeats 1000000 in
set_option maxRecDepth 100000 in
theorem renc_int (n : Int) (l : List UInt8) (w : World) (hm : mayV 1 n l = true) :
    Calls Try.prog 35 #[.agg #[.int .i64 (1), .int .i64 (n), .string (str (l))]] w fun e w' => ∃ v, e = .returned (.tuple #[v, .int .i64 0]) ∧ OB w' w.heap.size v (encB 1 n l) ∧ Below w.heap.size w w' := by
  have hbx := Blk.new w #[.int .i64 (1), .int .i64 (n), .string (str (l))] 41
  have hbl : Below w.heap.size w (w.alloc (.cells #[.int .i64 (1), .int .i64 (n), .string (str (l))] 41)) := (by repeat (first | exact Below.refl _ _ | assumption | apply below_drewN' | apply Below.drew | refine Below.alloc ?_ (by first | omega | (simp; done) | (simp; omega)) _ | refine Below.setCell ?_ (by first | omega | (simp; done) | (simp; omega)) _))
  have hu := u64_range n
  go_enter Try.func35, Try.ntmps35
  go_wp2_with fail
  refine (refmay_is _ _ _ _ _ hm).mono ?_
  rintro e w1 ⟨rfl, hb⟩
  have hb1 := hbx.below hb (by simp)
  have c0 := hb1.cell 0 (v := .int .i64 1) rfl
  have c1 := hb1.cell 1 (v := .int .i64 n) rfl
  have hbl1 := hbl.trans (hb.mono (by simp))
  have hlt1 := hb1.lt
  have hq : IntKind.u64.wrap n = u64 n := rfl
  go_wp2_with fail
  refine (ref_eight (u64 n) _ hu.1 hu.2).mono ?_
  rintro e w2 ⟨v2, rfl, hb2, hbe2⟩
  simp only [World.size_alloc] at hb2 hbe2
  obtain ⟨A2, c2, rfl, hrb⟩ := hb2.sl 8 (be_length 8 _)
  have hob : RB w2 (some ⟨w1.heap.size, 0, none⟩) 1 1 [1] := RB.of_row (l := [1]) ((Blk.new w1 (bcells [1]) 5).below hbe2 (by simp)) (by unfold maxLen; simp)
  have hbl2 := (hbl1.alloc (by omega) (.cells #[.int .u8 1] 5)).trans (hbe2.mono (by omega))
  have hsz := hbl2.size
  go_wp2_with (refine wpList_appg rfl (.tmp 12) (.tmp 16) rfl w1.heap.size 0 1 1 [1] (be 8 (u64 n)) A2 8 c2 rfl rfl hob hrb (by omega) (by omega) (by omega) ?_; intro v3 w3 ho3 hb3; obtain ⟨A3, c3, rfl, _, _⟩ := ho3.form)
  go_ret2
  exact ⟨_, rfl, ho3.mono (fun k hk => by have := (ho3.lt k hk).1; omega), hbl2.trans (hb3.mono hsz)⟩

/-- The text of a value; none, if it may not be. -/
def encT (k n : Int) (l : List UInt8) : List UInt8 := if mayV k n l then encB k n l else []
theorem may_kinds {k n : Int} {l : List UInt8} (h : mayV k n l = true) : k = 1 ∨ k = 2 := by
  simp only [mayV, Bool.or_eq_true, Bool.and_eq_true, beq_iff_eq] at h
  omega
theorem enc_any (k n : Int) (l : List UInt8) (w : World) :
    Calls Try.prog 60 #[.agg #[.int .i64 (k), .int .i64 (n), .string (str (l))]] w fun e w' => ∃ v, e = .returned (.tuple #[v, .int .i64 (encE k n l)]) ∧ OB w' w.heap.size v (encT k n l) ∧ Below w.heap.size w w' := by
  unfold encE encT
  cases hm : mayV k n l with
  | false => refine (enc_no k n l w hm).mono ?_; rintro e w' ⟨rfl, hb⟩; exact ⟨_, rfl, OB.nil _ _, hb⟩
  | true =>
    rcases may_kinds hm with rfl | rfl
    · exact enc_int n l w hm
    · exact enc_text n l w hm
theorem renc_any (k n : Int) (l : List UInt8) (w : World) :
    Calls Try.prog 35 #[.agg #[.int .i64 (k), .int .i64 (n), .string (str (l))]] w fun e w' => ∃ v, e = .returned (.tuple #[v, .int .i64 (encE k n l)]) ∧ OB w' w.heap.size v (encT k n l) ∧ Below w.heap.size w w' := by
  unfold encE encT
  cases hm : mayV k n l with
  | false => refine (renc_no k n l w hm).mono ?_; rintro e w' ⟨rfl, hb⟩; exact ⟨_, rfl, OB.nil _ _, hb⟩
  | true =>
    rcases may_kinds hm with rfl | rfl
    · exact renc_int n l w hm
    · exact renc_text n l w hm
end Go.Proofs.Ytjpgiohdaadieaa
/- Rows as bytes: row.Encode, and the document's. -/
namespace Go.Proofs.Ytjpgiohdaadieaa
open Go.ChangeShapes Go.WideShapes Go.ChangeAt Go.RowKit
open Go.ChangeMaps (open_string shut_string)
set_option linter.unusedVariables false
set_option linter.unusedSimpArgs false
set_option maxRecDepth 100000
open Go.Deep

def zr (n : Nat) : List UInt8 := List.replicate n 0
def mayVR (v : ValR) : Bool := mayV v.k v.n v.s
def encVR (v : ValR) : List UInt8 := encB v.k v.n v.s
/-- The texts of values, one behind the other. -/
def bytesV (V : List ValR) : List UInt8 := V.flatMap encVR
/-- Why a row has no text; its text. -/
def rowE (r : RowR) : Int := if r.t < 0 ∨ 4 ≤ r.t ∨ (r.V.length : Int) < 1 ∨ 4 < (r.V.length : Int) then 1 else if r.V.all mayVR = true then 0 else 12
def rowB (r : RowR) : List UInt8 := UInt8.ofNat (r.t + 1).toNat :: (bytesV r.V ++ zr (36 - 9 * r.V.length))
def rowT (r : RowR) : List UInt8 := if rowE r = 0 then rowB r else []
theorem encVR_len {v : ValR} (h : mayVR v = true) : (encVR v).length = 9 := by
  unfold mayVR at h
  unfold encVR encB
  split
  · rw [List.length_cons, be_length]
  · rw [List.length_cons, fill_length]
theorem bytesV_len (V : List ValR) (h : ∀ v ∈ V, mayVR v = true) : (bytesV V).length = 9 * V.length := by
  induction V with
  | nil => rfl
  | cons v r ih =>
    have h1 := encVR_len (h v (by simp))
    have h2 := ih (fun c hc => h c (by simp [hc]))
    unfold bytesV at *
    rw [List.flatMap_cons, List.length_append, h2, List.length_cons, h1]
    omega
theorem bytesV_snoc (V : List ValR) (v : ValR) : bytesV (V ++ [v]) = bytesV V ++ encVR v := by simp [bytesV]
theorem rowE_one {r : RowR} (h : r.t < 0 ∨ 4 ≤ r.t ∨ (r.V.length : Int) < 1 ∨ 4 < (r.V.length : Int)) : rowE r = 1 := if_pos h
theorem rowE_kind {r : RowR} (h : ¬ (r.t < 0 ∨ 4 ≤ r.t ∨ (r.V.length : Int) < 1 ∨ 4 < (r.V.length : Int))) {i : Nat} {v : ValR} (hv : r.V[i]? = some v) (hm : mayVR v = false) : rowE r = 12 := by
  unfold rowE
  rw [if_neg h, if_neg]
  intro ha
  rw [List.all_eq_true] at ha
  have := ha v (List.mem_of_getElem? hv)
  rw [hm] at this
  cases this
theorem rowE_ok {r : RowR} (h : ¬ (r.t < 0 ∨ 4 ≤ r.t ∨ (r.V.length : Int) < 1 ∨ 4 < (r.V.length : Int))) (hm : ∀ (i : Nat) (v : ValR), i < r.V.length → r.V[i]? = some v → mayVR v = true) : rowE r = 0 := by
  unfold rowE
  rw [if_neg h, if_pos]
  rw [List.all_eq_true]
  intro v hv
  obtain ⟨i, hi⟩ := List.mem_iff_getElem?.1 hv
  exact hm i v (List.getElem?_eq_some_iff.1 hi).1 hi
theorem rowE_zero {r : RowR} (h : rowE r = 0) : (0 ≤ r.t ∧ r.t < 4 ∧ 1 ≤ r.V.length ∧ r.V.length ≤ 4) ∧ ∀ v ∈ r.V, mayVR v = true := by
  unfold rowE at h
  split at h
  · cases h
  · rename_i hh
    split at h
    · rename_i ha
      rw [List.all_eq_true] at ha
      exact ⟨by omega, ha⟩
    · cases h
theorem rowT_no {r : RowR} (h : rowE r ≠ 0) : rowT r = [] := if_neg h
theorem rowT_len {r : RowR} (h : rowE r = 0) : (rowT r).length = 37 := by
  obtain ⟨h1, h2⟩ := rowE_zero h
  unfold rowT
  rw [if_pos h]
  unfold rowB zr
  rw [List.length_cons, List.length_append, bytesV_len _ h2, List.length_replicate]
  omega
theorem encE_is (v : ValR) : encE v.k v.n v.s = if mayVR v = true then 0 else 12 := rfl
theorem take_all {V : List ValR} {k : Nat} {p : ValR → Prop} (h : ∀ (i : Nat) (v : ValR), i < k → V[i]? = some v → p v) : ∀ v ∈ V.take k, p v := by
  intro y hy
  obtain ⟨i, hi⟩ := List.mem_iff_getElem?.1 hy
  rw [List.getElem?_take] at hi
  by_cases ik : i < k
  · rw [if_pos ik] at hi
    exact h i y ik hi
  · rw [if_neg ik] at hi
    cases hi
/-- What is told: a slice that reads as l. -/
def RBv (w : World) (v : Value) (l : List UInt8) : Prop := ∃ A n c, v = .slice A n c ∧ RB w A n c l
theorem RBv.nil (w : World) : RBv w (.slice none 0 0) [] := ⟨none, 0, 0, rfl, RB.none_ w⟩
theorem RBv.sl {w : World} {v : Value} {l : List UInt8} (h : RBv w v l) (n : Nat) (hn : l.length = n) : ∃ A c, v = .slice A n c ∧ RB w A n c l := by
  obtain ⟨A, m, c, rfl, hr⟩ := h
  obtain rfl : m = n := by rw [← hr.len, hn]
  exact ⟨A, c, rfl, hr⟩
end Go.Proofs.Ytjpgiohdaadieaa
/- Contracts of package lay: within, tables, May; of tree.May. -/
namespace Go.Proofs.Ytjpgiohdaadieaa
open Go.ChangeShapes Go.WideShapes Go.ChangeAt Go.RowKit
open Go.ChangeMaps (open_string shut_string)
set_option linter.unusedVariables false
set_option linter.unusedSimpArgs false
set_option maxRecDepth 100000

/-- Is a number between two? -/
def inR (n lo hi : Int) : Bool := decide (lo ≤ n) && decide (n ≤ hi)
theorem inR_true {n lo hi : Int} (h : inR n lo hi = true) : lo ≤ n ∧ n ≤ hi := by simpa [inR] using h
theorem lay_within (n lo hi : Int) (b : Bool) (w : World) (hb : inR n lo hi = b) : Calls Try.prog 55 #[.int .i64 n, .int .i64 lo, .int .i64 hi] w fun e w' => e = .returned (.bool b) ∧ Below w.heap.size w w' := by
  have hh := Lib.hid hb
  clear hb
  by_cases h1 : lo ≤ n
  · go_enter Try.func55, Try.ntmps55
    go_wp2
    go_ret
    exact ⟨by rw [← hh.out]; simp [inR, h1], (by repeat (first | exact Below.refl _ _ | assumption | apply below_drewN' | apply Below.drew | refine Below.alloc ?_ (by first | omega | (simp; done) | (simp; omega)) _ | refine Below.setCell ?_ (by first | omega | (simp; done) | (simp; omega)) _))⟩
  · go_enter Try.func55, Try.ntmps55
    go_wp2
    go_ret
    exact ⟨by rw [← hh.out, inR, decide_eq_false (by omega)]; rfl, (by repeat (first | exact Below.refl _ _ | assumption | apply below_drewN' | apply Below.drew | refine Below.alloc ?_ (by first | omega | (simp; done) | (simp; omega)) _ | refine Below.setCell ?_ (by first | omega | (simp; done) | (simp; omega)) _))⟩
theorem tree_may (n : Int) (b : Bool) (w : World) (hb : inR n 0 6 = b) : Calls Try.prog 54 #[.int .i64 n] w fun e w' => e = .returned (.bool b) ∧ Below w.heap.size w w' := by
  have hh := Lib.hid hb
  clear hb
  by_cases h1 : 0 ≤ n
  · go_enter Try.func54, Try.ntmps54
    go_wp2
    go_ret
    exact ⟨by rw [← hh.out]; simp [inR, h1], (by repeat (first | exact Below.refl _ _ | assumption | apply below_drewN' | apply Below.drew | refine Below.alloc ?_ (by first | omega | (simp; done) | (simp; omega)) _ | refine Below.setCell ?_ (by first | omega | (simp; done) | (simp; omega)) _))⟩
  · go_enter Try.func54, Try.ntmps54
    go_wp2
    go_ret
    exact ⟨by rw [← hh.out, inR, decide_eq_false (by omega)]; rfl, (by repeat (first | exact Below.refl _ _ | assumption | apply below_drewN' | apply Below.drew | refine Below.alloc ?_ (by first | omega | (simp; done) | (simp; omega)) _ | refine Below.setCell ?_ (by first | omega | (simp; done) | (simp; omega)) _))⟩

/-- May a table's kinds be? May tables be? -/
def rowOk (z : List Int) : Bool := z.all (fun k => k == 1 || k == 2) && inR z.length 1 4
def tabsOk (Z : List (List Int)) : Bool := Z.all rowOk && inR Z.length 1 4
theorem tabs_bad {Z : List (List Int)} {z : List Int} {k : Nat} (hz : Z[k]? = some z) (h : rowOk z = false) : tabsOk Z = false := by
  have hm : z ∈ Z := List.mem_of_getElem? hz
  have : Z.all rowOk = false := by rw [List.all_eq_false]; exact ⟨z, hm, by rw [h]; simp⟩
  simp [tabsOk, this]
theorem row_bad {z : List Int} {y : Int} {j : Nat} (hy : z[j]? = some y) (h1 : y ≠ 1) (h2 : y ≠ 2) : rowOk z = false := by
  have hm : y ∈ z := List.mem_of_getElem? hy
  have : z.all (fun k => k == 1 || k == 2) = false := by rw [List.all_eq_false]; exact ⟨y, hm, by simp [h1, h2]⟩
  simp [rowOk, this]
theorem row_is {z : List Int} (h : ∀ i y, i < z.length → z[i]? = some y → y = 1 ∨ y = 2) : rowOk z = inR z.length 1 4 := by
  have : z.all (fun k => k == 1 || k == 2) = true := by
    rw [List.all_eq_true]
    intro y hy
    obtain ⟨i, hi⟩ := List.mem_iff_getElem?.1 hy
    have hl := (List.getElem?_eq_some_iff.1 hi).1
    rcases h i y hl hi with rfl | rfl <;> rfl
  rw [rowOk, this, Bool.true_and]
theorem tabs_is {Z : List (List Int)} (h : ∀ i z, i < Z.length → Z[i]? = some z → rowOk z = true) : tabsOk Z = inR Z.length 1 4 := by
  have : Z.all rowOk = true := by
    rw [List.all_eq_true]
    intro y hy
    obtain ⟨i, hi⟩ := List.mem_iff_getElem?.1 hy
    exact h i y (List.getElem?_eq_some_iff.1 hi).1 hi
  rw [tabsOk, this, Bool.true_and]

set_option maxHeartbeats 1000000 in
set_option maxRecDepth 100000 in
theorem lay_tables (A : Option Addr) (n c : Nat) (Z : List (List Int)) (w : World) (h : RG w A n c Z) : Calls Try.prog 56 #[.slice A n c] w fun e w' => e = .returned (.bool (tabsOk Z)) ∧ Below w.heap.size w w' := by
  obtain ⟨R, hR⟩ : ∃ R, tabsOk Z = R := ⟨_, rfl⟩
  rw [hR]
  have hres := Lib.hid hR
  clear hR
  have hZn := h.len
  have hnm : n ≤ maxLen := Nat.le_trans h.cap h.max
  unfold maxLen at hnm
  go_enter Try.func56, Try.ntmps56
  go_wp2
  go_loopw [9] (fun i wr => ∃ k : Nat, k ≤ n ∧ i = .int .i64 k ∧ Below w.heap.size w wr ∧ Hid (∀ i z, i < k → Z[i]? = some z → rowOk z = true)) (fun i _ => n - (intOf i).toNat)
  case atStart => exact ⟨0, by omega, rfl, (by repeat (first | exact Below.refl _ _ | assumption | apply below_drewN' | apply Below.drew | refine Below.alloc ?_ (by first | omega | (simp; done) | (simp; omega)) _ | refine Below.setCell ?_ (by first | omega | (simp; done) | (simp; omega)) _)), fun i z hi => absurd hi (by omega)⟩
  case round =>
    obtain ⟨k, hk, rfl, br, hall⟩ := hrel
    by_cases hlt : k < n
    · obtain ⟨z, hz⟩ : ∃ z, Z[k]? = some z := ⟨_, List.getElem?_eq_getElem (by omega)⟩
      obtain ⟨g, o, rfl, hc⟩ := (h.below br).at_ (by omega)
      obtain ⟨B, kk, hcell, hrow⟩ := hc k z hz
      have hzm : z.length ≤ maxLen := Nat.le_trans hrow.cap hrow.max
      unfold maxLen at hzm
      have hz2 := Lib.hid hz
      clear hc hz
      go_wp2
      go_loopw [15] (fun i wq => ∃ j : Nat, j ≤ z.length ∧ i = .int .i64 j ∧ Below wr.heap.size wr wq ∧ Hid (∀ i y, i < j → z[i]? = some y → y = 1 ∨ y = 2)) (fun i _ => z.length - (intOf i).toNat)
      case atStart => exact ⟨0, by omega, rfl, (by repeat (first | exact Below.refl _ _ | assumption | apply below_drewN' | apply Below.drew | refine Below.alloc ?_ (by first | omega | (simp; done) | (simp; omega)) _ | refine Below.setCell ?_ (by first | omega | (simp; done) | (simp; omega)) _)), fun i z hi => absurd hi (by omega)⟩
      case round =>
        obtain ⟨j, hj, rfl, bq, hin⟩ := hrel
        clear hcell
        by_cases hlt2 : j < z.length
        · obtain ⟨y, hy⟩ : ∃ y, z[j]? = some y := ⟨_, List.getElem?_eq_getElem (by omega)⟩
          obtain ⟨g2, o2, rfl, hc2⟩ := (hrow.below bq).at_ (by omega)
          have hcell := hc2 j y hy
          have hy2 := Lib.hid hy
          clear hc2 hy
          by_cases h1 : y = 1
          · subst h1
            go_wp2
            go_roundw
            case rel =>
              refine ⟨j + 1, by omega, by go_num, (by repeat (first | exact Below.refl _ _ | assumption | apply below_drewN' | apply Below.drew | refine Below.alloc ?_ (by first | omega | (simp; done) | (simp; omega)) _ | refine Below.setCell ?_ (by first | omega | (simp; done) | (simp; omega)) _)), fun i x hi hx => ?_⟩
              by_cases e : i = j
              · subst e; rw [hy2.out] at hx; injection hx with hx; exact .inl hx.symm
              · exact hin i x (by omega) hx
            case measure => simp [intOf]; omega
          · by_cases h2 : y = 2
            · subst h2
              go_wp2
              go_roundw
              case rel =>
                refine ⟨j + 1, by omega, by go_num, (by repeat (first | exact Below.refl _ _ | assumption | apply below_drewN' | apply Below.drew | refine Below.alloc ?_ (by first | omega | (simp; done) | (simp; omega)) _ | refine Below.setCell ?_ (by first | omega | (simp; done) | (simp; omega)) _)), fun i x hi hx => ?_⟩
                by_cases e : i = j
                · subst e; rw [hy2.out] at hx; injection hx with hx; exact .inr hx.symm
                · exact hin i x (by omega) hx
              case measure => simp [intOf]; omega
            · have f1 : (y != 1) = true := by rw [bne_iff_ne]; exact h1
              have f2 : (y != 2) = true := by rw [bne_iff_ne]; exact h2
              go_wp2
              go_ret
              exact ⟨by rw [← hres.out, tabs_bad hz2.out (row_bad hy2.out h1 h2)]; rfl, bnext br bq⟩
        · have hjl : j = z.length := by omega
          subst hjl
          have hrw := row_is hin
          obtain ⟨b, hb⟩ : ∃ b, inR z.length 1 4 = b := ⟨_, rfl⟩
          rw [hb] at hrw
          have hrw2 := Lib.hid hrw
          clear hrw
          go_wp2_with fail
          refine (lay_within _ _ _ b _ hb).mono ?_
          rintro e w3 ⟨rfl, b3⟩
          clear hb
          have b4 := bnext (bnext br bq) b3
          cases b with
          | true =>
            go_wp2
            go_roundw
            case rel =>
              refine ⟨k + 1, by omega, by go_num, (by repeat (first | exact Below.refl _ _ | assumption | apply below_drewN' | apply Below.drew | refine Below.alloc ?_ (by first | omega | (simp; done) | (simp; omega)) _ | refine Below.setCell ?_ (by first | omega | (simp; done) | (simp; omega)) _)), fun i x hi hx => ?_⟩
              by_cases e : i = k
              · subst e; rw [hz2.out] at hx; injection hx with hx; rw [← hx]; exact hrw2.out
              · exact hall i x (by omega) hx
            case measure => simp [intOf]; omega
          | false =>
            go_wp2
            go_ret
            exact ⟨by rw [← hres.out, tabs_bad hz2.out hrw2.out]; rfl, (by repeat (first | exact Below.refl _ _ | assumption | apply below_drewN' | apply Below.drew | refine Below.alloc ?_ (by first | omega | (simp; done) | (simp; omega)) _ | refine Below.setCell ?_ (by first | omega | (simp; done) | (simp; omega)) _))⟩
    · have hkn : k = n := by omega
      subst hkn
      have ht := tabs_is (Z := Z) (fun i z hi => hall i z (by omega))
      rw [hres.out, hZn] at ht
      have ht2 := Lib.hid ht.symm
      clear ht
      go_wp2_with fail
      refine (lay_within _ _ _ R _ ht2.out).mono ?_
      rintro e w3 ⟨rfl, b3⟩
      go_wp2
      go_ret
      exact ⟨rfl, bnext br b3⟩
end Go.Proofs.Ytjpgiohdaadieaa
/- Contracts of package lay: May of a configuration. -/
namespace Go.Proofs.Ytjpgiohdaadieaa
open Go.ChangeShapes Go.WideShapes Go.ChangeAt Go.RowKit
open Go.ChangeMaps (open_string shut_string)
set_option linter.unusedVariables false
set_option linter.unusedSimpArgs false
set_option maxRecDepth 100000

theorem bnext' {N : Nat} {a w w' : World} (hb : Below w.heap.size w w') (h : Below N a w) (hN : N ≤ a.heap.size := by first | exact Nat.le_refl _ | omega) : Below N a w' := bnext h hb hN
/-- May a configuration be? -/
def mayC (x : Cfg) (Z : List (List Int)) : Bool := inR x.h 0 6 && (inR x.z 1 4 && (inR x.b 1 64 && (inR x.r 1 4 && (inR x.d 1 8 && (inR x.e 1 8 && (inR x.s 0 64 && (inR x.p 1 8 && (inR x.q 1 16 && (inR x.t 1 8 && tabsOk Z)))))))))
set_option maxHeartbeats 2000000 in
set_option maxRecDepth 100000 in
theorem lay_may (x : Cfg) (A : Option Addr) (n c : Nat) (Z : List (List Int)) (w : World) (h : RG w A n c Z) : Calls Try.prog 26 #[.agg #[.int .i64 x.h, .int .i64 x.z, .int .i64 x.b, .int .i64 x.r, .int .i64 x.d, .int .i64 x.e, .int .i64 x.s, .int .i64 x.p, .int .i64 x.q, .int .i64 x.t, .slice A n c]] w fun e w' => e = .returned (.bool (mayC x Z)) ∧ Below w.heap.size w w' := by
  obtain ⟨R, hR⟩ : ∃ R, mayC x Z = R := ⟨_, rfl⟩
  rw [hR]
  have hres := Lib.hid hR
  clear hR
  obtain ⟨T, hT⟩ : ∃ T, tabsOk Z = T := ⟨_, rfl⟩
  obtain ⟨xh, xz, xb, xr, xd, xe, xs, xp, xq, xt⟩ := x
  have hX0 := Blk.new w #[.int .i64 xh, .int .i64 xz, .int .i64 xb, .int .i64 xr, .int .i64 xd, .int .i64 xe, .int .i64 xs, .int .i64 xp, .int .i64 xq, .int .i64 xt, .slice A n c] 24
  have bb : Below w.heap.size w (w.alloc (.cells #[.int .i64 xh, .int .i64 xz, .int .i64 xb, .int .i64 xr, .int .i64 xd, .int .i64 xe, .int .i64 xs, .int .i64 xp, .int .i64 xq, .int .i64 xt, .slice A n c] 24)) := (by repeat (first | exact Below.refl _ _ | assumption | apply below_drewN' | apply Below.drew | refine Below.alloc ?_ (by first | omega | (simp; done) | (simp; omega)) _ | refine Below.setCell ?_ (by first | omega | (simp; done) | (simp; omega)) _))
  cases c0 : inR xh 0 6 with
  | false => go_enter Try.func26, Try.ntmps26; go_wp2_with fail; refine (tree_may _ _ _ (by assumption)).mono ?_; rintro e W1 ⟨rfl, b0⟩; have h1 := h.below (bnext bb b0); have hX := hX0.below b0 hX0.lt; have hXlt := hX.lt; have b1 := Below.refl W1.heap.size W1; have bz := bnext bb b0; clear hX0 bb b0; have a1 := (hX.below b1 hXlt).cell 1 (v := .int .i64 xz) rfl; have a2 := (hX.below b1 hXlt).cell 2 (v := .int .i64 xb) rfl; have a3 := (hX.below b1 hXlt).cell 3 (v := .int .i64 xr) rfl; have a4 := (hX.below b1 hXlt).cell 4 (v := .int .i64 xd) rfl; have a5 := (hX.below b1 hXlt).cell 5 (v := .int .i64 xe) rfl; have a6 := (hX.below b1 hXlt).cell 6 (v := .int .i64 xs) rfl; have a7 := (hX.below b1 hXlt).cell 7 (v := .int .i64 xp) rfl; have a8 := (hX.below b1 hXlt).cell 8 (v := .int .i64 xq) rfl; have a9 := (hX.below b1 hXlt).cell 9 (v := .int .i64 xt) rfl; have a10 := (hX.below b1 hXlt).cell 10 (v := .slice A n c) rfl; go_wp2_with (first | (go_at_call 55; refine (lay_within _ _ _ _ _ (by assumption)).mono ?_; rintro e wn ⟨rfl, hb⟩; have bN := bnext' hb (show Below W1.heap.size W1 _ from by assumption); have a1 := (hX.below bN hXlt).cell 1 (v := .int .i64 xz) rfl; have a2 := (hX.below bN hXlt).cell 2 (v := .int .i64 xb) rfl; have a3 := (hX.below bN hXlt).cell 3 (v := .int .i64 xr) rfl; have a4 := (hX.below bN hXlt).cell 4 (v := .int .i64 xd) rfl; have a5 := (hX.below bN hXlt).cell 5 (v := .int .i64 xe) rfl; have a6 := (hX.below bN hXlt).cell 6 (v := .int .i64 xs) rfl; have a7 := (hX.below bN hXlt).cell 7 (v := .int .i64 xp) rfl; have a8 := (hX.below bN hXlt).cell 8 (v := .int .i64 xq) rfl; have a9 := (hX.below bN hXlt).cell 9 (v := .int .i64 xt) rfl; have a10 := (hX.below bN hXlt).cell 10 (v := .slice A n c) rfl) | (go_at_call 56; refine (lay_tables _ _ _ Z _ (h1.below (show Below W1.heap.size W1 _ from by assumption))).mono ?_; rw [hT]; rintro e wn ⟨rfl, hb⟩; have bN := bnext' hb (show Below W1.heap.size W1 _ from by assumption))); go_ret; exact ⟨by rw [← hres.out]; simp [mayC, c0], bnext' (show Below W1.heap.size W1 _ from by assumption) bz⟩
  | true =>
    cases c1 : inR xz 1 4 with
    | false => go_enter Try.func26, Try.ntmps26; go_wp2_with fail; refine (tree_may _ _ _ (by assumption)).mono ?_; rintro e W1 ⟨rfl, b0⟩; have h1 := h.below (bnext bb b0); have hX := hX0.below b0 hX0.lt; have hXlt := hX.lt; have b1 := Below.refl W1.heap.size W1; have bz := bnext bb b0; clear hX0 bb b0; have a1 := (hX.below b1 hXlt).cell 1 (v := .int .i64 xz) rfl; have a2 := (hX.below b1 hXlt).cell 2 (v := .int .i64 xb) rfl; have a3 := (hX.below b1 hXlt).cell 3 (v := .int .i64 xr) rfl; have a4 := (hX.below b1 hXlt).cell 4 (v := .int .i64 xd) rfl; have a5 := (hX.below b1 hXlt).cell 5 (v := .int .i64 xe) rfl; have a6 := (hX.below b1 hXlt).cell 6 (v := .int .i64 xs) rfl; have a7 := (hX.below b1 hXlt).cell 7 (v := .int .i64 xp) rfl; have a8 := (hX.below b1 hXlt).cell 8 (v := .int .i64 xq) rfl; have a9 := (hX.below b1 hXlt).cell 9 (v := .int .i64 xt) rfl; have a10 := (hX.below b1 hXlt).cell 10 (v := .slice A n c) rfl; go_wp2_with (first | (go_at_call 55; refine (lay_within _ _ _ _ _ (by assumption)).mono ?_; rintro e wn ⟨rfl, hb⟩; have bN := bnext' hb (show Below W1.heap.size W1 _ from by assumption); have a1 := (hX.below bN hXlt).cell 1 (v := .int .i64 xz) rfl; have a2 := (hX.below bN hXlt).cell 2 (v := .int .i64 xb) rfl; have a3 := (hX.below bN hXlt).cell 3 (v := .int .i64 xr) rfl; have a4 := (hX.below bN hXlt).cell 4 (v := .int .i64 xd) rfl; have a5 := (hX.below bN hXlt).cell 5 (v := .int .i64 xe) rfl; have a6 := (hX.below bN hXlt).cell 6 (v := .int .i64 xs) rfl; have a7 := (hX.below bN hXlt).cell 7 (v := .int .i64 xp) rfl; have a8 := (hX.below bN hXlt).cell 8 (v := .int .i64 xq) rfl; have a9 := (hX.below bN hXlt).cell 9 (v := .int .i64 xt) rfl; have a10 := (hX.below bN hXlt).cell 10 (v := .slice A n c) rfl) | (go_at_call 56; refine (lay_tables _ _ _ Z _ (h1.below (show Below W1.heap.size W1 _ from by assumption))).mono ?_; rw [hT]; rintro e wn ⟨rfl, hb⟩; have bN := bnext' hb (show Below W1.heap.size W1 _ from by assumption))); go_ret; exact ⟨by rw [← hres.out]; simp [mayC, c0, c1], bnext' (show Below W1.heap.size W1 _ from by assumption) bz⟩
    | true =>
      cases c2 : inR xb 1 64 with
      | false => go_enter Try.func26, Try.ntmps26; go_wp2_with fail; refine (tree_may _ _ _ (by assumption)).mono ?_; rintro e W1 ⟨rfl, b0⟩; have h1 := h.below (bnext bb b0); have hX := hX0.below b0 hX0.lt; have hXlt := hX.lt; have b1 := Below.refl W1.heap.size W1; have bz := bnext bb b0; clear hX0 bb b0; have a1 := (hX.below b1 hXlt).cell 1 (v := .int .i64 xz) rfl; have a2 := (hX.below b1 hXlt).cell 2 (v := .int .i64 xb) rfl; have a3 := (hX.below b1 hXlt).cell 3 (v := .int .i64 xr) rfl; have a4 := (hX.below b1 hXlt).cell 4 (v := .int .i64 xd) rfl; have a5 := (hX.below b1 hXlt).cell 5 (v := .int .i64 xe) rfl; have a6 := (hX.below b1 hXlt).cell 6 (v := .int .i64 xs) rfl; have a7 := (hX.below b1 hXlt).cell 7 (v := .int .i64 xp) rfl; have a8 := (hX.below b1 hXlt).cell 8 (v := .int .i64 xq) rfl; have a9 := (hX.below b1 hXlt).cell 9 (v := .int .i64 xt) rfl; have a10 := (hX.below b1 hXlt).cell 10 (v := .slice A n c) rfl; go_wp2_with (first | (go_at_call 55; refine (lay_within _ _ _ _ _ (by assumption)).mono ?_; rintro e wn ⟨rfl, hb⟩; have bN := bnext' hb (show Below W1.heap.size W1 _ from by assumption); have a1 := (hX.below bN hXlt).cell 1 (v := .int .i64 xz) rfl; have a2 := (hX.below bN hXlt).cell 2 (v := .int .i64 xb) rfl; have a3 := (hX.below bN hXlt).cell 3 (v := .int .i64 xr) rfl; have a4 := (hX.below bN hXlt).cell 4 (v := .int .i64 xd) rfl; have a5 := (hX.below bN hXlt).cell 5 (v := .int .i64 xe) rfl; have a6 := (hX.below bN hXlt).cell 6 (v := .int .i64 xs) rfl; have a7 := (hX.below bN hXlt).cell 7 (v := .int .i64 xp) rfl; have a8 := (hX.below bN hXlt).cell 8 (v := .int .i64 xq) rfl; have a9 := (hX.below bN hXlt).cell 9 (v := .int .i64 xt) rfl; have a10 := (hX.below bN hXlt).cell 10 (v := .slice A n c) rfl) | (go_at_call 56; refine (lay_tables _ _ _ Z _ (h1.below (show Below W1.heap.size W1 _ from by assumption))).mono ?_; rw [hT]; rintro e wn ⟨rfl, hb⟩; have bN := bnext' hb (show Below W1.heap.size W1 _ from by assumption))); go_ret; exact ⟨by rw [← hres.out]; simp [mayC, c0, c1, c2], bnext' (show Below W1.heap.size W1 _ from by assumption) bz⟩
      | true =>
        cases c3 : inR xr 1 4 with
        | false => go_enter Try.func26, Try.ntmps26; go_wp2_with fail; refine (tree_may _ _ _ (by assumption)).mono ?_; rintro e W1 ⟨rfl, b0⟩; have h1 := h.below (bnext bb b0); have hX := hX0.below b0 hX0.lt; have hXlt := hX.lt; have b1 := Below.refl W1.heap.size W1; have bz := bnext bb b0; clear hX0 bb b0; have a1 := (hX.below b1 hXlt).cell 1 (v := .int .i64 xz) rfl; have a2 := (hX.below b1 hXlt).cell 2 (v := .int .i64 xb) rfl; have a3 := (hX.below b1 hXlt).cell 3 (v := .int .i64 xr) rfl; have a4 := (hX.below b1 hXlt).cell 4 (v := .int .i64 xd) rfl; have a5 := (hX.below b1 hXlt).cell 5 (v := .int .i64 xe) rfl; have a6 := (hX.below b1 hXlt).cell 6 (v := .int .i64 xs) rfl; have a7 := (hX.below b1 hXlt).cell 7 (v := .int .i64 xp) rfl; have a8 := (hX.below b1 hXlt).cell 8 (v := .int .i64 xq) rfl; have a9 := (hX.below b1 hXlt).cell 9 (v := .int .i64 xt) rfl; have a10 := (hX.below b1 hXlt).cell 10 (v := .slice A n c) rfl; go_wp2_with (first | (go_at_call 55; refine (lay_within _ _ _ _ _ (by assumption)).mono ?_; rintro e wn ⟨rfl, hb⟩; have bN := bnext' hb (show Below W1.heap.size W1 _ from by assumption); have a1 := (hX.below bN hXlt).cell 1 (v := .int .i64 xz) rfl; have a2 := (hX.below bN hXlt).cell 2 (v := .int .i64 xb) rfl; have a3 := (hX.below bN hXlt).cell 3 (v := .int .i64 xr) rfl; have a4 := (hX.below bN hXlt).cell 4 (v := .int .i64 xd) rfl; have a5 := (hX.below bN hXlt).cell 5 (v := .int .i64 xe) rfl; have a6 := (hX.below bN hXlt).cell 6 (v := .int .i64 xs) rfl; have a7 := (hX.below bN hXlt).cell 7 (v := .int .i64 xp) rfl; have a8 := (hX.below bN hXlt).cell 8 (v := .int .i64 xq) rfl; have a9 := (hX.below bN hXlt).cell 9 (v := .int .i64 xt) rfl; have a10 := (hX.below bN hXlt).cell 10 (v := .slice A n c) rfl) | (go_at_call 56; refine (lay_tables _ _ _ Z _ (h1.below (show Below W1.heap.size W1 _ from by assumption))).mono ?_; rw [hT]; rintro e wn ⟨rfl, hb⟩; have bN := bnext' hb (show Below W1.heap.size W1 _ from by assumption))); go_ret; exact ⟨by rw [← hres.out]; simp [mayC, c0, c1, c2, c3], bnext' (show Below W1.heap.size W1 _ from by assumption) bz⟩
        | true =>
          cases c4 : inR xd 1 8 with
          | false => go_enter Try.func26, Try.ntmps26; go_wp2_with fail; refine (tree_may _ _ _ (by assumption)).mono ?_; rintro e W1 ⟨rfl, b0⟩; have h1 := h.below (bnext bb b0); have hX := hX0.below b0 hX0.lt; have hXlt := hX.lt; have b1 := Below.refl W1.heap.size W1; have bz := bnext bb b0; clear hX0 bb b0; have a1 := (hX.below b1 hXlt).cell 1 (v := .int .i64 xz) rfl; have a2 := (hX.below b1 hXlt).cell 2 (v := .int .i64 xb) rfl; have a3 := (hX.below b1 hXlt).cell 3 (v := .int .i64 xr) rfl; have a4 := (hX.below b1 hXlt).cell 4 (v := .int .i64 xd) rfl; have a5 := (hX.below b1 hXlt).cell 5 (v := .int .i64 xe) rfl; have a6 := (hX.below b1 hXlt).cell 6 (v := .int .i64 xs) rfl; have a7 := (hX.below b1 hXlt).cell 7 (v := .int .i64 xp) rfl; have a8 := (hX.below b1 hXlt).cell 8 (v := .int .i64 xq) rfl; have a9 := (hX.below b1 hXlt).cell 9 (v := .int .i64 xt) rfl; have a10 := (hX.below b1 hXlt).cell 10 (v := .slice A n c) rfl; go_wp2_with (first | (go_at_call 55; refine (lay_within _ _ _ _ _ (by assumption)).mono ?_; rintro e wn ⟨rfl, hb⟩; have bN := bnext' hb (show Below W1.heap.size W1 _ from by assumption); have a1 := (hX.below bN hXlt).cell 1 (v := .int .i64 xz) rfl; have a2 := (hX.below bN hXlt).cell 2 (v := .int .i64 xb) rfl; have a3 := (hX.below bN hXlt).cell 3 (v := .int .i64 xr) rfl; have a4 := (hX.below bN hXlt).cell 4 (v := .int .i64 xd) rfl; have a5 := (hX.below bN hXlt).cell 5 (v := .int .i64 xe) rfl; have a6 := (hX.below bN hXlt).cell 6 (v := .int .i64 xs) rfl; have a7 := (hX.below bN hXlt).cell 7 (v := .int .i64 xp) rfl; have a8 := (hX.below bN hXlt).cell 8 (v := .int .i64 xq) rfl; have a9 := (hX.below bN hXlt).cell 9 (v := .int .i64 xt) rfl; have a10 := (hX.below bN hXlt).cell 10 (v := .slice A n c) rfl) | (go_at_call 56; refine (lay_tables _ _ _ Z _ (h1.below (show Below W1.heap.size W1 _ from by assumption))).mono ?_; rw [hT]; rintro e wn ⟨rfl, hb⟩; have bN := bnext' hb (show Below W1.heap.size W1 _ from by assumption))); go_ret; exact ⟨by rw [← hres.out]; simp [mayC, c0, c1, c2, c3, c4], bnext' (show Below W1.heap.size W1 _ from by assumption) bz⟩
          | true =>
            cases c5 : inR xe 1 8 with
            | false => go_enter Try.func26, Try.ntmps26; go_wp2_with fail; refine (tree_may _ _ _ (by assumption)).mono ?_; rintro e W1 ⟨rfl, b0⟩; have h1 := h.below (bnext bb b0); have hX := hX0.below b0 hX0.lt; have hXlt := hX.lt; have b1 := Below.refl W1.heap.size W1; have bz := bnext bb b0; clear hX0 bb b0; have a1 := (hX.below b1 hXlt).cell 1 (v := .int .i64 xz) rfl; have a2 := (hX.below b1 hXlt).cell 2 (v := .int .i64 xb) rfl; have a3 := (hX.below b1 hXlt).cell 3 (v := .int .i64 xr) rfl; have a4 := (hX.below b1 hXlt).cell 4 (v := .int .i64 xd) rfl; have a5 := (hX.below b1 hXlt).cell 5 (v := .int .i64 xe) rfl; have a6 := (hX.below b1 hXlt).cell 6 (v := .int .i64 xs) rfl; have a7 := (hX.below b1 hXlt).cell 7 (v := .int .i64 xp) rfl; have a8 := (hX.below b1 hXlt).cell 8 (v := .int .i64 xq) rfl; have a9 := (hX.below b1 hXlt).cell 9 (v := .int .i64 xt) rfl; have a10 := (hX.below b1 hXlt).cell 10 (v := .slice A n c) rfl; go_wp2_with (first | (go_at_call 55; refine (lay_within _ _ _ _ _ (by assumption)).mono ?_; rintro e wn ⟨rfl, hb⟩; have bN := bnext' hb (show Below W1.heap.size W1 _ from by assumption); have a1 := (hX.below bN hXlt).cell 1 (v := .int .i64 xz) rfl; have a2 := (hX.below bN hXlt).cell 2 (v := .int .i64 xb) rfl; have a3 := (hX.below bN hXlt).cell 3 (v := .int .i64 xr) rfl; have a4 := (hX.below bN hXlt).cell 4 (v := .int .i64 xd) rfl; have a5 := (hX.below bN hXlt).cell 5 (v := .int .i64 xe) rfl; have a6 := (hX.below bN hXlt).cell 6 (v := .int .i64 xs) rfl; have a7 := (hX.below bN hXlt).cell 7 (v := .int .i64 xp) rfl; have a8 := (hX.below bN hXlt).cell 8 (v := .int .i64 xq) rfl; have a9 := (hX.below bN hXlt).cell 9 (v := .int .i64 xt) rfl; have a10 := (hX.below bN hXlt).cell 10 (v := .slice A n c) rfl) | (go_at_call 56; refine (lay_tables _ _ _ Z _ (h1.below (show Below W1.heap.size W1 _ from by assumption))).mono ?_; rw [hT]; rintro e wn ⟨rfl, hb⟩; have bN := bnext' hb (show Below W1.heap.size W1 _ from by assumption))); go_ret; exact ⟨by rw [← hres.out]; simp [mayC, c0, c1, c2, c3, c4, c5], bnext' (show Below W1.heap.size W1 _ from by assumption) bz⟩
            | true =>
              cases c6 : inR xs 0 64 with
              | false => go_enter Try.func26, Try.ntmps26; go_wp2_with fail; refine (tree_may _ _ _ (by assumption)).mono ?_; rintro e W1 ⟨rfl, b0⟩; have h1 := h.below (bnext bb b0); have hX := hX0.below b0 hX0.lt; have hXlt := hX.lt; have b1 := Below.refl W1.heap.size W1; have bz := bnext bb b0; clear hX0 bb b0; have a1 := (hX.below b1 hXlt).cell 1 (v := .int .i64 xz) rfl; have a2 := (hX.below b1 hXlt).cell 2 (v := .int .i64 xb) rfl; have a3 := (hX.below b1 hXlt).cell 3 (v := .int .i64 xr) rfl; have a4 := (hX.below b1 hXlt).cell 4 (v := .int .i64 xd) rfl; have a5 := (hX.below b1 hXlt).cell 5 (v := .int .i64 xe) rfl; have a6 := (hX.below b1 hXlt).cell 6 (v := .int .i64 xs) rfl; have a7 := (hX.below b1 hXlt).cell 7 (v := .int .i64 xp) rfl; have a8 := (hX.below b1 hXlt).cell 8 (v := .int .i64 xq) rfl; have a9 := (hX.below b1 hXlt).cell 9 (v := .int .i64 xt) rfl; have a10 := (hX.below b1 hXlt).cell 10 (v := .slice A n c) rfl; go_wp2_with (first | (go_at_call 55; refine (lay_within _ _ _ _ _ (by assumption)).mono ?_; rintro e wn ⟨rfl, hb⟩; have bN := bnext' hb (show Below W1.heap.size W1 _ from by assumption); have a1 := (hX.below bN hXlt).cell 1 (v := .int .i64 xz) rfl; have a2 := (hX.below bN hXlt).cell 2 (v := .int .i64 xb) rfl; have a3 := (hX.below bN hXlt).cell 3 (v := .int .i64 xr) rfl; have a4 := (hX.below bN hXlt).cell 4 (v := .int .i64 xd) rfl; have a5 := (hX.below bN hXlt).cell 5 (v := .int .i64 xe) rfl; have a6 := (hX.below bN hXlt).cell 6 (v := .int .i64 xs) rfl; have a7 := (hX.below bN hXlt).cell 7 (v := .int .i64 xp) rfl; have a8 := (hX.below bN hXlt).cell 8 (v := .int .i64 xq) rfl; have a9 := (hX.below bN hXlt).cell 9 (v := .int .i64 xt) rfl; have a10 := (hX.below bN hXlt).cell 10 (v := .slice A n c) rfl) | (go_at_call 56; refine (lay_tables _ _ _ Z _ (h1.below (show Below W1.heap.size W1 _ from by assumption))).mono ?_; rw [hT]; rintro e wn ⟨rfl, hb⟩; have bN := bnext' hb (show Below W1.heap.size W1 _ from by assumption))); go_ret; exact ⟨by rw [← hres.out]; simp [mayC, c0, c1, c2, c3, c4, c5, c6], bnext' (show Below W1.heap.size W1 _ from by assumption) bz⟩
              | true =>
                cases c7 : inR xp 1 8 with
                | false => go_enter Try.func26, Try.ntmps26; go_wp2_with fail; refine (tree_may _ _ _ (by assumption)).mono ?_; rintro e W1 ⟨rfl, b0⟩; have h1 := h.below (bnext bb b0); have hX := hX0.below b0 hX0.lt; have hXlt := hX.lt; have b1 := Below.refl W1.heap.size W1; have bz := bnext bb b0; clear hX0 bb b0; have a1 := (hX.below b1 hXlt).cell 1 (v := .int .i64 xz) rfl; have a2 := (hX.below b1 hXlt).cell 2 (v := .int .i64 xb) rfl; have a3 := (hX.below b1 hXlt).cell 3 (v := .int .i64 xr) rfl; have a4 := (hX.below b1 hXlt).cell 4 (v := .int .i64 xd) rfl; have a5 := (hX.below b1 hXlt).cell 5 (v := .int .i64 xe) rfl; have a6 := (hX.below b1 hXlt).cell 6 (v := .int .i64 xs) rfl; have a7 := (hX.below b1 hXlt).cell 7 (v := .int .i64 xp) rfl; have a8 := (hX.below b1 hXlt).cell 8 (v := .int .i64 xq) rfl; have a9 := (hX.below b1 hXlt).cell 9 (v := .int .i64 xt) rfl; have a10 := (hX.below b1 hXlt).cell 10 (v := .slice A n c) rfl; go_wp2_with (first | (go_at_call 55; refine (lay_within _ _ _ _ _ (by assumption)).mono ?_; rintro e wn ⟨rfl, hb⟩; have bN := bnext' hb (show Below W1.heap.size W1 _ from by assumption); have a1 := (hX.below bN hXlt).cell 1 (v := .int .i64 xz) rfl; have a2 := (hX.below bN hXlt).cell 2 (v := .int .i64 xb) rfl; have a3 := (hX.below bN hXlt).cell 3 (v := .int .i64 xr) rfl; have a4 := (hX.below bN hXlt).cell 4 (v := .int .i64 xd) rfl; have a5 := (hX.below bN hXlt).cell 5 (v := .int .i64 xe) rfl; have a6 := (hX.below bN hXlt).cell 6 (v := .int .i64 xs) rfl; have a7 := (hX.below bN hXlt).cell 7 (v := .int .i64 xp) rfl; have a8 := (hX.below bN hXlt).cell 8 (v := .int .i64 xq) rfl; have a9 := (hX.below bN hXlt).cell 9 (v := .int .i64 xt) rfl; have a10 := (hX.below bN hXlt).cell 10 (v := .slice A n c) rfl) | (go_at_call 56; refine (lay_tables _ _ _ Z _ (h1.below (show Below W1.heap.size W1 _ from by assumption))).mono ?_; rw [hT]; rintro e wn ⟨rfl, hb⟩; have bN := bnext' hb (show Below W1.heap.size W1 _ from by assumption))); go_ret; exact ⟨by rw [← hres.out]; simp [mayC, c0, c1, c2, c3, c4, c5, c6, c7], bnext' (show Below W1.heap.size W1 _ from by assumption) bz⟩
                | true =>
                  cases c8 : inR xq 1 16 with
                  | false => go_enter Try.func26, Try.ntmps26; go_wp2_with fail; refine (tree_may _ _ _ (by assumption)).mono ?_; rintro e W1 ⟨rfl, b0⟩; have h1 := h.below (bnext bb b0); have hX := hX0.below b0 hX0.lt; have hXlt := hX.lt; have b1 := Below.refl W1.heap.size W1; have bz := bnext bb b0; clear hX0 bb b0; have a1 := (hX.below b1 hXlt).cell 1 (v := .int .i64 xz) rfl; have a2 := (hX.below b1 hXlt).cell 2 (v := .int .i64 xb) rfl; have a3 := (hX.below b1 hXlt).cell 3 (v := .int .i64 xr) rfl; have a4 := (hX.below b1 hXlt).cell 4 (v := .int .i64 xd) rfl; have a5 := (hX.below b1 hXlt).cell 5 (v := .int .i64 xe) rfl; have a6 := (hX.below b1 hXlt).cell 6 (v := .int .i64 xs) rfl; have a7 := (hX.below b1 hXlt).cell 7 (v := .int .i64 xp) rfl; have a8 := (hX.below b1 hXlt).cell 8 (v := .int .i64 xq) rfl; have a9 := (hX.below b1 hXlt).cell 9 (v := .int .i64 xt) rfl; have a10 := (hX.below b1 hXlt).cell 10 (v := .slice A n c) rfl; go_wp2_with (first | (go_at_call 55; refine (lay_within _ _ _ _ _ (by assumption)).mono ?_; rintro e wn ⟨rfl, hb⟩; have bN := bnext' hb (show Below W1.heap.size W1 _ from by assumption); have a1 := (hX.below bN hXlt).cell 1 (v := .int .i64 xz) rfl; have a2 := (hX.below bN hXlt).cell 2 (v := .int .i64 xb) rfl; have a3 := (hX.below bN hXlt).cell 3 (v := .int .i64 xr) rfl; have a4 := (hX.below bN hXlt).cell 4 (v := .int .i64 xd) rfl; have a5 := (hX.below bN hXlt).cell 5 (v := .int .i64 xe) rfl; have a6 := (hX.below bN hXlt).cell 6 (v := .int .i64 xs) rfl; have a7 := (hX.below bN hXlt).cell 7 (v := .int .i64 xp) rfl; have a8 := (hX.below bN hXlt).cell 8 (v := .int .i64 xq) rfl; have a9 := (hX.below bN hXlt).cell 9 (v := .int .i64 xt) rfl; have a10 := (hX.below bN hXlt).cell 10 (v := .slice A n c) rfl) | (go_at_call 56; refine (lay_tables _ _ _ Z _ (h1.below (show Below W1.heap.size W1 _ from by assumption))).mono ?_; rw [hT]; rintro e wn ⟨rfl, hb⟩; have bN := bnext' hb (show Below W1.heap.size W1 _ from by assumption))); go_ret; exact ⟨by rw [← hres.out]; simp [mayC, c0, c1, c2, c3, c4, c5, c6, c7, c8], bnext' (show Below W1.heap.size W1 _ from by assumption) bz⟩
                  | true =>
                    cases c9 : inR xt 1 8 with
                    | false => go_enter Try.func26, Try.ntmps26; go_wp2_with fail; refine (tree_may _ _ _ (by assumption)).mono ?_; rintro e W1 ⟨rfl, b0⟩; have h1 := h.below (bnext bb b0); have hX := hX0.below b0 hX0.lt; have hXlt := hX.lt; have b1 := Below.refl W1.heap.size W1; have bz := bnext bb b0; clear hX0 bb b0; have a1 := (hX.below b1 hXlt).cell 1 (v := .int .i64 xz) rfl; have a2 := (hX.below b1 hXlt).cell 2 (v := .int .i64 xb) rfl; have a3 := (hX.below b1 hXlt).cell 3 (v := .int .i64 xr) rfl; have a4 := (hX.below b1 hXlt).cell 4 (v := .int .i64 xd) rfl; have a5 := (hX.below b1 hXlt).cell 5 (v := .int .i64 xe) rfl; have a6 := (hX.below b1 hXlt).cell 6 (v := .int .i64 xs) rfl; have a7 := (hX.below b1 hXlt).cell 7 (v := .int .i64 xp) rfl; have a8 := (hX.below b1 hXlt).cell 8 (v := .int .i64 xq) rfl; have a9 := (hX.below b1 hXlt).cell 9 (v := .int .i64 xt) rfl; have a10 := (hX.below b1 hXlt).cell 10 (v := .slice A n c) rfl; go_wp2_with (first | (go_at_call 55; refine (lay_within _ _ _ _ _ (by assumption)).mono ?_; rintro e wn ⟨rfl, hb⟩; have bN := bnext' hb (show Below W1.heap.size W1 _ from by assumption); have a1 := (hX.below bN hXlt).cell 1 (v := .int .i64 xz) rfl; have a2 := (hX.below bN hXlt).cell 2 (v := .int .i64 xb) rfl; have a3 := (hX.below bN hXlt).cell 3 (v := .int .i64 xr) rfl; have a4 := (hX.below bN hXlt).cell 4 (v := .int .i64 xd) rfl; have a5 := (hX.below bN hXlt).cell 5 (v := .int .i64 xe) rfl; have a6 := (hX.below bN hXlt).cell 6 (v := .int .i64 xs) rfl; have a7 := (hX.below bN hXlt).cell 7 (v := .int .i64 xp) rfl; have a8 := (hX.below bN hXlt).cell 8 (v := .int .i64 xq) rfl; have a9 := (hX.below bN hXlt).cell 9 (v := .int .i64 xt) rfl; have a10 := (hX.below bN hXlt).cell 10 (v := .slice A n c) rfl) | (go_at_call 56; refine (lay_tables _ _ _ Z _ (h1.below (show Below W1.heap.size W1 _ from by assumption))).mono ?_; rw [hT]; rintro e wn ⟨rfl, hb⟩; have bN := bnext' hb (show Below W1.heap.size W1 _ from by assumption))); go_ret; exact ⟨by rw [← hres.out]; simp [mayC, c0, c1, c2, c3, c4, c5, c6, c7, c8, c9], bnext' (show Below W1.heap.size W1 _ from by assumption) bz⟩
                    | true => go_enter Try.func26, Try.ntmps26; go_wp2_with fail; refine (tree_may _ _ _ (by assumption)).mono ?_; rintro e W1 ⟨rfl, b0⟩; have h1 := h.below (bnext bb b0); have hX := hX0.below b0 hX0.lt; have hXlt := hX.lt; have b1 := Below.refl W1.heap.size W1; have bz := bnext bb b0; clear hX0 bb b0; have a1 := (hX.below b1 hXlt).cell 1 (v := .int .i64 xz) rfl; have a2 := (hX.below b1 hXlt).cell 2 (v := .int .i64 xb) rfl; have a3 := (hX.below b1 hXlt).cell 3 (v := .int .i64 xr) rfl; have a4 := (hX.below b1 hXlt).cell 4 (v := .int .i64 xd) rfl; have a5 := (hX.below b1 hXlt).cell 5 (v := .int .i64 xe) rfl; have a6 := (hX.below b1 hXlt).cell 6 (v := .int .i64 xs) rfl; have a7 := (hX.below b1 hXlt).cell 7 (v := .int .i64 xp) rfl; have a8 := (hX.below b1 hXlt).cell 8 (v := .int .i64 xq) rfl; have a9 := (hX.below b1 hXlt).cell 9 (v := .int .i64 xt) rfl; have a10 := (hX.below b1 hXlt).cell 10 (v := .slice A n c) rfl; go_wp2_with (first | (go_at_call 55; refine (lay_within _ _ _ _ _ (by assumption)).mono ?_; rintro e wn ⟨rfl, hb⟩; have bN := bnext' hb (show Below W1.heap.size W1 _ from by assumption); have a1 := (hX.below bN hXlt).cell 1 (v := .int .i64 xz) rfl; have a2 := (hX.below bN hXlt).cell 2 (v := .int .i64 xb) rfl; have a3 := (hX.below bN hXlt).cell 3 (v := .int .i64 xr) rfl; have a4 := (hX.below bN hXlt).cell 4 (v := .int .i64 xd) rfl; have a5 := (hX.below bN hXlt).cell 5 (v := .int .i64 xe) rfl; have a6 := (hX.below bN hXlt).cell 6 (v := .int .i64 xs) rfl; have a7 := (hX.below bN hXlt).cell 7 (v := .int .i64 xp) rfl; have a8 := (hX.below bN hXlt).cell 8 (v := .int .i64 xq) rfl; have a9 := (hX.below bN hXlt).cell 9 (v := .int .i64 xt) rfl; have a10 := (hX.below bN hXlt).cell 10 (v := .slice A n c) rfl) | (go_at_call 56; refine (lay_tables _ _ _ Z _ (h1.below (show Below W1.heap.size W1 _ from by assumption))).mono ?_; rw [hT]; rintro e wn ⟨rfl, hb⟩; have bN := bnext' hb (show Below W1.heap.size W1 _ from by assumption))); go_ret; exact ⟨by rw [← hres.out]; simp [mayC, c0, c1, c2, c3, c4, c5, c6, c7, c8, c9, hT], bnext' (show Below W1.heap.size W1 _ from by assumption) bz⟩
end Go.Proofs.Ytjpgiohdaadieaa
/- Contracts of package lay: the lengths. -/
namespace Go.Proofs.Ytjpgiohdaadieaa
open Go.ChangeShapes Go.WideShapes Go.ChangeAt Go.RowKit
open Go.ChangeMaps (open_string shut_string)
set_option linter.unusedVariables false
set_option linter.unusedSimpArgs false
set_option maxRecDepth 100000

theorem slab_cells (l s : Int) (w : World) (hl : 1 ≤ l) (hs : 1 ≤ s) (h2 : l ≤ 1099511627776) (h3 : s ≤ 1099511627776) : Calls Try.prog 32 #[.int .i64 l, .int .i64 s] w fun e w' => e = .returned (.int .i64 ((l - 1) / s + 1)) ∧ Below w.heap.size w w' := by
  have e : (l - 1).tdiv s = (l - 1) / s := Int.tdiv_eq_ediv_of_nonneg (by omega)
  have d0 : 0 ≤ (l - 1) / s := Int.ediv_nonneg (by omega) (by omega)
  have d1 : (l - 1) / s ≤ l - 1 := Int.ediv_le_self _ (by omega)
  have s0 : (s == 0) = false := by rw [beq_eq_false_iff_ne]; omega
  generalize (l - 1) / s = q at *
  go_enter Try.func32, Try.ntmps32
  go_wp2
  go_ret
  exact ⟨rfl, (by repeat (first | exact Below.refl _ _ | assumption | apply below_drewN' | apply Below.drew | refine Below.alloc ?_ (by first | omega | (simp; done) | (simp; omega)) _ | refine Below.setCell ?_ (by first | omega | (simp; done) | (simp; omega)) _))⟩

/-- 2^h. -/
def leavesC (h : Int) : Int := 2 ^ h.toNat
theorem leavesC_range (n : Nat) (hn : n ≤ 6) : 1 ≤ leavesC n ∧ leavesC n ≤ 64 := by
  have hh : n = 0 ∨ n = 1 ∨ n = 2 ∨ n = 3 ∨ n = 4 ∨ n = 5 ∨ n = 6 := by omega
  rcases hh with rfl | rfl | rfl | rfl | rfl | rfl | rfl <;> decide
theorem bucket_may (z : Int) (w : World) (h0 : 1 ≤ z) (h1 : z ≤ 4) : Calls Try.prog 77 #[.int .i64 z] w fun e w' => e = .returned (.bool true) ∧ Below w.heap.size w w' := by
  go_enter Try.func77, Try.ntmps77
  go_wp2
  go_ret
  exact ⟨rfl, (by repeat (first | exact Below.refl _ _ | assumption | apply below_drewN' | apply Below.drew | refine Below.alloc ?_ (by first | omega | (simp; done) | (simp; omega)) _ | refine Below.setCell ?_ (by first | omega | (simp; done) | (simp; omega)) _))⟩
theorem bucket_length (z : Int) (w : World) (h0 : 1 ≤ z) (h1 : z ≤ 4) : Calls Try.prog 53 #[.int .i64 z] w fun e w' => e = .returned (.int .i64 (z * 38)) ∧ Below w.heap.size w w' := by
  go_enter Try.func53, Try.ntmps53
  go_wp2_with fail
  refine (bucket_may _ _ h0 h1).mono ?_
  rintro e w2 ⟨rfl, hb⟩
  go_wp2
  go_ret
  exact ⟨rfl, hb⟩

/-- The bounds of what may be. -/
structure Cfg.B (x : Cfg) : Prop where
  h : 0 ≤ x.h ∧ x.h ≤ 6
  z : 1 ≤ x.z ∧ x.z ≤ 4
  b : 1 ≤ x.b ∧ x.b ≤ 64
  r : 1 ≤ x.r ∧ x.r ≤ 4
  d : 1 ≤ x.d ∧ x.d ≤ 8
  e : 1 ≤ x.e ∧ x.e ≤ 8
  s : 0 ≤ x.s ∧ x.s ≤ 64
  p : 1 ≤ x.p ∧ x.p ≤ 8
  q : 1 ≤ x.q ∧ x.q ≤ 16
  t : 1 ≤ x.t ∧ x.t ≤ 8
theorem mayC_B {x : Cfg} {Z : List (List Int)} (h : mayC x Z = true) : x.B := by
  simp only [mayC, Bool.and_eq_true] at h
  obtain ⟨h0, h1, h2, h3, h4, h5, h6, h7, h8, h9, _⟩ := h
  exact ⟨inR_true h0, inR_true h1, inR_true h2, inR_true h3, inR_true h4, inR_true h5, inR_true h6, inR_true h7, inR_true h8, inR_true h9⟩
def slotsC (x : Cfg) : Int := x.r * x.d + x.e
theorem slotsC_range {x : Cfg} (h : x.B) : 0 ≤ x.r * x.d ∧ x.r * x.d ≤ 32 ∧ 1 ≤ slotsC x ∧ slotsC x ≤ 40 := by
  have a : 0 ≤ x.r * x.d := Int.mul_nonneg (by have := h.r; omega) (by have := h.d; omega)
  have b : x.r * x.d ≤ 4 * 8 := Int.mul_le_mul h.r.2 h.d.2 (by have := h.d; omega) (by omega)
  have := h.e
  unfold slotsC
  omega
theorem lay_slots (x : Cfg) (A : Option Addr) (n c : Nat) (w : World) (h : x.B) : Calls Try.prog 75 #[.agg #[.int .i64 x.h, .int .i64 x.z, .int .i64 x.b, .int .i64 x.r, .int .i64 x.d, .int .i64 x.e, .int .i64 x.s, .int .i64 x.p, .int .i64 x.q, .int .i64 x.t, .slice A n c]] w fun e w' => e = .returned (.int .i64 (slotsC x)) ∧ Below w.heap.size w w' := by
  have r := slotsC_range h
  have he := h.e
  clear h
  unfold slotsC at *
  obtain ⟨xh, xz, xb, xr, xd, xe, xs, xp, xq, xt⟩ := x
  simp only at r he
  go_enter Try.func75, Try.ntmps75
  go_wp2
  go_ret
  exact ⟨rfl, (by repeat (first | exact Below.refl _ _ | assumption | apply below_drewN' | apply Below.drew | refine Below.alloc ?_ (by first | omega | (simp; done) | (simp; omega)) _ | refine Below.setCell ?_ (by first | omega | (simp; done) | (simp; omega)) _))⟩
theorem lay_payload (x : Cfg) (A : Option Addr) (n c : Nat) (w : World) (h : x.B) : Calls Try.prog 24 #[.agg #[.int .i64 x.h, .int .i64 x.z, .int .i64 x.b, .int .i64 x.r, .int .i64 x.d, .int .i64 x.e, .int .i64 x.s, .int .i64 x.p, .int .i64 x.q, .int .i64 x.t, .slice A n c]] w fun e w' => e = .returned (.int .i64 (x.z * 38)) ∧ Below w.heap.size w w' := by
  have hz := h.z
  clear h
  obtain ⟨xh, xz, xb, xr, xd, xe, xs, xp, xq, xt⟩ := x
  simp only at hz
  have bb : Below w.heap.size w (w.alloc (.cells #[.int .i64 xh, .int .i64 xz, .int .i64 xb, .int .i64 xr, .int .i64 xd, .int .i64 xe, .int .i64 xs, .int .i64 xp, .int .i64 xq, .int .i64 xt, .slice A n c] 28)) := (by repeat (first | exact Below.refl _ _ | assumption | apply below_drewN' | apply Below.drew | refine Below.alloc ?_ (by first | omega | (simp; done) | (simp; omega)) _ | refine Below.setCell ?_ (by first | omega | (simp; done) | (simp; omega)) _))
  go_enter Try.func24, Try.ntmps24
  go_wp2_with fail
  refine (bucket_length _ _ hz.1 hz.2).mono ?_
  rintro e w2 ⟨rfl, hb⟩
  go_wp2
  go_ret
  exact ⟨rfl, bnext bb hb⟩
/-- How many cells so many bytes have. -/
def cellsC (x : Cfg) (l : Int) : Int := (l - 1) / (x.z * 38) + 1
theorem lay_cells (x : Cfg) (A : Option Addr) (n c : Nat) (l : Int) (w : World) (h : x.B) (h0 : 1 ≤ l) (h1 : l ≤ 1099511627776) : Calls Try.prog 74 #[.agg #[.int .i64 x.h, .int .i64 x.z, .int .i64 x.b, .int .i64 x.r, .int .i64 x.d, .int .i64 x.e, .int .i64 x.s, .int .i64 x.p, .int .i64 x.q, .int .i64 x.t, .slice A n c], .int .i64 l] w fun e w' => e = .returned (.int .i64 (cellsC x l)) ∧ Below w.heap.size w w' := by
  have HP := Lib.hid (fun w => lay_payload x A n c w h)
  have hz := h.z
  clear h
  have HC := Lib.hid (fun w => slab_cells l (x.z * 38) w h0 (by omega) h1 (by omega))
  have bb : Below w.heap.size w (w.alloc (.cells #[.int .i64 x.h, .int .i64 x.z, .int .i64 x.b, .int .i64 x.r, .int .i64 x.d, .int .i64 x.e, .int .i64 x.s, .int .i64 x.p, .int .i64 x.q, .int .i64 x.t, .slice A n c] 28)) := (by repeat (first | exact Below.refl _ _ | assumption | apply below_drewN' | apply Below.drew | refine Below.alloc ?_ (by first | omega | (simp; done) | (simp; omega)) _ | refine Below.setCell ?_ (by first | omega | (simp; done) | (simp; omega)) _))
  go_enter Try.func74, Try.ntmps74
  go_wp2_with fail
  refine (HP.out _).mono ?_
  rintro e w2 ⟨rfl, hb⟩
  go_wp2_with fail
  refine (HC.out _).mono ?_
  rintro e w3 ⟨rfl, hb2⟩
  go_wp2
  go_ret
  exact ⟨rfl, bnext (bnext bb hb) hb2⟩
end Go.Proofs.Ytjpgiohdaadieaa
/- May an answer be? may a log? -/
namespace Go.Proofs.Ytjpgiohdaadieaa
open Go.ChangeShapes Go.WideShapes Go.ChangeAt Go.RowKit
open Go.ChangeMaps (open_string shut_string)
set_option linter.unusedVariables false
set_option linter.unusedSimpArgs false
set_option maxRecDepth 100000
open Go.Deep

/-- May an answer be? -/
def ansOk (k : Int) (V : List ValR) : Bool := V.all mayVR && (decide (1 ≤ k) && (decide (k ≤ 6) && (decide (V.length ≤ 4) && (k == 1 || V.length == 0))))
theorem ansOk_val {k : Int} {V : List ValR} {i : Nat} {v : ValR} (hv : V[i]? = some v) (h : mayVR v = false) : ansOk k V = false := by
  unfold ansOk
  rw [Bool.and_eq_false_iff]
  left
  rw [List.all_eq_false]
  exact ⟨v, List.mem_of_getElem? hv, by rw [h]; simp⟩
theorem ansOk_vals {k : Int} {V : List ValR} (h : ∀ i v, i < V.length → V[i]? = some v → mayVR v = true) : ansOk k V = (decide (1 ≤ k) && (decide (k ≤ 6) && (decide (V.length ≤ 4) && (k == 1 || V.length == 0)))) := by
  unfold ansOk
  have : V.all mayVR = true := by
    rw [List.all_eq_true]
    intro v hv
    obtain ⟨i, hi⟩ := List.mem_iff_getElem?.1 hv
    exact h i v (List.getElem?_eq_some_iff.1 hi).1 hi
  rw [this, Bool.true_and]
theorem ansOk_iff {k : Int} {V : List ValR} : ansOk k V = true ↔ (∀ v ∈ V, mayVR v = true) ∧ 1 ≤ k ∧ k ≤ 6 ∧ V.length ≤ 4 ∧ (k = 1 ∨ V.length = 0) := by
  unfold ansOk
  simp [and_assoc]
set_option maxHeartbeats 4000000 in
theorem clog_answer (k : Int) (A : Option Addr) (n c : Nat) (V : List ValR) (w : World) (h : RV w A n c V) :
    Calls Try.prog 27 #[.agg #[.int .i64 k, .slice A n c]] w fun e w' => e = .returned (.bool (ansOk k V)) ∧ Below w.heap.size w w' := by
  obtain ⟨R, hR⟩ : ∃ R, ansOk k V = R := ⟨_, rfl⟩
  rw [hR]
  have hres := Lib.hid hR
  clear hR
  have hnm := h.size
  have hLn := h.len
  have hX := Blk.new w #[.int .i64 k, .slice A n c] 35
  have bb : Below w.heap.size w (w.alloc (.cells #[.int .i64 k, .slice A n c] 35)) := (by repeat (first | exact Below.refl _ _ | assumption | apply below_drewN' | apply Below.drew | refine Below.alloc ?_ (by first | omega | (simp; done) | (simp; omega)) _ | refine Below.setCell ?_ (by first | omega | (simp; done) | (simp; omega)) _))
  have h1 := h.below bb
  go_enter Try.func27, Try.ntmps27
  go_wp2
  generalize w.alloc (.cells #[.int .i64 k, .slice A n c] 35) = W1 at *
  have hXlt := hX.lt
  go_loopw [8] (fun i wr => ∃ j : Nat, j ≤ n ∧ i = .int .i64 j ∧ Below W1.heap.size W1 wr ∧ Hid (∀ i v, i < j → V[i]? = some v → mayVR v = true)) (fun i _ => n - (intOf i).toNat)
  case atStart => exact ⟨0, by omega, rfl, (by repeat (first | exact Below.refl _ _ | assumption | apply below_drewN' | apply Below.drew | refine Below.alloc ?_ (by first | omega | (simp; done) | (simp; omega)) _ | refine Below.setCell ?_ (by first | omega | (simp; done) | (simp; omega)) _)), Lib.hid (fun i v hi => absurd hi (by omega))⟩
  case round =>
    obtain ⟨j, hj, rfl, bl, hall⟩ := hrel
    by_cases hlt : j < n
    · obtain ⟨p, hp⟩ : ∃ p, V[j]? = some p := ⟨_, List.getElem?_eq_getElem (by omega)⟩
      obtain ⟨g, o, rfl, hc⟩ := (h1.below bl).at_ (by omega)
      obtain ⟨c0, c1, c2⟩ := hc j p hp
      have hph := Lib.hid hp
      clear hc hp
      obtain ⟨pk, pn, ps⟩ := p
      have HE := Lib.hid (fun w => val_may pk pn ps w)
      have ba : Below wr.heap.size wr (wr.alloc (.cells #[.int .i64 (pk), .int .i64 (pn), .string (str (ps))] 41)) := (by repeat (first | exact Below.refl _ _ | assumption | apply below_drewN' | apply Below.drew | refine Below.alloc ?_ (by first | omega | (simp; done) | (simp; omega)) _ | refine Below.setCell ?_ (by first | omega | (simp; done) | (simp; omega)) _))
      have bl1 := Below.next bl ba (Nat.le_refl _)
      clear bl
      go_wp2_with fail
      refine (HE.out _).mono ?_
      rintro e w4 ⟨rfl, b4⟩
      have bl4 := Below.next bl1 b4 (Nat.le_refl _)
      clear bl1 b4 ba
      cases hm : mayV pk pn ps with
      | false =>
        have e1 := Lib.hid (ansOk_val (k := k) hph.out (show mayVR ⟨pk, pn, ps⟩ = false from hm))
        have bl2 := Below.next bb (bl4.mono (Nat.le_refl _)) (Nat.le_refl _)
        clear hm
        go_wp2
        go_ret
        exact ⟨(show Ending.returned (.bool false) = .returned (.bool R) from by rewrite [← hres.out, e1.out]; rfl), bl2⟩
      | true =>
        replace hm := Lib.hid hm
        go_wp2
        go_roundw
        case rel =>
          refine ⟨j + 1, by omega, by go_num, bl4, Lib.hid fun i v hi hv => ?_⟩
          by_cases ei : i = j
          · subst ei; rw [hph.out] at hv; injection hv with hv; rw [← hv]; exact hm.out
          · exact hall.out i v (by omega) hv
        case measure => simp [intOf]; omega
    · have hjn : j = n := by omega
      have e0 := Lib.hid (ansOk_vals (k := k) (V := V) (fun i v hi hv => hall.out i v (by omega) hv))
      have bl2 := Below.next bb bl (Nat.le_refl _)
      have a0 := (hX.below bl hXlt).cell 0 (v := .int .i64 k) rfl
      have a1 := (hX.below bl hXlt).cell 1 (v := .slice A n c) rfl
      have hni : ((V.length : Nat) : Int) = n := by omega
      rw [hLn] at e0
      clear hni
      rcases (show ¬ 1 ≤ k ∨ (1 ≤ k ∧ ¬ k ≤ 6) ∨ (1 ≤ k ∧ k ≤ 6 ∧ 4 < n) ∨ (k = 1 ∧ n ≤ 4) ∨ (1 ≤ k ∧ k ≤ 6 ∧ k ≠ 1 ∧ n = 0) ∨ (1 ≤ k ∧ k ≤ 6 ∧ k ≠ 1 ∧ 0 < n ∧ n ≤ 4) by omega) with k1 | ⟨k1, k2⟩ | ⟨k1, k2, k3⟩ | ⟨k1, k2⟩ | ⟨k1, k2, k3, k4⟩ | ⟨k1, k2, k3, k4, k5⟩
      · go_wp2
        go_ret
        exact ⟨(show Ending.returned (.bool false) = .returned (.bool R) from by rewrite [← hres.out, e0.out]; first | (simp [k1]; done) | (simp [k1]; omega)), bl2⟩
      · go_wp2
        go_ret
        exact ⟨(show Ending.returned (.bool false) = .returned (.bool R) from by rewrite [← hres.out, e0.out]; first | (simp [k1, k2]; done) | (simp [k1, k2]; omega)), bl2⟩
      · have k4 : ¬ (n : Int) ≤ 4 := by omega
        go_wp2
        go_ret
        exact ⟨(show Ending.returned (.bool false) = .returned (.bool R) from by rewrite [← hres.out, e0.out]; first | (simp [k1, k2, k3]; done) | (simp [k1, k2, k3]; omega)), bl2⟩
      · have k4 : (n : Int) ≤ 4 := by omega
        subst k1
        go_wp2
        go_ret
        exact ⟨(show Ending.returned (.bool true) = .returned (.bool R) from by rewrite [← hres.out, e0.out]; first | (simp [k2]; done) | (simp [k2]; omega)), bl2⟩
      · have k5 : (n : Int) ≤ 4 := by omega
        have k6 : (k == 1) = false := by rw [beq_eq_false_iff_ne]; exact k3
        have k7 : ((n : Int) == 0) = true := by rw [beq_iff_eq]; omega
        go_wp2
        go_ret
        exact ⟨(show Ending.returned (.bool true) = .returned (.bool R) from by rewrite [← hres.out, e0.out]; first | (simp [k1, k2, k4, k6]; done) | (simp [k1, k2, k4, k6]; omega)), bl2⟩
      · have k6 : (n : Int) ≤ 4 := by omega
        have k7 : (k == 1) = false := by rw [beq_eq_false_iff_ne]; exact k3
        have k8 : ((n : Int) == 0) = false := by rw [beq_eq_false_iff_ne]; omega
        go_wp2
        go_ret
        exact ⟨(show Ending.returned (.bool false) = .returned (.bool R) from by rewrite [← hres.out, e0.out]; first | (simp [k1, k2, k5, k7]; done) | (simp [k1, k2, k5, k7]; omega)), bl2⟩

/-- The number of the one ahead. -/
def lastN (T : List TolR) : Nat → Int
  | 0 => 0
  | i + 1 => (T.getD i default).n
def okT (T : List TolR) (i : Nat) : Bool := decide (lastN T i < (T.getD i default).n) && (decide ((T.getD i default).n ≤ 4294967294) && ansOk (T.getD i default).k (T.getD i default).V)
def mayT (T : List TolR) : Bool := (List.range T.length).all (okT T)
/-- May a log be, where t transactions may be? -/
def mayG (t : Int) (g : LogR) : Bool := mayT g.T && (decide (0 ≤ g.e) && (decide (g.e ≤ 1099511627774) && decide ((g.T.length : Int) ≤ t)))
theorem getD_of {α : Type} [Inhabited α] {L : List α} {i : Nat} {a : α} (h : L[i]? = some a) : L.getD i default = a := by simp [List.getD, h]
theorem mayT_no {T : List TolR} {i : Nat} (hi : i < T.length) (h : okT T i = false) : mayT T = false := by
  unfold mayT
  rw [List.all_eq_false]
  exact ⟨i, List.mem_range.2 hi, by rw [h]; simp⟩
theorem mayT_yes {T : List TolR} (h : ∀ i, i < T.length → okT T i = true) : mayT T = true := by
  unfold mayT
  rw [List.all_eq_true]
  intro i hi
  exact h i (List.mem_range.1 hi)
theorem mayG_no {t e : Int} {T : List TolR} {i : Nat} {p : TolR} (hp : T[i]? = some p) (h : ¬ lastN T i < p.n ∨ ¬ p.n ≤ 4294967294 ∨ ansOk p.k p.V = false) : mayG t ⟨e, T⟩ = false := by
  have : okT T i = false := by
    unfold okT
    rw [getD_of hp]
    rcases h with h | h | h
    · rw [decide_eq_false h, Bool.false_and]
    · rw [decide_eq_false h, Bool.false_and, Bool.and_false]
    · rw [h, Bool.and_false, Bool.and_false]
  unfold mayG
  rw [mayT_no (List.getElem?_eq_some_iff.1 hp).1 this, Bool.false_and]
theorem okT_yes {T : List TolR} {i : Nat} {p : TolR} (hp : T[i]? = some p) (h1 : lastN T i < p.n) (h2 : p.n ≤ 4294967294) (h3 : ansOk p.k p.V = true) : okT T i = true := by
  unfold okT
  rw [getD_of hp, decide_eq_true h1, decide_eq_true h2, h3]
  rfl
theorem mayG_end {t e : Int} {T : List TolR} (h : ∀ i, i < T.length → okT T i = true) : mayG t ⟨e, T⟩ = (decide (0 ≤ e) && (decide (e ≤ 1099511627774) && decide ((T.length : Int) ≤ t))) := by
  unfold mayG
  rw [mayT_yes h, Bool.true_and]
set_option maxHeartbeats 4000000 in
theorem clog_may (x : Cfg) (A0 : Option Addr) (n0 c0 : Nat) (e : Int) (A : Option Addr) (n c : Nat) (T : List TolR) (w : World) (h : RT w A n c T) :
    Calls Try.prog 10 #[.agg #[.int .i64 x.h, .int .i64 x.z, .int .i64 x.b, .int .i64 x.r, .int .i64 x.d, .int .i64 x.e, .int .i64 x.s, .int .i64 x.p, .int .i64 x.q, .int .i64 x.t, .slice A0 n0 c0], .agg #[.int .i64 e, .slice A n c]] w fun r w' => r = .returned (.bool (mayG x.t ⟨e, T⟩)) ∧ Below w.heap.size w w' := by
  obtain ⟨xh, xz, xb, xr, xd, xe, xs, xp, xq, xt⟩ := x
  simp only
  obtain ⟨R, hR⟩ : ∃ R, mayG xt ⟨e, T⟩ = R := ⟨_, rfl⟩
  rw [hR]
  have hres := Lib.hid hR
  clear hR
  have hnm := h.size
  have hLn := h.len
  have hY := Blk.new (w.alloc (.cells #[.int .i64 xh, .int .i64 xz, .int .i64 xb, .int .i64 xr, .int .i64 xd, .int .i64 xe, .int .i64 xs, .int .i64 xp, .int .i64 xq, .int .i64 xt, .slice A0 n0 c0] 28)) #[.int .i64 e, .slice A n c] 39
  have hX := (Blk.new w #[.int .i64 xh, .int .i64 xz, .int .i64 xb, .int .i64 xr, .int .i64 xd, .int .i64 xe, .int .i64 xs, .int .i64 xp, .int .i64 xq, .int .i64 xt, .slice A0 n0 c0] 28).alloc (.cells #[.int .i64 e, .slice A n c] 39)
  have bb : Below w.heap.size w ((w.alloc (.cells #[.int .i64 xh, .int .i64 xz, .int .i64 xb, .int .i64 xr, .int .i64 xd, .int .i64 xe, .int .i64 xs, .int .i64 xp, .int .i64 xq, .int .i64 xt, .slice A0 n0 c0] 28)).alloc (.cells #[.int .i64 e, .slice A n c] 39)) := (by repeat (first | exact Below.refl _ _ | assumption | apply below_drewN' | apply Below.drew | refine Below.alloc ?_ (by first | omega | (simp; done) | (simp; omega)) _ | refine Below.setCell ?_ (by first | omega | (simp; done) | (simp; omega)) _))
  rw [World.size_alloc] at hY
  have h1 := h.below bb
  go_enter Try.func10, Try.ntmps10
  go_wp2
  generalize (w.alloc (.cells #[.int .i64 xh, .int .i64 xz, .int .i64 xb, .int .i64 xr, .int .i64 xd, .int .i64 xe, .int .i64 xs, .int .i64 xp, .int .i64 xq, .int .i64 xt, .slice A0 n0 c0] 28)).alloc (.cells #[.int .i64 e, .slice A n c] 39) = W1 at *
  have hXlt := hX.lt
  have hYlt := hY.lt
  go_loopw [5, 11] (fun s i wr => ∃ j : Nat, j ≤ n ∧ s = .int .i64 (lastN T j) ∧ i = .int .i64 j ∧ Below W1.heap.size W1 wr ∧ Hid (∀ i, i < j → okT T i = true)) (fun _ i _ => n - (intOf i).toNat)
  case atStart => exact ⟨0, by omega, rfl, rfl, (by repeat (first | exact Below.refl _ _ | assumption | apply below_drewN' | apply Below.drew | refine Below.alloc ?_ (by first | omega | (simp; done) | (simp; omega)) _ | refine Below.setCell ?_ (by first | omega | (simp; done) | (simp; omega)) _)), Lib.hid (fun i hi => absurd hi (by omega))⟩
  case round =>
    obtain ⟨j, hj, rfl, rfl, bl, hall⟩ := hrel
    by_cases hlt : j < n
    · obtain ⟨p, hp⟩ : ∃ p, T[j]? = some p := ⟨_, List.getElem?_eq_getElem (by omega)⟩
      obtain ⟨g, o, rfl, hc⟩ := (h1.below bl).at_ (by omega)
      obtain ⟨B, m, k, hRV, c0, c1, c2⟩ := hc j p hp
      have hno := Lib.hid (mayG_no (t := xt) (e := e) hp)
      have hyes := Lib.hid (okT_yes hp)
      have hla := Lib.hid (show lastN T (j + 1) = p.n from by show (T.getD j default).n = _; rw [getD_of hp])
      clear hc hp
      generalize lastN T j = q at *
      have hZ := Blk.new wr #[.int .i64 p.n, .int .i64 p.k, .slice B m k] 37
      have ba : Below wr.heap.size wr (wr.alloc (.cells #[.int .i64 p.n, .int .i64 p.k, .slice B m k] 37)) := (by repeat (first | exact Below.refl _ _ | assumption | apply below_drewN' | apply Below.drew | refine Below.alloc ?_ (by first | omega | (simp; done) | (simp; omega)) _ | refine Below.setCell ?_ (by first | omega | (simp; done) | (simp; omega)) _))
      have bl1 := Below.next bl ba (Nat.le_refl _)
      have bl3 := Below.next bb (bl1.mono (Nat.le_refl _)) (Nat.le_refl _)
      have hq := hRV.below ba
      clear bl
      by_cases k1 : p.n ≤ q
      · replace hno := Lib.hid (hno.out (.inl (by omega)))
        go_wp2
        go_ret
        exact ⟨(show Ending.returned (.bool false) = .returned (.bool R) from by rewrite [← hres.out, hno.out]; rfl), bl3⟩
      by_cases k2 : p.n > 4294967294
      · replace hno := Lib.hid (hno.out (.inr (.inl (by omega))))
        go_wp2
        go_ret
        exact ⟨(show Ending.returned (.bool false) = .returned (.bool R) from by rewrite [← hres.out, hno.out]; rfl), bl3⟩
      obtain ⟨b, hb⟩ : ∃ b, ansOk p.k p.V = b := ⟨_, rfl⟩
      have HA := Lib.hid (fun w h => hb ▸ clog_answer p.k B m k p.V w h)
      replace hb := Lib.hid hb
      go_wp2_with fail
      refine (HA.out _ hq).mono ?_
      rintro e w4 ⟨rfl, b4⟩
      have bl4 := Below.next bl1 b4 (Nat.le_refl _)
      have z0 := (hZ.below b4 hZ.lt).cell 0 (v := .int .i64 p.n) rfl
      clear bl1 b4 ba hq HA hRV c0 c1 c2
      cases b with
      | false =>
        replace hno := Lib.hid (hno.out (.inr (.inr hb.out)))
        have bl5 := Below.next bb (bl4.mono (Nat.le_refl _)) (Nat.le_refl _)
        go_wp2
        go_ret
        exact ⟨(show Ending.returned (.bool false) = .returned (.bool R) from by rewrite [← hres.out, hno.out]; rfl), bl5⟩
      | true =>
        replace hyes := Lib.hid (hyes.out (by omega) (by omega) hb.out)
        go_wp2
        go_roundw
        case rel =>
          refine ⟨j + 1, by omega, by rw [hla.out], by go_num, bl4, Lib.hid fun i hi => ?_⟩
          by_cases ei : i = j
          · subst ei; exact hyes.out
          · exact hall.out i (by omega)
        case measure => simp [intOf]; omega
    · have hjn : j = n := by omega
      have e0 := Lib.hid (mayG_end (t := xt) (e := e) (T := T) (fun i hi => hall.out i (by omega)))
      have bl2 := Below.next bb bl (Nat.le_refl _)
      have a0 := (hY.below bl hYlt).cell 0 (v := .int .i64 e) rfl
      have a1 := (hY.below bl hYlt).cell 1 (v := .slice A n c) rfl
      have a2 := (hX.below bl hXlt).cell 9 (v := .int .i64 xt) rfl
      rw [hLn] at e0
      clear hall
      rcases (show ¬ 0 ≤ e ∨ (0 ≤ e ∧ ¬ e ≤ 1099511627774) ∨ (0 ≤ e ∧ e ≤ 1099511627774 ∧ (n : Int) ≤ xt) ∨ (0 ≤ e ∧ e ≤ 1099511627774 ∧ ¬ (n : Int) ≤ xt) by omega) with k1 | ⟨k1, k2⟩ | ⟨k1, k2, k3⟩ | ⟨k1, k2, k3⟩
      · go_wp2
        go_ret
        exact ⟨(show Ending.returned (.bool false) = .returned (.bool R) from by rewrite [← hres.out, e0.out]; first | (simp [k1]; done) | (simp [k1]; omega)), bl2⟩
      · go_wp2
        go_ret
        exact ⟨(show Ending.returned (.bool false) = .returned (.bool R) from by rewrite [← hres.out, e0.out]; first | (simp [k1, k2]; done) | (simp [k1, k2]; omega)), bl2⟩
      · go_wp2
        go_ret
        exact ⟨(show Ending.returned (.bool true) = .returned (.bool R) from by rewrite [← hres.out, e0.out]; first | (simp [k1, k2, k3]; done) | (simp [k1, k2, k3]; omega)), bl2⟩
      · go_wp2
        go_ret
        exact ⟨(show Ending.returned (.bool false) = .returned (.bool R) from by rewrite [← hres.out, e0.out]; first | (simp [k1, k2, k3]; done) | (simp [k1, k2, k3]; omega)), bl2⟩
end Go.Proofs.Ytjpgiohdaadieaa
/- Free.wp_facts where an operation without a slot (a store) tells something behind the region. -/
namespace Go.Proofs.Ytjpgiohdaadieaa
open Go.ChangeShapes Go.WideShapes Go.ChangeAt Go.RowKit
open Go.ChangeMaps (open_string shut_string)
set_option linter.unusedVariables false
set_option linter.unusedSimpArgs false
set_option maxRecDepth 100000
namespace Free
variable {P : Program} {ops : Array Oper}
def ToldW (F : Nat → Value → World → Prop) (w : World) : List (Nat × Option Tmp × Bool) → Act → (Act → Prop) → Prop
  | [], a, k => k a
  | (i, some t, true) :: r, a, k => ∀ v, F i v w → ToldW F w r (a.put (some t) v) k
  | (_, some t, false) :: r, a, k => ∀ v, ToldW F w r (a.put (some t) v) k
  | (i, none, _) :: r, a, k => ∀ v, F i v w → ToldW F w r a k
def told (ops : Array Oper) (outs : List Nat) (i : Nat) : Option (Nat × Option Tmp × Bool) :=
  match dst ops i with
  | some t => some (i, some t, outs.contains i)
  | none => if outs.contains i = true then some (i, none, true) else none
theorem ToldW.told {F : Nat → Value → World → Prop} {outs : List Nat} {w : World} {k : Act → Prop} : ∀ (R : List Nat) (a : Act), ToldW F w (R.filterMap (Free.told ops outs)) a k → ToldE ops F outs w R a k
  | [], _, h => h
  | i :: r, a, h => fun v hv => by
    rw [List.filterMap_cons] at h
    unfold Free.told at h
    cases hd : dst ops i with
    | none =>
      rw [hd] at h
      cases ho : outs.contains i with
      | true =>
        rw [ho] at h
        rw [if_pos ho] at hv
        exact ToldW.told r _ (h v hv)
      | false =>
        rw [ho] at h
        exact ToldW.told r _ h
    | some t =>
      rw [hd] at h
      cases ho : outs.contains i with
      | true =>
        rw [ho] at h
        rw [if_pos ho] at hv
        exact ToldW.told r _ (h v hv)
      | false =>
        rw [ho] at h
        exact ToldW.told r _ (h v)
def chkW (ops : Array Oper) (M : List Nat) (D : List (List (Nat × Tmp))) (outs soles : List Nat) (E : List (Nat × Option Tmp × Bool)) (N : Nat) : Bool :=
  chk ops M (D.map fun l => l.map (·.1)) outs soles N && (D.all fun l => l.all fun p => dst ops p.1 == some p.2) && ((List.range ops.size).filterMap (told ops outs)) == E
theorem wp_factsW {M : List Nat} {D : List (List (Nat × Tmp))} {outs soles : List Nat} {E : List (Nat × Option Tmp × Bool)} {N : Nat} {id : Nat} {w : World} {a : Act} {Q : Exit → Act → World → Prop} {S : World → Prop} (L : List Fact)
    (hm : P.follows .mixedOrders = true) (hc : chkW ops M D outs soles E N = true) (hN : a.tmps.size = N) (hS : S w.drew)
    (hstep : StepsFrom (fun j o => ∀ w', S w' → Told' (facts L) w' (D.getD j []) a (StepAt P ops S (facts L) soles j o a.defers w')) 0 ops.toList)
    (hend : ∀ w', S w' → ToldW (facts L) w' E a (fun a' => Q .normal a' w')) : (Code.region id ops true).wp P Q a w := by
  unfold chkW at hc
  simp only [Bool.and_eq_true, beq_iff_eq] at hc
  obtain ⟨⟨hc1, hc2⟩, hc3⟩ := hc
  refine wp_free hc1 (F := facts L) (S := S) hm hN (fun i v w w' h hb => (L.getD i Fact.any).stab v w w' h hb) hS ?_ ?_
  · intro j o hj w' hw'
    have h := StepsFrom.all ops.toList 0 hstep j o (by simpa using hj)
    rw [Nat.zero_add] at h
    have h2 := h w' hw'
    have e : (D.map fun l => l.map (·.1)).getD j [] = (D.getD j []).map (·.1) := by
      simp only [List.getD_eq_getElem?_getD, List.getElem?_map]
      cases D[j]? <;> rfl
    rw [e]
    refine Told'.told _ _ ?_ h2
    cases hd : D[j]? with
    | none => simp [List.getD_eq_getElem?_getD, hd]
    | some l =>
      rw [List.all_eq_true] at hc2
      simp only [List.getD_eq_getElem?_getD, hd, Option.getD_some]
      exact hc2 l (List.mem_of_getElem? hd)
  · intro w' hw'
    refine ToldW.told _ _ ?_
    rw [hc3]
    exact hend w' hw'
theorem toldW_nil {F : Nat → Value → World → Prop} {w : World} {a : Act} {k : Act → Prop} (h : k a) : ToldW F w [] a k := h
/-- A row of cells stands in a block. -/
def Fact.blk (g : Nat) (cs : Array Value) (t : Nat) : Fact := ⟨fun _ w => Blk w g cs t, fun _ _ _ h hb => h.below hb h.lt⟩
end Free
end Go.Proofs.Ytjpgiohdaadieaa
/- Free.wp_facts where facts are stable under a relation of one's own, and what holds of the world turns at the operations ss (an append onto a row that was there, a call that writes). -/
namespace Go.Proofs.Ytjpgiohdaadieaa
open Go.ChangeShapes Go.WideShapes Go.ChangeAt Go.RowKit
open Go.ChangeMaps (open_string shut_string)
set_option linter.unusedVariables false
set_option linter.unusedSimpArgs false
set_option maxRecDepth 100000
namespace Free
variable {P : Program} {ops : Array Oper} {M : List Nat} {D : List (List Nat)} {outs soles pures : List Nat} {N : Nat}
/-- As chkS, where the facts of pures speak of no world. -/
def chkSP (ops : Array Oper) (M : List Nat) (D : List (List Nat)) (outs pures : List Nat) (j : Nat) : Bool :=
  ((List.range ops.size).all fun k => k == j || bit M j k || (D.getD k []).all fun i => pures.contains i || i == j || bit M i j) && outs.all fun i => pures.contains i || i == j || bit M i j
/-- How many of ss have been carried out, where j is about to be. -/
def agrees (M ss : List Nat) (j st : Nat) : Prop := (ss.filter (bit M j)).length ≤ st ∧ st ≤ (ss.filter fun s => !(j == s || bit M s j)).length
def done (ss : List Nat) (listed : Array Bool) : Nat := (ss.filter fun s => listed.getD s false).length
theorem filter_le {p q : Nat → Bool} : ∀ L : List Nat, (∀ x ∈ L, p x = true → q x = true) → (L.filter p).length ≤ (L.filter q).length
  | [], _ => Nat.le_refl _
  | x :: r, h => by
    have ih := filter_le r (fun y hy => h y (by simp [hy]))
    rw [List.filter_cons, List.filter_cons]
    by_cases hp : p x = true
    · rw [if_pos hp, if_pos (h x (by simp) hp)]; simp; exact ih
    · rw [if_neg hp]
      split
      · simp; omega
      · exact ih
theorem done_set {listed : Array Bool} {j : Nat} (hj : j < listed.size) (hun : listed.getD j false = false) : ∀ ss : List Nat, done ss (listed.setIfInBounds j true) = done ss listed + (ss.filter fun s => j == s).length
  | [] => rfl
  | x :: r => by
    have ih := done_set hj hun r
    unfold done at *
    rw [List.filter_cons, List.filter_cons, List.filter_cons]
    by_cases e : j = x
    · subst e
      have e1 : (listed.setIfInBounds j true).getD j false = true := by simp [hj]
      rw [e1, hun, beq_self_eq_true]
      simp only [if_true, Bool.false_eq_true, if_false, List.length_cons]
      omega
    · rw [getD_set_ne false e, beq_eq_false_iff_ne.2 e]
      split
      · simp only [List.length_cons, Bool.false_eq_true, if_false]; omega
      · simp only [Bool.false_eq_true, if_false]; exact ih
def StepAtR (R : World → World → Prop) (P : Program) (ops : Array Oper) (S : World → Prop) (F : Nat → Value → World → Prop) (soles : List Nat) (j : Nat) (o : Oper) (dfs : List Deferred) (w : World) (a : Act) : Prop :=
  ∀ K : Value → World → Prop, Shut (∀ v w', F j v w' → S w' → (soles.contains j = true ∨ R w w') → K v w') →
    if Region.wanted o (yielded ops a.tmps) = true then o.wp P a w (fun a' w' => a'.defers = dfs ∧ K (valOf o.dst a') w') (fun _ _ _ => False) else K undef w

structure InvR (ops : Array Oper) (D : List (List Nat)) (outs : List Nat) (N : Nat) (ss : List Nat) (S : Nat → World → Prop) (F : Nat → Value → World → Prop) (a : Act) (listed : Array Bool) (vs : Nat → Value) (a' : Act) (w' : World) : Prop where
  size : listed.size = ops.size
  closed : ∀ j, listed.getD j false = true → ∀ d ∈ deps ops j, listed.getD d false = true
  dfs : a'.defers = a.defers
  n : a'.tmps.size = N
  new : ∀ i d, listed.getD i false = true → dst ops i = some d → a'.tmps[d]? = some (vs i)
  old : ∀ t, (∀ i, listed.getD i false = true → dst ops i ≠ some t) → a'.tmps[t]? = a.tmps[t]?
  st : S (done ss listed) w'
  f : ∀ i, listed.getD i false = true → Need D outs ops listed i → F i (vs i) w'

section
variable {ss : List Nat} {S : Nat → World → Prop} {F : Nat → Value → World → Prop} {a : Act} {Q : Exit → Act → World → Prop}
theorem seesR (hc : chk ops M D outs soles N = true) {listed : Array Bool} {vs : Nat → Value} {a' : Act} {w' : World} (hI : InvR ops D outs N ss S F a listed vs a' w') (hN : a.tmps.size = N) {j : Nat} {o : Oper} (hj : ops[j]? = some o)
    (hd : ∀ d ∈ deps ops j, listed.getD d false = true) (hun : listed.getD j false = false) :
    execOp a'.eval o = execOp (putAll ops vs (D.getD j []) a).eval o ∧ Region.wanted o (yielded ops a'.tmps) = Region.wanted o (yielded ops (putAll ops vs (D.getD j []) a).tmps) ∧ ∀ i ∈ D.getD j [], listed.getD i false = true := by
  have hlt := (Array.getElem?_eq_some_iff.1 hj).1
  have h1 := chk_one hc hj
  unfold chk1 at h1
  simp only [Bool.and_eq_true] at h1
  have hanc : ∀ i ∈ D.getD j [], listed.getD i false = true := fun i hi => by
    have := h1.1.1.2
    rw [List.all_eq_true] at this
    exact anc_listed hc hI.closed j i hd hlt (this i hi)
  have hlk := h1.1.2
  rw [List.all_eq_true] at hlk
  have same : ∀ t ∈ o.looksAt ops, a'.tmps[t]? = (putAll ops vs (D.getD j []) a).tmps[t]? := by
    intro t ht
    have hall := hlk t ht
    rw [List.all_eq_true] at hall
    by_cases hex : ∃ i ∈ D.getD j [], dst ops i = some t
    · obtain ⟨i, hi, hdi⟩ := hex
      rw [hI.new i t (hanc i hi) hdi, putAll_in vs (dst_inj hc) _ i t hdi a hi (by rw [hN]; exact dst_lt hc hdi)]
    · rw [putAll_out vs _ t a (fun i hi e => hex ⟨i, hi, e⟩)]
      refine hI.old t fun i hli hdi => ?_
      have hin : i < ops.size := by rw [← hI.size]; exact listed_lt hli
      have := hall i (List.mem_range.2 hin)
      simp only [Bool.or_eq_true, bne_iff_ne, ne_eq, List.contains_iff_mem, beq_iff_eq] at this
      rcases this with ((h | h) | h) | h
      · exact h hdi
      · exact hex ⟨i, h, hdi⟩
      · subst h; rw [hun] at hli; cases hli
      · have := anc_listed hc hI.closed i j (hI.closed i hli) hin h
        rw [hun] at this; cases this
  refine ⟨?_, ?_, hanc⟩
  · refine execOp_congr o (Region.noSelect_spec (chk_sel hc) j o · · hj) fun x hx => ?_
    cases x with
    | tmp t =>
      have ht : t ∈ o.looksAt ops := List.mem_append_left _ (List.mem_filterMap.2 ⟨.tmp t, by simpa using hx, rfl⟩)
      have := same t ht
      simp only [Act.eval, Array.getD_eq_getD_getElem?, this]
    | _ => rfl
  · unfold Region.wanted
    cases hg : o.guard with
    | none => rfl
    | some gw =>
      obtain ⟨g, want⟩ := gw
      have hy : yielded ops a'.tmps g = yielded ops (putAll ops vs (D.getD j []) a).tmps g := by
        unfold yielded
        cases ht : (ops[g]?).bind (·.dst) with
        | none => rfl
        | some t =>
          have := same t (List.mem_append_right _ (by simp [hg, ht]))
          simp only [Option.bind_some, this]
      simp only [hy]

theorem inv_stepR (R : World → World → Prop) (hc : chk ops M D outs [] N = true) (hso : soles.all (chkSP ops M D outs pures) = true) (hpu : ∀ i, pures.contains i = true → ∀ v w w', F i v w → F i v w') {listed : Array Bool} {vs : Nat → Value} {a' : Act} {w' : World} (hI : InvR ops D outs N ss S F a listed vs a' w') {j : Nat} {o : Oper} (hj : ops[j]? = some o)
    (hd : ∀ d ∈ deps ops j, listed.getD d false = true) (hun : listed.getD j true = false)
    (hstab : ∀ i v w w', F i v w → R w w' → F i v w') (v : Value) (w2 : World) (hF : F j v w2) (hS : S (done ss listed + (ss.filter fun s => j == s).length) w2) (hT : soles.contains j = true ∨ R w' w2) :
    InvR ops D outs N ss S F a (listed.setIfInBounds j true) (fun i => if i = j then v else vs i) (a'.put o.dst v) w2 := by
  have hlt := (Array.getElem?_eq_some_iff.1 hj).1
  have hls : j < listed.size := by rw [hI.size]; exact hlt
  have hunf : listed.getD j false = false := by simp [hls] at hun ⊢; exact hun
  have hdj : dst ops j = o.dst := by unfold dst; rw [hj]; rfl
  have hS2 : S (done ss (listed.setIfInBounds j true)) w2 := by rw [done_set hls hunf]; exact hS
  refine ⟨by simpa using hI.size, ?_, by rw [put_defers]; exact hI.dfs, by rw [put_size]; exact hI.n, ?_, ?_, hS2, ?_⟩
  · intro k hk d hdk
    rcases getD_set hk with rfl | hk
    · exact getD_set_true (hd d hdk)
    · exact getD_set_true (hI.closed k hk d hdk)
  · intro i d hi hdi
    by_cases e : i = j
    · subst e
      rw [hdj] at hdi
      rw [hdi, put_same _ _ _ (by rw [hI.n]; exact dst_lt hc (by rw [hdj]; exact hdi)), if_pos rfl]
    · rw [if_neg e]
      rcases getD_set hi with h | h
      · exact absurd h e
      · rw [put_other _ _ _ _ (fun he => e (dst_inj hc i j d hdi (by rw [hdj]; exact he)))]
        exact hI.new i d h hdi
  · intro t ht
    have hjt : dst ops j ≠ some t := ht j (by simp [hls])
    rw [put_other _ _ _ _ (by rw [← hdj]; exact hjt)]
    exact hI.old t fun i hi => ht i (getD_set_true hi)
  · intro i hi hn
    by_cases e : i = j
    · subst e; rw [if_pos rfl]; exact hF
    · rw [if_neg e]
      rcases getD_set hi with h | h
      · exact absurd h e
      have hold : Need D outs ops listed i := by
        rcases hn with ho | ⟨k, hk1, hk2, hk3⟩
        · exact .inl ho
        · by_cases ek : j = k
          · subst ek; simp [hls] at hk2
          · rw [getD_set_ne true ek] at hk2
            exact .inr ⟨k, hk1, hk2, hk3⟩
      by_cases hpi : pures.contains i = true
      · exact hpu i hpi _ _ _ (hI.f i h hold)
      rcases hT with hs | hb
      · -- nobody else's fact is wanted any more
        exfalso
        have hk := List.all_eq_true.1 hso j (by simpa using hs)
        unfold chkSP at hk
        simp only [Bool.and_eq_true, List.all_eq_true, List.mem_range, Bool.or_eq_true, beq_iff_eq] at hk
        have late : ∀ i, listed.getD i false = true → bit M i j = true → False := fun i hi hb => by
          have := anc_listed hc hI.closed i j (hI.closed i hi) (by rw [← hI.size]; exact listed_lt hi) hb
          rw [hunf] at this; cases this
        rcases hn with ho | ⟨k, hk1, hk2, hk3⟩
        · rcases hk.2 i ho with (h1 | h1) | h1
          · exact hpi h1
          · exact e h1
          · exact late i h h1
        · have hkj : k ≠ j := by
            intro e2
            subst e2
            simp [hls] at hk2
          rw [getD_set_ne true (Ne.symm hkj)] at hk2
          rcases hk.1 k hk1 with (h1 | h1) | h1
          · exact hkj h1
          · have := anc_listed hc hI.closed j k hd hlt h1
            have hks : k < listed.size := by rw [hI.size]; exact hk1
            simp [hks] at hk2 this
            rw [hk2] at this; cases this
          · rcases h1 i hk3 with (h2 | h2) | h2
            · exact hpi h2
            · exact e h2
            · exact late i h h2
      · exact hstab i _ _ _ (hI.f i h hold) hb

theorem wp_freeR (R : World → World → Prop) (hc : chk ops M D outs [] N = true) (hso : soles.all (chkSP ops M D outs pures) = true) (hpu : ∀ i, pures.contains i = true → ∀ v w w', F i v w → F i v w') {id : Nat} {w : World} (hm : P.follows .mixedOrders = true) (hN : a.tmps.size = N)
    (hstab : ∀ i v w w', F i v w → R w w' → F i v w') (hsz : (ss.all fun s => decide (s < ops.size)) = true) (hS : S 0 w.drew)
    (hstep : ∀ j o, ops[j]? = some o → ∀ st, agrees M ss j st → ∀ w', S st w' → Told ops F w' (D.getD j []) a (StepAtR R P ops (S (st + (ss.filter fun s => j == s).length)) F soles j o a.defers w'))
    (hend : ∀ w', S ss.length w' → ToldE ops F outs w' (List.range ops.size) a (fun a' => Q .normal a' w')) : (Code.region id ops true).wp P Q a w := by
  refine wp_region_any hm ?_
  suffices H : ∀ (fuel : Nat) (listed : Array Bool) (vs : Nat → Value) (a' : Act) (w' : World), InvR ops D outs N ss S F a listed vs a' w' → cnt ops.size listed ≤ fuel → wpAny P .any ops Q fuel listed a' w' by
    have hS0 : S (done ss (Array.replicate ops.size false)) w.drew := by
      have : done ss (Array.replicate ops.size false) = 0 := by
        unfold done
        rw [List.length_eq_zero_iff, List.filter_eq_nil_iff]
        intro x hx
        rw [List.all_eq_true] at hsz
        have hx := of_decide_eq_true (hsz x hx)
        rw [Array.getD_eq_getD_getElem?, Array.getElem?_replicate, if_pos hx]
        simp
      rw [this]; exact hS
    refine H _ _ (fun _ => undef) _ _ ⟨by simp, ?_, rfl, hN, ?_, fun _ _ => rfl, hS0, ?_⟩ ?_
    · intro j hj; exfalso; have hl := listed_lt hj; simp at hl hj; simp [hl] at hj
    · intro j d hj; exfalso; have hl := listed_lt hj; simp at hl hj; simp [hl] at hj
    · intro j hj; exfalso; have hl := listed_lt hj; simp at hl hj; simp [hl] at hj
    · unfold cnt; exact Nat.le_trans List.countP_le_length (by simp)
  have fin : ∀ (listed : Array Bool) (vs : Nat → Value) (a' : Act) (w' : World), InvR ops D outs N ss S F a listed vs a' w' → Region.ready .any ops listed = [] → Q .normal a' w' := by
    intro listed vs a' w' hI hr
    have hall := none_ready hc hI.size hr
    have ho : ∀ i ∈ outs, F i (vs i) w' := fun i hi => by
      have hlt : i < ops.size := by
        unfold chk at hc
        simp only [Bool.and_eq_true, List.all_eq_true] at hc
        exact of_decide_eq_true (hc.2 i hi)
      exact hI.f i (hall i hlt) (.inl hi)
    have hst : S ss.length w' := by
      have := hI.st
      have e : done ss listed = ss.length := by
        unfold done
        rw [List.filter_eq_self.2]
        intro x hx
        rw [List.all_eq_true] at hsz
        exact hall x (of_decide_eq_true (hsz x hx))
      rw [e] at this
      exact this
    have := (hend w' hst).all vs ho _ _
    have e : putAll ops vs (List.range ops.size) a = a' := by
      have e1 : (putAll ops vs (List.range ops.size) a).defers = a'.defers := by rw [putAll_defers, hI.dfs]
      have e2 : (putAll ops vs (List.range ops.size) a).tmps = a'.tmps := by
        apply Array.ext_getElem?
        intro t
        by_cases hex : ∃ i, i < ops.size ∧ dst ops i = some t
        · obtain ⟨i, hi, hdi⟩ := hex
          rw [putAll_in vs (dst_inj hc) _ i t hdi a (List.mem_range.2 hi) (by rw [hN]; exact dst_lt hc hdi), hI.new i t (hall i hi) hdi]
        · rw [putAll_out vs _ t a (fun i hi e => hex ⟨i, List.mem_range.1 hi, e⟩)]
          exact (hI.old t fun i hi e => hex ⟨i, by rw [← hI.size]; exact listed_lt hi, e⟩).symm
      cases h1 : putAll ops vs (List.range ops.size) a
      cases h2 : a'
      rw [h1, h2] at e1 e2
      simp only at e1 e2
      rw [e1, e2]
    rw [e] at this
    exact this
  intro fuel
  induction fuel with
  | zero =>
    intro listed vs a' w' hI hcn
    have hr : Region.ready .any ops listed = [] := by
      rw [List.eq_nil_iff_forall_not_mem]
      intro j hj
      obtain ⟨hl, o, ho, _⟩ := mem_ready.1 hj
      have := cnt_set (Array.getElem?_eq_some_iff.1 ho).1 hI.size hl
      omega
    exact ⟨hr, fin _ _ _ _ hI hr⟩
  | succ fuel ih =>
    intro listed vs a' w' hI hcn
    refine ⟨fin _ _ _ _ hI, fun j hj => ?_⟩
    obtain ⟨hun, o, hjo, hall⟩ := mem_ready.1 hj
    have hlt := (Array.getElem?_eq_some_iff.1 hjo).1
    have hls : j < listed.size := by rw [hI.size]; exact hlt
    have hunf : listed.getD j false = false := by simp [hls] at hun ⊢; exact hun
    have hd : ∀ d ∈ deps ops j, listed.getD d false = true := fun d hdm => by
      unfold deps at hdm
      rw [hjo] at hdm
      obtain ⟨e, he, rfl⟩ := List.mem_map.1 hdm
      obtain ⟨he1, he2⟩ := List.mem_filter.1 he
      exact hall e (by simpa using he1) he2
    obtain ⟨hex, hwn, hlD⟩ := seesR hc hI hN hjo hd hunf
    have hcn2 := cnt_set hlt hI.size hun
    have hsz' : ∀ x ∈ ss, x < ops.size := fun x hx => by
      rw [List.all_eq_true] at hsz
      exact of_decide_eq_true (hsz x hx)
    have hag : agrees M ss j (done ss listed) := by
      refine ⟨filter_le ss fun x hx h => anc_listed hc hI.closed j x hd hlt h, filter_le ss fun x hx h => ?_⟩
      simp only [Bool.not_eq_true', Bool.or_eq_false_iff, beq_eq_false_iff_ne]
      refine ⟨fun e => ?_, ?_⟩
      · subst e; rw [hunf] at h; cases h
      · cases hb : bit M x j with
        | false => rfl
        | true =>
          have := anc_listed hc hI.closed x j (hI.closed x h) (hsz' x hx) hb
          rw [hunf] at this; cases this
    have hst := (hstep j o hjo _ hag w' hI.st).all vs _ _ fun i hi => hI.f i (hlD i hi) (.inr ⟨j, hlt, hun, hi⟩)
    have hst2 := hst (fun v w2 => wpAny P .any ops Q fuel (listed.setIfInBounds j true) (a'.put o.dst v) w2)
      (fun v w2 hF hS2 hT => ih _ _ _ _ (inv_stepR R hc hso hpu hI hjo hd hun hstab v w2 hF hS2 hT) (by omega))
    have hdfs : (putAll ops vs (D.getD j []) a).defers = a.defers := putAll_defers _ _ _
    have hval : ∀ v, a'.put o.dst (valOf o.dst ((putAll ops vs (D.getD j []) a).put o.dst v)) = a'.put o.dst v := fun v => by
      cases ho : o.dst with
      | none => rfl
      | some d =>
        have hdl : d < N := dst_lt hc (i := j) (by unfold dst; rw [hjo]; exact ho)
        have : ((putAll ops vs (D.getD j []) a).put (some d) v).tmps[d]? = some v := put_same _ _ _ (by rw [putAll_size, hN]; exact hdl)
        unfold valOf
        simp only [Array.getD_eq_getD_getElem?, this, Option.getD_some]
    unfold wpOp
    simp only [hjo]
    rw [hwn]
    split
    · rename_i hw
      rw [if_pos hw] at hst2
      refine .inl ?_
      unfold Oper.wp at hst2 ⊢
      rw [hex]
      generalize (execOp (putAll ops vs (D.getD j []) a).eval o).run P w' = r at *
      cases r with
      | ok n w2 =>
        cases n <;> simp only [Oper.upon] at hst2 ⊢
        case value v => have := hst2.2; rw [hval] at this; exact this
        case skip => have := hst2.2; rw [hval] at this; exact this
        case defer d => exact absurd hst2.1 (by rw [put_defers]; show ¬ (d :: _) = _; rw [hdfs]; exact List.cons_ne_self _ _)
        case enter f args =>
          refine Calls.mono hst2 fun e w3 he => ?_
          cases e with
          | returned v => have := he.2; rw [hval] at this; exact this
          | panicked c => exact he.elim
          | outgrown => obtain ⟨_, _, h⟩ := he; exact h.elim
        case row row args => exact Rows.mono hst2 fun v w3 he => by have := he.2; rw [hval] at this; exact this
      | halt x w2 => cases x <;> simp only [Oper.upon] at hst2 ⊢
    · rename_i hw
      rw [if_neg hw] at hst2
      exact hst2
end
/-- A fact on a value that R leaves true. -/
structure FactR (R : World → World → Prop) where
  f : Value → World → Prop
  stab : ∀ v w w', f v w → R w w' → f v w'
  pure : Bool := false
  ispure : pure = true → ∀ v w w', f v w → f v w' := by intro h; cases h
/-- It is x. -/
def FactR.is {R : World → World → Prop} (x : Value) : FactR R := ⟨fun v _ => v = x, fun _ _ _ h _ => h, true, fun _ _ _ _ h => h⟩
def FactR.any {R : World → World → Prop} : FactR R := { f := fun _ _ => True, stab := fun _ _ _ _ _ => trivial }
def factsR {R : World → World → Prop} (L : List (FactR R)) (i : Nat) (v : Value) (w : World) : Prop := (L.getD i FactR.any).f v w
theorem oR {R : World → World → Prop} {F : Value → World → Prop} {S : World → Prop} {b : Bool} {w : World} {K : Value → World → Prop} {v : Value} (hK : Shut (∀ v w', F v w' → S w' → (b = true ∨ R w w') → K v w')) (hR : R w w) (hS : S w) (hf : F v w) : K v w := hK.out _ _ hf hS (.inr hR)
theorem cR {R : World → World → Prop} {F : Value → World → Prop} {S : World → Prop} {b : Bool} {w w' : World} {K : Value → World → Prop} {v : Value} (hK : Shut (∀ v w', F v w' → S w' → (b = true ∨ R w w') → K v w')) (hS : S w') (hR : R w w') (hf : F v w') : K v w' := hK.out _ _ hf hS (.inr hR)
/-- **A region whose order is open**, by what each operation leaves, written out. -/
theorem wp_factsR {R : World → World → Prop} {ss : List Nat} {M : List Nat} {D : List (List (Nat × Tmp))} {outs soles pures : List Nat} {E : List (Nat × Tmp × Bool)} {N : Nat} {id : Nat} {w : World} {a : Act} {Q : Exit → Act → World → Prop} {S : Nat → World → Prop} (L : List (FactR R))
    (hm : P.follows .mixedOrders = true) (hc : chk' ops M D outs [] E N = true) (hso : soles.all (chkSP ops M (D.map fun l => l.map (·.1)) outs pures) = true) (hp : (pures.all fun i => (L.getD i FactR.any).pure) = true) (hN : a.tmps.size = N) (hsz : (ss.all fun s => decide (s < ops.size)) = true) (hS : S 0 w.drew)
    (hstep : StepsFrom (fun j o => ∀ st, agrees M ss j st → ∀ w', S st w' → Told' (factsR L) w' (D.getD j []) a (StepAtR R P ops (S (st + (ss.filter fun s => j == s).length)) (factsR L) soles j o a.defers w')) 0 ops.toList)
    (hend : ∀ w', S ss.length w' → ToldE' (factsR L) w' E a (fun a' => Q .normal a' w')) : (Code.region id ops true).wp P Q a w := by
  unfold chk' at hc
  simp only [Bool.and_eq_true, beq_iff_eq] at hc
  obtain ⟨⟨hc1, hc2⟩, hc3⟩ := hc
  refine wp_freeR R hc1 hso (fun i hi v w w' h => (L.getD i FactR.any).ispure (List.all_eq_true.1 hp i (by simpa using hi)) v w w' h) (F := factsR L) (S := S) hm hN (fun i v w w' h hb => (L.getD i FactR.any).stab v w w' h hb) hsz hS ?_ ?_
  · intro j o hj st hag w' hw'
    have h := StepsFrom.all ops.toList 0 hstep j o (by simpa using hj)
    rw [Nat.zero_add] at h
    have h2 := h st hag w' hw'
    have e : (D.map fun l => l.map (·.1)).getD j [] = (D.getD j []).map (·.1) := by
      simp only [List.getD_eq_getElem?_getD, List.getElem?_map]
      cases D[j]? <;> rfl
    rw [e]
    refine Told'.told _ _ ?_ h2
    cases hd : D[j]? with
    | none => simp [List.getD_eq_getElem?_getD, hd]
    | some l =>
      rw [List.all_eq_true] at hc2
      simp only [List.getD_eq_getElem?_getD, hd, Option.getD_some]
      exact hc2 l (List.mem_of_getElem? hd)
  · intro w' hw'
    refine ToldE'.told _ _ ?_
    rw [hc3]
    exact hend w' hw'
theorem wp_factsRW {R : World → World → Prop} {ss : List Nat} {M : List Nat} {D : List (List (Nat × Tmp))} {outs soles pures : List Nat} {E : List (Nat × Option Tmp × Bool)} {N : Nat} {id : Nat} {w : World} {a : Act} {Q : Exit → Act → World → Prop} {S : Nat → World → Prop} (L : List (FactR R))
    (hm : P.follows .mixedOrders = true) (hc : chkW ops M D outs [] E N = true) (hso : soles.all (chkSP ops M (D.map fun l => l.map (·.1)) outs pures) = true) (hp : (pures.all fun i => (L.getD i FactR.any).pure) = true) (hN : a.tmps.size = N) (hsz : (ss.all fun s => decide (s < ops.size)) = true) (hS : S 0 w.drew)
    (hstep : StepsFrom (fun j o => ∀ st, agrees M ss j st → ∀ w', S st w' → Told' (factsR L) w' (D.getD j []) a (StepAtR R P ops (S (st + (ss.filter fun s => j == s).length)) (factsR L) soles j o a.defers w')) 0 ops.toList)
    (hend : ∀ w', S ss.length w' → ToldW (factsR L) w' E a (fun a' => Q .normal a' w')) : (Code.region id ops true).wp P Q a w := by
  unfold chkW at hc
  simp only [Bool.and_eq_true, beq_iff_eq] at hc
  obtain ⟨⟨hc1, hc2⟩, hc3⟩ := hc
  refine wp_freeR R hc1 hso (fun i hi v w w' h => (L.getD i FactR.any).ispure (List.all_eq_true.1 hp i (by simpa using hi)) v w w' h) (F := factsR L) (S := S) hm hN (fun i v w w' h hb => (L.getD i FactR.any).stab v w w' h hb) hsz hS ?_ ?_
  · intro j o hj st hag w' hw'
    have h := StepsFrom.all ops.toList 0 hstep j o (by simpa using hj)
    rw [Nat.zero_add] at h
    have h2 := h st hag w' hw'
    have e : (D.map fun l => l.map (·.1)).getD j [] = (D.getD j []).map (·.1) := by
      simp only [List.getD_eq_getElem?_getD, List.getElem?_map]
      cases D[j]? <;> rfl
    rw [e]
    refine Told'.told _ _ ?_ h2
    cases hd : D[j]? with
    | none => simp [List.getD_eq_getElem?_getD, hd]
    | some l =>
      rw [List.all_eq_true] at hc2
      simp only [List.getD_eq_getElem?_getD, hd, Option.getD_some]
      exact hc2 l (List.mem_of_getElem? hd)
  · intro w' hw'
    refine ToldW.told _ _ ?_
    rw [hc3]
    exact hend w' hw'
end Free
end Go.Proofs.Ytjpgiohdaadieaa
/- Answers alike, logs alike: clog's, and the document's. -/
namespace Go.Proofs.Ytjpgiohdaadieaa
open Go.ChangeShapes Go.WideShapes Go.ChangeAt Go.RowKit
open Go.ChangeMaps (open_string shut_string)
set_option linter.unusedVariables false
set_option linter.unusedSimpArgs false
set_option maxRecDepth 100000
open Go.Deep

def sameA (k : Int) (V : List ValR) (k2 : Int) (V2 : List ValR) : Bool := k == k2 && allV V V2
def same1T (a b : TolR) : Bool := a.n == b.n && sameA a.k a.V b.k b.V
/-- Are all alike? -/
def sameT (L M : List TolR) : Bool := L.length == M.length && (List.range L.length).all fun i => same1T (L.getD i default) (M.getD i default)
def sameG (g h : LogR) : Bool := g.e == h.e && sameT g.T h.T
theorem sameA_iff {k : Int} {V : List ValR} {k2 : Int} {V2 : List ValR} : sameA k V k2 V2 = true ↔ k = k2 ∧ V = V2 := by
  unfold sameA
  rw [Bool.and_eq_true, beq_iff_eq, allV_iff]
theorem same1T_iff {a b : TolR} : same1T a b = true ↔ a = b := by
  obtain ⟨n, k, V⟩ := a
  obtain ⟨n2, k2, V2⟩ := b
  unfold same1T
  rw [Bool.and_eq_true, beq_iff_eq, sameA_iff]
  simp
theorem sameT_len {L M : List TolR} (h : L.length ≠ M.length) : sameT L M = false := by
  unfold sameT
  rw [beq_eq_false_iff_ne.2 h]
  rfl
theorem sameT_no {L M : List TolR} {i : Nat} {a b : TolR} (ha : L[i]? = some a) (hb : M[i]? = some b) (h : same1T a b = false) : sameT L M = false := by
  have hi := (List.getElem?_eq_some_iff.1 ha).1
  unfold sameT
  rw [Bool.and_eq_false_iff]
  right
  rw [List.all_eq_false]
  refine ⟨i, List.mem_range.2 hi, ?_⟩
  simp [List.getD, ha, hb, h]
theorem sameT_yes {L M : List TolR} (hl : L.length = M.length) (h : ∀ i a b, i < L.length → L[i]? = some a → M[i]? = some b → same1T a b = true) : sameT L M = true := by
  unfold sameT
  rw [hl, beq_self_eq_true, Bool.true_and, List.all_eq_true]
  intro i hi
  have hi := List.mem_range.1 hi
  have h1 := List.getElem?_eq_getElem (l := L) (by omega : i < L.length)
  have h2 := List.getElem?_eq_getElem hi
  simp only [List.getD, h1, h2, Option.getD_some]
  exact h i _ _ (by omega) h1 h2
theorem sameT_iff {L M : List TolR} : sameT L M = true ↔ L = M := by
  constructor
  · intro h
    have hl : L.length = M.length := by
      rcases Nat.lt_trichotomy L.length M.length with hh | hh | hh
      · rw [sameT_len (by omega)] at h; cases h
      · exact hh
      · rw [sameT_len (by omega)] at h; cases h
    apply List.ext_getElem?
    intro i
    by_cases hi : i < L.length
    · have h1 := List.getElem?_eq_getElem hi
      have h2 := List.getElem?_eq_getElem (l := M) (by omega : i < M.length)
      rw [h1, h2]
      by_cases hs : same1T L[i] M[i] = true
      · rw [same1T_iff.1 hs]
      · rw [sameT_no h1 h2 (by simpa using hs)] at h; cases h
    · rw [List.getElem?_eq_none (by omega), List.getElem?_eq_none (by omega)]
  · rintro rfl
    exact sameT_yes rfl (fun i a b _ ha hb => by rw [ha] at hb; injection hb with hb; rw [hb]; exact same1T_iff.2 rfl)
theorem sameG_iff {g h : LogR} : sameG g h = true ↔ g = h := by
  obtain ⟨e, T⟩ := g
  obtain ⟨e2, T2⟩ := h
  unfold sameG
  rw [Bool.and_eq_true, beq_iff_eq, sameT_iff]
  simp
theorem clog_sameA (k : Int) (A : Option Addr) (n c : Nat) (V : List ValR) (k2 : Int) (A2 : Option Addr) (n2 c2 : Nat) (V2 : List ValR) (w : World) (h : RV w A n c V) (h2 : RV w A2 n2 c2 V2) :
    Calls Try.prog 11 #[.agg #[.int .i64 k, .slice A n c], .agg #[.int .i64 k2, .slice A2 n2 c2]] w fun e w' => e = .returned (.bool (sameA k V k2 V2)) ∧ Below w.heap.size w w' := by
  obtain ⟨y, hy⟩ : ∃ y, allV V V2 = y := ⟨_, rfl⟩
  have HE := Lib.hid (fun w h h2 => hy ▸ equal_vals A n c V A2 n2 c2 V2 w h h2)
  obtain ⟨R, hR⟩ : ∃ R, sameA k V k2 V2 = R := ⟨_, rfl⟩
  rw [hR]
  unfold sameA at hR
  rw [hy] at hR
  have hres := Lib.hid hR
  clear hR hy
  have bb : Below w.heap.size w ((w.alloc (.cells #[.int .i64 k, .slice A n c] 35)).alloc (.cells #[.int .i64 k2, .slice A2 n2 c2] 35)) := (by repeat (first | exact Below.refl _ _ | assumption | apply below_drewN' | apply Below.drew | refine Below.alloc ?_ (by first | omega | (simp; done) | (simp; omega)) _ | refine Below.setCell ?_ (by first | omega | (simp; done) | (simp; omega)) _))
  by_cases e : k = k2
  · have e1 : (k == k2) = true := by rw [beq_iff_eq]; exact e
    have e2 := Lib.hid e1
    clear e
    go_enter Try.func11, Try.ntmps11
    go_wp2_with fail
    refine (HE.out _ (h.below bb) (h2.below bb)).mono ?_
    rintro x w2 ⟨rfl, b2⟩
    have b3 := Below.next bb b2 (Nat.le_refl _)
    go_wp2
    go_ret
    exact ⟨(show Ending.returned (.bool y) = .returned (.bool R) from by rw [← hres.out, e2.out]; rfl), b3⟩
  · have e1 : (k == k2) = false := by rw [beq_eq_false_iff_ne]; exact e
    have e2 := Lib.hid e1
    clear e
    go_enter Try.func11, Try.ntmps11
    go_wp2
    go_ret
    exact ⟨(show Ending.returned (.bool false) = .returned (.bool R) from by rw [← hres.out, e2.out]; rfl), bb⟩
theorem ref_answer (k : Int) (A : Option Addr) (n c : Nat) (V : List ValR) (k2 : Int) (A2 : Option Addr) (n2 c2 : Nat) (V2 : List ValR) (w : World) (h : RV w A n c V) (h2 : RV w A2 n2 c2 V2) :
    Calls Try.prog 18 #[.agg #[.int .i64 k, .slice A n c], .agg #[.int .i64 k2, .slice A2 n2 c2]] w fun e w' => e = .returned (.bool (sameA k V k2 V2)) ∧ Below w.heap.size w w' := by
  obtain ⟨y, hy⟩ : ∃ y, allV V V2 = y := ⟨_, rfl⟩
  have HE := Lib.hid (fun w h h2 => hy ▸ ref_values A n c V A2 n2 c2 V2 w h h2)
  obtain ⟨R, hR⟩ : ∃ R, sameA k V k2 V2 = R := ⟨_, rfl⟩
  rw [hR]
  unfold sameA at hR
  rw [hy] at hR
  have hres := Lib.hid hR
  clear hR hy
  have bb : Below w.heap.size w ((w.alloc (.cells #[.int .i64 k, .slice A n c] 35)).alloc (.cells #[.int .i64 k2, .slice A2 n2 c2] 35)) := (by repeat (first | exact Below.refl _ _ | assumption | apply below_drewN' | apply Below.drew | refine Below.alloc ?_ (by first | omega | (simp; done) | (simp; omega)) _ | refine Below.setCell ?_ (by first | omega | (simp; done) | (simp; omega)) _))
  by_cases e : k = k2
  · have e1 : (k == k2) = true := by rw [beq_iff_eq]; exact e
    have e2 := Lib.hid e1
    clear e
    go_enter Try.func18, Try.ntmps18
    go_wp2_with fail
    refine (HE.out _ (h.below bb) (h2.below bb)).mono ?_
    rintro x w2 ⟨rfl, b2⟩
    have b3 := Below.next bb b2 (Nat.le_refl _)
    go_wp2
    go_ret
    exact ⟨(show Ending.returned (.bool y) = .returned (.bool R) from by rw [← hres.out, e2.out]; rfl), b3⟩
  · have e1 : (k == k2) = false := by rw [beq_eq_false_iff_ne]; exact e
    have e2 := Lib.hid e1
    clear e
    go_enter Try.func18, Try.ntmps18
    go_wp2
    go_ret
    exact ⟨(show Ending.returned (.bool false) = .returned (.bool R) from by rw [← hres.out, e2.out]; rfl), bb⟩
theorem clog_same1 (a b : TolR) (A : Option Addr) (n c : Nat) (A2 : Option Addr) (n2 c2 : Nat) (r : Bool) (w : World) (h : RV w A n c a.V) (h2 : RV w A2 n2 c2 b.V) (hr : same1T a b = r) :
    Calls Try.prog 50 #[.agg #[.int .i64 a.n, .int .i64 a.k, .slice A n c], .agg #[.int .i64 b.n, .int .i64 b.k, .slice A2 n2 c2]] w fun e w' => e = .returned (.bool r) ∧ Below w.heap.size w w' := by
  have bb : Below w.heap.size w ((w.alloc (.cells #[.int .i64 a.n, .int .i64 a.k, .slice A n c] 37)).alloc (.cells #[.int .i64 b.n, .int .i64 b.k, .slice A2 n2 c2] 37)) := (by repeat (first | exact Below.refl _ _ | assumption | apply below_drewN' | apply Below.drew | refine Below.alloc ?_ (by first | omega | (simp; done) | (simp; omega)) _ | refine Below.setCell ?_ (by first | omega | (simp; done) | (simp; omega)) _))
  obtain ⟨y, hy⟩ : ∃ y, sameA a.k a.V b.k b.V = y := ⟨_, rfl⟩
  have HE := Lib.hid (fun w h h2 => hy ▸ clog_sameA a.k A n c a.V b.k A2 n2 c2 b.V w h h2)
  unfold same1T at hr
  rw [hy] at hr
  have hr := Lib.hid hr
  clear hy
  by_cases e : a.n = b.n
  · have e1 : (a.n == b.n) = true := by rw [beq_iff_eq]; exact e
    have e2 := Lib.hid e1
    clear e
    go_enter Try.func50, Try.ntmps50
    go_wp2_with fail
    refine (HE.out _ (h.below bb) (h2.below bb)).mono ?_
    rintro x w2 ⟨rfl, b2⟩
    have b3 := Below.next bb b2 (Nat.le_refl _)
    go_wp2
    go_ret
    exact ⟨(show Ending.returned (.bool y) = .returned (.bool r) from by rw [← hr.out, e2.out]; rfl), b3⟩
  · have e1 : (a.n == b.n) = false := by rw [beq_eq_false_iff_ne]; exact e
    have e2 := Lib.hid e1
    clear e
    go_enter Try.func50, Try.ntmps50
    go_wp2
    go_ret
    exact ⟨(show Ending.returned (.bool false) = .returned (.bool r) from by rw [← hr.out, e2.out]; rfl), bb⟩
set_option maxHeartbeats 4000000 in
theorem clog_equal (A : Option Addr) (n c : Nat) (L : List TolR) (A2 : Option Addr) (n2 c2 : Nat) (M : List TolR) (w : World) (h : RT w A n c L) (h2 : RT w A2 n2 c2 M) :
    Calls Try.prog 49 #[.slice A n c, .slice A2 n2 c2, .func (.func 50) #[] #[]] w fun e w' => e = .returned (.bool (sameT L M)) ∧ Below w.heap.size w w' := by
  obtain ⟨R, hR⟩ : ∃ R, sameT L M = R := ⟨_, rfl⟩
  rw [hR]
  have hres := Lib.hid hR
  clear hR
  have hnm := h.size
  have hnm2 := h2.size
  have hLn := h.len
  have hMn := h2.len
  by_cases hl : n = n2
  rotate_left
  · have hno := Lib.hid (sameT_len (L := L) (M := M) (by omega))
    have e1 : ((n : Int) != (n2 : Int)) = true := by rw [bne_iff_ne]; omega
    go_enter Try.func49, Try.ntmps49
    go_wp2
    go_ret
    exact ⟨(show Ending.returned (.bool false) = .returned (.bool R) from by rewrite [← hres.out, hno.out]; rfl), Below.refl _ _⟩
  subst hl
  go_enter Try.func49, Try.ntmps49
  go_wp2
  go_loopw [17] (fun i wr => ∃ k : Nat, k ≤ n ∧ i = .int .i64 k ∧ Below w.heap.size w wr ∧ Hid (∀ i a b, i < k → L[i]? = some a → M[i]? = some b → same1T a b = true)) (fun i _ => n - (intOf i).toNat)
  case atStart => exact ⟨0, by omega, rfl, (by repeat (first | exact Below.refl _ _ | assumption | apply below_drewN' | apply Below.drew | refine Below.alloc ?_ (by first | omega | (simp; done) | (simp; omega)) _ | refine Below.setCell ?_ (by first | omega | (simp; done) | (simp; omega)) _)), Lib.hid (fun i a b hi => absurd hi (by omega))⟩
  case round =>
    obtain ⟨k, hk, rfl, bl, hall⟩ := hrel
    by_cases hlt : k < n
    · obtain ⟨p, hp⟩ : ∃ p, L[k]? = some p := ⟨_, List.getElem?_eq_getElem (by omega)⟩
      obtain ⟨q, hq⟩ : ∃ q, M[k]? = some q := ⟨_, List.getElem?_eq_getElem (by omega)⟩
      obtain ⟨g, o, rfl, hc⟩ := (h.below bl).at_ (by omega)
      obtain ⟨B, m, kk, hE, hc0, hc1, hc2⟩ := hc k p hp
      obtain ⟨g2, o2, rfl, hd⟩ := (h2.below bl).at_ (by omega)
      obtain ⟨B2, m2, kk2, hE2, hd0, hd1, hd2⟩ := hd k q hq
      have hph := Lib.hid hp
      have hqh := Lib.hid hq
      clear hc hd hp hq
      obtain ⟨r, hr⟩ : ∃ r, same1T p q = r := ⟨_, rfl⟩
      have HS := Lib.hid (fun w h h2 => clog_same1 p q B m kk B2 m2 kk2 r w h h2 hr)
      have hr := Lib.hid hr
      have hg := World.block_lt_of_cell? wr _ hd0
      have bx : Below wr.heap.size wr ((wr.alloc (.cells #[.int .i64 p.n, .int .i64 p.k, .slice B m kk] 37)).alloc (.cells #[.int .i64 q.n, .int .i64 q.k, .slice B2 m2 kk2] 37)) := (by repeat (first | exact Below.refl _ _ | assumption | apply below_drewN' | apply Below.drew | refine Below.alloc ?_ (by first | omega | (simp; done) | (simp; omega)) _ | refine Below.setCell ?_ (by first | omega | (simp; done) | (simp; omega)) _))
      have bl2 := Below.next bl bx (Nat.le_refl _)
      have bx1 : Below wr.heap.size wr (wr.alloc (.cells #[.int .i64 p.n, .int .i64 p.k, .slice B m kk] 37)) := (by repeat (first | exact Below.refl _ _ | assumption | apply below_drewN' | apply Below.drew | refine Below.alloc ?_ (by first | omega | (simp; done) | (simp; omega)) _ | refine Below.setCell ?_ (by first | omega | (simp; done) | (simp; omega)) _))
      have hd0' := (bx1.cell (p := ⟨g2, o2 + k * 3, none⟩) hg).trans hd0
      have hd1' := (bx1.cell (p := ⟨g2, o2 + k * 3 + 1, none⟩) hg).trans hd1
      have hd2' := (bx1.cell (p := ⟨g2, o2 + k * 3 + 2, none⟩) hg).trans hd2
      go_wp2_with fail
      refine (HS.out _ (hE.below bx) (hE2.below bx)).mono ?_
      rintro e w2 ⟨rfl, hb⟩
      replace bl2 := Below.next bl2 hb (Nat.le_refl _)
      clear bx bx1 hd0' hd1' hd2' hb hE hE2 hc0 hc1 hc2 hd0 hd1 hd2
      cases r with
      | true =>
        go_wp2
        go_roundw
        case rel =>
          refine ⟨k + 1, by omega, by go_num, bl2, Lib.hid fun i a b hi ha hb => ?_⟩
          by_cases ei : i = k
          · subst ei; rw [hph.out] at ha; rw [hqh.out] at hb; injection ha with ha; injection hb with hb; rw [← ha, ← hb]; exact hr.out
          · exact hall.out i a b (by omega) ha hb
        case measure => simp [intOf]; omega
      | false =>
        have hno := Lib.hid (sameT_no hph.out hqh.out hr.out)
        go_wp2
        go_ret
        exact ⟨(show Ending.returned (.bool false) = .returned (.bool R) from by rewrite [← hres.out, hno.out]; rfl), bl2⟩
    · have hkn : n = k := by omega
      have hyes := Lib.hid (sameT_yes (L := L) (M := M) (by omega) (fun i a b hi ha hb => hall.out i a b (by omega) ha hb))
      subst hkn
      go_wp2
      go_ret
      exact ⟨(show Ending.returned (.bool true) = .returned (.bool R) from by rewrite [← hres.out, hyes.out]; rfl), bl⟩
theorem clog_Same (k : Int) (A : Option Addr) (n c : Nat) (V : List TolR) (k2 : Int) (A2 : Option Addr) (n2 c2 : Nat) (V2 : List TolR) (w : World) (h : RT w A n c V) (h2 : RT w A2 n2 c2 V2) :
    Calls Try.prog 22 #[.agg #[.int .i64 k, .slice A n c], .agg #[.int .i64 k2, .slice A2 n2 c2]] w fun e w' => e = .returned (.bool (sameG ⟨k, V⟩ ⟨k2, V2⟩)) ∧ Below w.heap.size w w' := by
  obtain ⟨y, hy⟩ : ∃ y, sameT V V2 = y := ⟨_, rfl⟩
  have HE := Lib.hid (fun w h h2 => hy ▸ clog_equal A n c V A2 n2 c2 V2 w h h2)
  obtain ⟨R, hR⟩ : ∃ R, sameG ⟨k, V⟩ ⟨k2, V2⟩ = R := ⟨_, rfl⟩
  rw [hR]
  unfold sameG at hR
  simp only at hR
  rw [hy] at hR
  have hres := Lib.hid hR
  clear hR hy
  have bb : Below w.heap.size w ((w.alloc (.cells #[.int .i64 k, .slice A n c] 39)).alloc (.cells #[.int .i64 k2, .slice A2 n2 c2] 39)) := (by repeat (first | exact Below.refl _ _ | assumption | apply below_drewN' | apply Below.drew | refine Below.alloc ?_ (by first | omega | (simp; done) | (simp; omega)) _ | refine Below.setCell ?_ (by first | omega | (simp; done) | (simp; omega)) _))
  by_cases e : k = k2
  · have e1 : (k == k2) = true := by rw [beq_iff_eq]; exact e
    have e2 := Lib.hid e1
    clear e
    go_enter Try.func22, Try.ntmps22
    go_wp2_with fail
    refine (HE.out _ (h.below bb) (h2.below bb)).mono ?_
    rintro x w2 ⟨rfl, b2⟩
    have b3 := Below.next bb b2 (Nat.le_refl _)
    go_wp2
    go_ret
    exact ⟨(show Ending.returned (.bool y) = .returned (.bool R) from by rw [← hres.out, e2.out]; rfl), b3⟩
  · have e1 : (k == k2) = false := by rw [beq_eq_false_iff_ne]; exact e
    have e2 := Lib.hid e1
    clear e
    go_enter Try.func22, Try.ntmps22
    go_wp2
    go_ret
    exact ⟨(show Ending.returned (.bool false) = .returned (.bool R) from by rw [← hres.out, e2.out]; rfl), bb⟩
end Go.Proofs.Ytjpgiohdaadieaa
/- Contracts of bytes.Join of one part, of slab.Writer.Raw of one part. -/
namespace Go.Proofs.Ytjpgiohdaadieaa
open Go.ChangeShapes Go.WideShapes Go.ChangeAt Go.RowKit
open Go.ChangeMaps (open_string shut_string)
set_option linter.unusedVariables false
set_option linter.unusedSimpArgs false
set_option maxRecDepth 100000

def Free.FactR.of (f : Free.Fact) : Free.FactR (fun w w' => Below w.heap.size w w') := { f := f.f, stab := f.stab }
theorem App.below {w w1 w2 : World} {B : Nat} {v v' : Value} {l : List UInt8} (h : App w w1 B v v' l) (hb : Below w1.heap.size w1 w2) : App w w2 B v v' l := ⟨OB.below h.own hb, h.keeps.then_below hb, h.at_⟩
/-- What an append onto v left, in a world that grew out of w. -/
def Free.FactR.app (w : World) (v : Value) (l : List UInt8) : Free.FactR (fun w w' => Below w.heap.size w w') := { f := fun v7 w' => ∃ w1, Below w.heap.size w w1 ∧ App w1 w' 0 v v7 l, stab := fun _ _ _ ⟨w1, h, h2⟩ hb => ⟨w1, h, h2.below hb⟩ }
/-- A writer, one step on. -/
def Free.FactR.wr (w : World) (p : Nat) (v : Value) (l : List UInt8) (br : Bool) : Free.FactR (fun w w' => Below w.heap.size w w') := { f := fun _ w' => ∃ v', Wr w' p v' l br ∧ WStep w w' p v v', stab := fun _ _ _ ⟨v', h, h2⟩ hb => ⟨v', h.below hb, h2.below hb⟩ }
theorem join_one (g t : Nat) (A : Option Addr) (m c : Nat) (l : List UInt8) (w : World) (hg : Blk w g #[.slice A m c] t) (h : RB w A m c l) (hm : m ≤ 1000000) :
    Calls Try.prog 80 #[.slice (some ⟨g, 0, none⟩) 1 1, .slice none 0 0] w fun e w' => ∃ v, e = .returned v ∧ OB w' w.heap.size v l ∧ Below w.heap.size w w' := by
  have hl := h.len
  have c0 := hg.cell 0 (v := .slice A m c) rfl
  go_enter Try.func80, Try.ntmps80
  go_wp2_with (refine wpList_app rfl (.const (.slice none 0 0)) (.tmp 21) rfl w.heap.size (.slice none 0 0) [] l A m c rfl rfl (OB.nil _ _) h (by simp; omega) (Nat.le_refl _) ?_; intro v2 w2 ha; obtain ⟨A2, c2, rfl, _⟩ := OB.sl ha.own m (by simp [hl]))
  go_ret
  exact ⟨_, rfl, ha.own, (Below.refl w.heap.size w).keeps ha.keeps (fun i _ e => by simp [Value.ownBlock] at e) (Nat.le_refl _)⟩
theorem raw_one (p : Nat) (v : Value) (l : List UInt8) (g t : Nat) (A : Option Addr) (m c : Nat) (x : List UInt8) (w : World) (h : Wr w p v l false) (hg : Blk w g #[.slice A m c] t) (hx : RB w A m c x) (hm : m ≤ 1000000) (hl : l.length ≤ 1000000) :
    Calls Try.prog 61 #[.pointer (some ⟨p, 0, none⟩), .slice (some ⟨g, 0, none⟩) 1 1] w fun e w' => e = .returned (.pointer (some ⟨p, 0, none⟩)) ∧ ∃ v', Wr w' p v' (l ++ x) false ∧ WStep w w' p v v' := by
  have c1 := h.c1
  have hxl := hx.len
  obtain ⟨n0, hn0⟩ : ∃ n, l.length = n := ⟨_, rfl⟩
  obtain ⟨A0, c0, rfl, _⟩ := OB.sl h.own n0 hn0
  have hJ := Lib.hid (fun w hg h => join_one g t A m c x w hg h hm)
  have hn0 := Lib.hid hn0
  have hl := Lib.hid hl
  have hxl := Lib.hid hxl
  have hR : ∀ {w w' : World}, Below w.heap.size w w' → Below w.heap.size w w' := fun h => h
  go_enter Try.func61, Try.ntmps61
  go_wp2_with fail
  have hvo := Free.val
  refine Free.wp_factsRW (R := (fun w w' => Below w.heap.size w w')) (ss := [7]) (pures := [0, 1, 2, 3, 4, 5, 8, 9]) (M := [0, 0, 2, 6, 14, 0, 32, 126, 255, 511, 1023]) (D := [[], [], [(1, 11)], [(2, 12)], [(3, 13)], [], [(5, 15)], [(4, 14), (6, 16)], [(0, 10)], [(8, 18)], [(9, 19), (7, 17)]]) (outs := [10]) (soles := [7, 10]) (E := [(0, some 10, false), (1, some 11, false), (2, some 12, false), (3, some 13, false), (4, some 14, false), (5, some 15, false), (6, some 16, false), (7, some 17, false), (8, some 18, false), (9, some 19, false), (10, none, true)]) (N := 21) (S := (fun (d : Nat) w' => d = 0 → Below w.heap.size w w')) [Free.FactR.is ?_, Free.FactR.is ?_, Free.FactR.is ?_, Free.FactR.is ?_, Free.FactR.is ?_, Free.FactR.is ?_, Free.FactR.of (Free.Fact.sl m x), Free.FactR.app w (.slice A0 n0 c0) (l ++ x), Free.FactR.is ?_, Free.FactR.is ?_, Free.FactR.wr w p (.slice A0 n0 c0) (l ++ x) false] (by kernel_rfl) (by kernel_rfl) (by kernel_rfl) rfl rfl (by decide) (fun _ => (Below.refl _ _).drew) ?_ ?_
  rotate_left 8
  refine Free.cons ?_ ?_
  · intro st hag w' hS; intro K hK; first | (refine Free.run_yes (by rfl) ?_; go_simp; refine Free.oR hK (hR (Below.refl _ _)) hS ?_; exact rfl) | (refine Free.run_no (by rfl) (Free.oR hK (hR (Below.refl _ _)) hS ?_); exact rfl)
  refine Free.cons ?_ ?_
  · intro st hag; (obtain rfl : st = 0 := Nat.le_antisymm hag.2 hag.1); intro w' hS; intro K hK; first | (refine Free.run_yes (by rfl) ?_; go_simp; refine Free.oR hK (hR (Below.refl _ _)) hS ?_; exact rfl) | (refine Free.run_no (by rfl) (Free.oR hK (hR (Below.refl _ _)) hS ?_); exact rfl)
  refine Free.cons ?_ ?_
  · intro st hag; (obtain rfl : st = 0 := Nat.le_antisymm hag.2 hag.1); intro w' hS; (rintro _ rfl); intro K hK; first | (refine Free.run_yes (by rfl) ?_; go_simp; refine Free.oR hK (hR (Below.refl _ _)) hS ?_; exact rfl) | (refine Free.run_no (by rfl) (Free.oR hK (hR (Below.refl _ _)) hS ?_); exact rfl)
  refine Free.cons ?_ ?_
  · intro st hag; (obtain rfl : st = 0 := Nat.le_antisymm hag.2 hag.1); intro w' hS; (rintro _ rfl); intro K hK; first | (refine Free.run_yes (by rfl) ?_; go_simp; refine Free.oR hK (hR (Below.refl _ _)) hS ?_; exact rfl) | (refine Free.run_no (by rfl) (Free.oR hK (hR (Below.refl _ _)) hS ?_); exact rfl)
  refine Free.cons ?_ ?_
  · intro st hag; (obtain rfl : st = 0 := Nat.le_antisymm hag.2 hag.1); intro w' hS; (rintro _ rfl); intro K hK; refine Free.run_yes (by rfl) ?_; (have k0 := (h.below (hS rfl)).c0; go_simp; refine Free.oR hK (hR (Below.refl _ _)) hS ?_; exact rfl)
  refine Free.cons ?_ ?_
  · intro st hag; (obtain rfl : st = 0 := Nat.le_antisymm hag.2 hag.1); intro w' hS; intro K hK; first | (refine Free.run_yes (by rfl) ?_; go_simp; refine Free.oR hK (hR (Below.refl _ _)) hS ?_; exact rfl) | (refine Free.run_no (by rfl) (Free.oR hK (hR (Below.refl _ _)) hS ?_); exact rfl)
  refine Free.cons ?_ ?_
  · intro st hag; (obtain rfl : st = 0 := Nat.le_antisymm hag.2 hag.1); intro w' hS; (rintro _ rfl); intro K hK; refine Free.run_yes (by rfl) ?_; (go_simp; go_at_call 80; refine (hJ.out _ (hg.below (hS rfl) hg.lt) (hx.below (hS rfl))).mono ?_; rintro e w2 ⟨v2, rfl, ho, hb⟩; simp only [Free.valOf, Act.put, List.setIfInBounds_toArray, List.set_cons_zero, List.set_cons_succ, Array.getD_eq_getD_getElem?, List.getElem?_toArray, List.getElem?_cons_succ, List.getElem?_cons_zero, Option.getD_some]; refine hK.out _ _ (OB.sl ho m hxl.out) (fun _ => Below.next (hS rfl) hb (Nat.le_refl _)) (.inr hb))
  refine Free.cons ?_ ?_
  · intro st hag; (obtain rfl : st = 0 := Nat.le_antisymm hag.2 hag.1); intro w' hS; (rintro _ rfl); (intro v6 h6); intro K hK; refine Free.run_yes (by rfl) ?_; (obtain ⟨A6, c6, rfl, hr6⟩ := h6; refine wp_app (.tmp 14) (.tmp 16) rfl 0 (.slice A0 n0 c0) l x A6 m c6 rfl rfl (OB.below h.own (hS rfl)) hr6 (by have := hl.out; omega) (by omega) ?_; intro v7 w7 ha; refine ⟨rfl, ?_⟩; simp only [Free.valOf, Act.put, List.setIfInBounds_toArray, List.set_cons_zero, List.set_cons_succ, Array.getD_eq_getD_getElem?, List.getElem?_toArray, List.getElem?_cons_succ, List.getElem?_cons_zero, Option.getD_some]; refine hK.out _ _ ⟨w', hS rfl, ha⟩ (fun e => by cases e) (.inl rfl))
  refine Free.cons ?_ ?_
  · intro st hag; (obtain rfl : st = 1 := Nat.le_antisymm hag.2 hag.1); intro w' hS; (rintro _ rfl); intro K hK; first | (refine Free.run_yes (by rfl) ?_; go_simp; refine Free.oR hK (hR (Below.refl _ _)) hS ?_; exact rfl) | (refine Free.run_no (by rfl) (Free.oR hK (hR (Below.refl _ _)) hS ?_); exact rfl)
  refine Free.cons ?_ ?_
  · intro st hag; (obtain rfl : st = 1 := Nat.le_antisymm hag.2 hag.1); intro w' hS; (rintro _ rfl); intro K hK; first | (refine Free.run_yes (by rfl) ?_; go_simp; refine Free.oR hK (hR (Below.refl _ _)) hS ?_; exact rfl) | (refine Free.run_no (by rfl) (Free.oR hK (hR (Below.refl _ _)) hS ?_); exact rfl)
  refine Free.cons ?_ ?_
  · intro st hag; (obtain rfl : st = 1 := Nat.le_antisymm hag.2 hag.1); intro w' hS; (rintro _ rfl); (intro v7 h7); intro K hK; refine Free.run_yes (by rfl) ?_; (obtain ⟨w1, hb1, ha⟩ := h7; have hw1 := h.below hb1; have hbk := hw1.blk.keeps ha.keeps h.ne; obtain ⟨A7, c7, rfl, _⟩ := OB.sl ha.own (n0 + m) (by rw [List.length_append, hn0.out, hxl.out]); have k0 := hbk.cell 0 (v := .slice A0 n0 c0) rfl; have k1 := hbk.fz 0; go_simp; refine hK.out _ _ ⟨_, Wr.app hw1 (Keeps.refl _ _) ha, WStep.step ((WStep.refl w p _).below hb1) (Keeps.refl _ _) ha⟩ (fun e => by cases e) (.inl rfl))
  exact Free.nil
  clear hvo
  intro w' hS; intro v0; intro v1; intro v2; intro v3; intro v4; intro v5; intro v6; intro v7; intro v8; intro v9; intro v10 h10; (try simp only [Act.put, List.setIfInBounds_toArray, List.set_cons_zero, List.set_cons_succ]); refine Free.toldW_nil ?_
  obtain ⟨v', hw, hst⟩ := h10
  go_wp2
  go_ret
  exact ⟨rfl, v', hw, hst⟩
end Go.Proofs.Ytjpgiohdaadieaa
/- Small words on writers: one number, a new one, blocks apart. -/
namespace Go.Proofs.Ytjpgiohdaadieaa
open Go.ChangeShapes Go.WideShapes Go.ChangeAt Go.RowKit
open Go.ChangeMaps (open_string shut_string)
set_option linter.unusedVariables false
set_option linter.unusedSimpArgs false
set_option maxRecDepth 100000

theorem num_one (l : List UInt8) (x : Int) (h0 : 0 ≤ x) (h1 : x < 255) : numsL l false 1 [x] = (l ++ [UInt8.ofNat x.toNat], false) := by
  have hb : badNum 1 x = false := by
    have e1 : mayW 1 = true := by decide
    have e2 : topW (1 : Int).toNat = 255 := by decide
    unfold badNum
    rw [e1, e2, decide_eq_false (by omega), decide_eq_false (by omega)]
    rfl
  have e3 : be (1 : Int).toNat x = [UInt8.ofNat x.toNat] := by
    show [byteAt x 0] = _
    unfold byteAt
    rw [show (2 : Int) ^ (8 * 0) = 1 from rfl, Int.ediv_one, Int.emod_eq_of_lt h0 (by omega)]
  unfold numsL numsL numL
  rw [hb, e3]
  rfl
theorem Wr.new (w : World) : Wr (w.alloc (.cells #[.slice none 0 0, .bool false] 75)) w.heap.size (.slice none 0 0) [] false := ⟨Blk.new _ _ _, OB.nil _ _, by simp [Value.ownBlock]⟩
theorem Wr.apart {w : World} {p g t : Nat} {v : Value} {l : List UInt8} {br : Bool} {cs : Array Value} (h : Wr w p v l br) (hg : Blk w g cs t) (ht : t ≠ 5) : v.ownBlock ≠ some g := by
  intro e
  obtain ⟨_, ho⟩ := h.own
  rcases ho with ⟨rfl, _⟩ | ⟨g2, cap, cur, rfl, _, hheap, _⟩
  · simp [Value.ownBlock] at e
  · simp [Value.ownBlock] at e
    subst e
    rw [hg] at hheap
    injection hheap with h1
    injection h1 with _ h2
    exact ht h2
theorem Blk.uniq {w : World} {g t t' : Nat} {cs cs' : Array Value} (h : Blk w g cs t) (h' : Blk w g cs' t') : t = t' := by
  unfold Blk at h h'
  rw [h] at h'
  injection h' with h1
  injection h1
def Free.FactR.rowX (p : Nat) (v : Value) (cs : Array Value) (t : Nat) : Free.FactR (fun w w' => Keeps (fun k => k = p ∨ v.ownBlock = some k) w w') :=
  { f := fun u w => ∃ g, u = .slice (some ⟨g, 0, none⟩) 1 1 ∧ Blk w g cs t ∧ g ≠ p ∧ v.ownBlock ≠ some g
    stab := fun _ _ _ ⟨g, h, h2, h3, h4⟩ hb => ⟨g, h, h2.keeps hb (fun e => e.elim h3 h4), h3, h4⟩ }

/-- A slice of n elements, in a block that the writer has nothing of. -/
def Free.FactR.rowN (n p : Nat) (v : Value) (cs : Array Value) (t : Nat) : Free.FactR (fun w w' => Keeps (fun k => k = p ∨ v.ownBlock = some k) w w') :=
  { f := fun u w => ∃ g, u = .slice (some ⟨g, 0, none⟩) n n ∧ Blk w g cs t ∧ g ≠ p ∧ v.ownBlock ≠ some g
    stab := fun _ _ _ ⟨g, h, h2, h3, h4⟩ hb => ⟨g, h, h2.keeps hb (fun e => e.elim h3 h4), h3, h4⟩ }
theorem num_k (l : List UInt8) (k : Nat) (x : Int) (hk : 1 ≤ k ∧ k ≤ 7) (h0 : -1 ≤ x) (h1 : x < topW k) : numsL l false k [x] = (l ++ be k x, false) := by
  have hb : badNum k x = false := by
    unfold badNum mayW
    rw [decide_eq_true (show (1 : Int) ≤ k by omega), decide_eq_true (show (k : Int) ≤ 7 by omega), decide_eq_false (show ¬ x < -1 by omega), Int.toNat_natCast, decide_eq_false (show ¬ topW k ≤ x by omega)]
    rfl
  unfold numsL numsL numL
  rw [hb, Int.toNat_natCast]
  rfl
theorem be1 (x : Int) (h0 : 0 ≤ x) (h1 : x < 256) : be 1 x = [UInt8.ofNat x.toNat] := by
  show [byteAt x 0] = _
  unfold byteAt
  rw [show (2 : Int) ^ (8 * 0) = 1 from rfl, Int.ediv_one, Int.emod_eq_of_lt h0 h1]
theorem num_two (l : List UInt8) (x y : Int) (h0 : 0 ≤ x) (h1 : x < 255) (h2 : 0 ≤ y) (h3 : y < 255) : numsL l false 1 [x, y] = (l ++ [UInt8.ofNat x.toNat, UInt8.ofNat y.toNat], false) := by
  have hx := num_one l x h0 h1
  have hy := num_one (l ++ [UInt8.ofNat x.toNat]) y h2 h3
  have e : numsL l false 1 [x, y] = numsL (numsL l false 1 [x]).1 (numsL l false 1 [x]).2 1 [y] := by simp only [numsL]
  rw [e, hx, hy, List.append_assoc]
  rfl
theorem Wr.own_lo {w : World} {p : Nat} {v : Value} {l : List UInt8} {br : Bool} (h : Wr w p v l br) : ∀ k, v.ownBlock = some k → k < w.heap.size := h.olt
end Go.Proofs.Ytjpgiohdaadieaa
/- clog.told: what an answer's text is. -/
namespace Go.Proofs.Ytjpgiohdaadieaa
open Go.ChangeShapes Go.WideShapes Go.ChangeAt Go.RowKit
open Go.ChangeMaps (open_string shut_string)
set_option linter.unusedVariables false
set_option linter.unusedSimpArgs false
set_option maxRecDepth 100000
open Go.Deep

/-- The text of an answer; of all. -/
def toldB (t : TolR) : List UInt8 := be 4 t.n ++ ([UInt8.ofNat t.k.toNat, UInt8.ofNat t.V.length] ++ (bytesV t.V ++ zr (36 - 9 * t.V.length)))
def toldsB (T : List TolR) : List UInt8 := T.flatMap toldB
def logB (e : Int) (T : List TolR) : List UInt8 := be 5 e ++ ([UInt8.ofNat T.length] ++ toldsB T)
def okTol (t : TolR) : Prop := 1 ≤ t.n ∧ t.n ≤ 4294967294 ∧ 1 ≤ t.k ∧ t.k ≤ 6 ∧ t.V.length ≤ 4 ∧ (∀ v ∈ t.V, mayVR v = true)
theorem okTol_of {T : List TolR} (h : mayT T = true) : ∀ t ∈ T, okTol t := by
  have ha : ∀ i, i < T.length → okT T i = true := by
    unfold mayT at h
    rw [List.all_eq_true] at h
    exact fun i hi => h i (List.mem_range.2 hi)
  have hn : ∀ i, i ≤ T.length → 0 ≤ lastN T i := by
    intro i
    induction i with
    | zero => intro _; exact Int.le_refl _
    | succ j ih =>
      intro hi
      have h1 := ih (by omega)
      have h2 := ha j (by omega)
      unfold okT at h2
      simp only [Bool.and_eq_true, decide_eq_true_eq] at h2
      show 0 ≤ (T.getD j default).n
      omega
  intro t ht
  obtain ⟨i, hi⟩ := List.mem_iff_getElem?.1 ht
  have hlt := (List.getElem?_eq_some_iff.1 hi).1
  have h1 := ha i hlt
  have h2 := hn i (by omega)
  unfold okT at h1
  rw [getD_of hi] at h1
  simp only [Bool.and_eq_true, decide_eq_true_eq] at h1
  obtain ⟨g1, g2, g3, g4, _⟩ := ansOk_iff.1 h1.2.2
  exact ⟨by omega, h1.2.1, g2, g3, g4, g1⟩
theorem toldB_len {t : TolR} (h : okTol t) : (toldB t).length = 42 := by
  obtain ⟨_, _, _, _, h4, hv⟩ := h
  unfold toldB zr
  rw [List.length_append, List.length_append, List.length_append, be_length, bytesV_len _ hv, List.length_replicate]
  simp
  omega
theorem toldsB_len {T : List TolR} (h : ∀ t ∈ T, okTol t) : (toldsB T).length = 42 * T.length := by
  induction T with
  | nil => rfl
  | cons t r ih =>
    have h1 := toldB_len (h t (by simp))
    have h2 := ih (fun c hc => h c (by simp [hc]))
    unfold toldsB at *
    rw [List.flatMap_cons, List.length_append, h1, h2, List.length_cons]
    omega
theorem toldsB_snoc (T : List TolR) (t : TolR) : toldsB (T ++ [t]) = toldsB T ++ toldB t := by simp [toldsB]
theorem logB_len {e : Int} {T : List TolR} (h : ∀ t ∈ T, okTol t) : (logB e T).length = 6 + 42 * T.length := by
  unfold logB
  rw [List.length_append, List.length_append, be_length, toldsB_len h]
  simp
  omega
theorem bytesV_take {V : List ValR} {j : Nat} {v : ValR} (h : V[j]? = some v) : bytesV (V.take (j + 1)) = bytesV (V.take j) ++ encVR v := by
  rw [List.take_add_one, h, Option.toList_some, bytesV_snoc]
set_option maxHeartbeats 8000000 in
theorem clog_told (w0 : World) (p : Nat) (v : Value) (l : List UInt8) (n k : Int) (A : Option Addr) (m c : Nat) (V : List ValR) (w : World) (hW : Wr w p v l false) (hp : w0.heap.size ≤ p) (ho : ∀ j, v.ownBlock = some j → w0.heap.size ≤ j) (hb : Below w0.heap.size w0 w) (hV : RV w0 A m c V) (hok : okTol ⟨n, k, V⟩) (hl : l.length ≤ 1000) :
    Calls Try.prog 30 #[.pointer (some ⟨p, 0, none⟩), .agg #[.int .i64 n, .int .i64 k, .slice A m c]] w fun e w' => e = .returned (.tuple #[]) ∧ ∃ v', Wr w' p v' (l ++ toldB ⟨n, k, V⟩) false ∧ (∀ j, v'.ownBlock = some j → w0.heap.size ≤ j) ∧ Below w0.heap.size w0 w' := by
  obtain ⟨hn1, hn2, hk1, hk2, hm4, hvs⟩ := hok
  simp only at hn1 hn2 hk1 hk2 hm4 hvs
  have hVl := hV.len
  rw [hVl] at hm4
  obtain ⟨l1, hl1⟩ : ∃ l1, l ++ be 4 n = l1 := ⟨_, rfl⟩
  obtain ⟨l2, hl2⟩ : ∃ l2, l1 ++ [UInt8.ofNat k.toNat, UInt8.ofNat m] = l2 := ⟨_, rfl⟩
  have HN1 : Hid (numsL l false 4 [n] = (l1, false)) := Lib.hid (by rw [← hl1]; exact num_k l 4 n (by omega) (by omega) (by unfold topW; omega))
  have HN2 : Hid (numsL l1 false 1 [k, (m : Int)] = (l2, false)) := Lib.hid (by rw [← hl2]; have := num_two l1 k m (by omega) (by omega) (by omega) (by omega); rwa [Int.toNat_natCast] at this)
  have hl1n : l1.length ≤ 1010 := by rw [← hl1, List.length_append, be_length]; omega
  have hl2n : l2.length ≤ 1020 := by rw [← hl2, List.length_append]; simp; omega
  have hfin : Hid (l ++ toldB ⟨n, k, V⟩ = l2 ++ bytesV V ++ zr (36 - 9 * m)) := Lib.hid (by
    unfold toldB
    simp only
    rw [hVl, ← hl2, ← hl1]
    simp only [List.append_assoc])
  rw [hfin.out]
  clear hl1 hl2 hfin
  have hl1h := Lib.hid hl1n
  have hl2h := Lib.hid hl2n
  have hlh := Lib.hid hl
  have hvh := Lib.hid hvs
  have hnh := Lib.hid hn1
  clear hl1n hl2n hl hvs
  have hX := Blk.new w #[.int .i64 n, .int .i64 k, .slice A m c] 37
  have hW2 := hW.alloc (.cells #[.int .i64 n, .int .i64 k, .slice A m c] 37)
  have bl2 := hb.alloc hb.size (.cells #[.int .i64 n, .int .i64 k, .slice A m c] 37)
  go_enter Try.func30, Try.ntmps30
  go_wp2_with fail
  generalize w.heap.size = gb at *
  generalize w.alloc (.cells #[.int .i64 n, .int .i64 k, .slice A m c] 37) = W1 at *
  have hap := Lib.hid (hW2.apart hX (by decide))
  have hgp : gb ≠ p := fun e => absurd (Blk.uniq hX (e ▸ hW2.blk)) (by decide)
  have holt := Lib.hid hW2.olt
  have hplt := hW2.lt
  have hownH := Lib.hid ho
  have hR : ∀ {w w' : World}, Below w.heap.size w w' → Keeps (fun k => k = p ∨ v.ownBlock = some k) w w' := fun h => Keeps.of_below h
  clear ho hW hb
  have hvo := Free.val
  refine Free.wp_factsR (R := (fun w w' => Keeps (fun k => k = p ∨ v.ownBlock = some k) w w')) (ss := [4, 13]) (pures := [0, 1, 2, 4, 5, 6, 7, 8, 9, 10, 11, 13]) (M := [0, 0, 2, 6, 15, 0, 32, 96, 0, 256, 768, 1792, 4064, 8191]) (D := [[], [], [(1, 9)], [(2, 10)], [(0, 8), (3, 11)], [], [(5, 13)], [(6, 14)], [], [(8, 16)], [(9, 17)], [(10, 18)], [(7, 15), (11, 19)], [(4, 12), (12, 20)]]) (outs := []) (soles := [13]) (E := [(0, 8, false), (1, 9, false), (2, 10, false), (3, 11, false), (4, 12, false), (5, 13, false), (6, 14, false), (7, 15, false), (8, 16, false), (9, 17, false), (10, 18, false), (11, 19, false), (12, 20, false), (13, 21, false)]) (N := 50) (S := (fun (st : Nat) w' => Below w0.heap.size w0 w' ∧ W1.heap.size ≤ w'.heap.size ∧ Blk w' gb #[.int .i64 n, .int .i64 k, .slice A m c] 37 ∧ (st = 0 → Wr w' p v l false) ∧ (st = 1 → ∃ v1, Wr w' p v1 l1 false ∧ ∀ j, v1.ownBlock = some j → w0.heap.size ≤ j) ∧ (st = 2 → ∃ v2, Wr w' p v2 l2 false ∧ ∀ j, v2.ownBlock = some j → w0.heap.size ≤ j))) [Free.FactR.is ?_, Free.FactR.is ?_, Free.FactR.is ?_, Free.FactR.rowN 1 p v #[.int .i64 n] 3, Free.FactR.is ?_, Free.FactR.is ?_, Free.FactR.is ?_, Free.FactR.is ?_, Free.FactR.is ?_, Free.FactR.is ?_, Free.FactR.is ?_, Free.FactR.is ?_, Free.FactR.rowN 2 p v #[.int .i64 k, .int .i64 (m : Int)] 3, Free.FactR.is ?_] (by kernel_rfl) (by kernel_rfl) (by kernel_rfl) rfl rfl (by decide) (⟨bl2.drew, Nat.le_refl _, hX.drew, fun _ => hW2.drew, fun e => absurd e (by decide), fun e => absurd e (by decide)⟩) ?_ ?_
  rotate_left 12
  refine Free.cons ?_ ?_
  · intro st hag; (obtain rfl : st = 0 := Nat.le_antisymm hag.2 hag.1); intro w' hS; intro K hK; first | (refine Free.run_yes (by rfl) ?_; go_simp; refine Free.oR hK (hR (Below.refl _ _)) hS ?_; exact rfl) | (refine Free.run_no (by rfl) (Free.oR hK (hR (Below.refl _ _)) hS ?_); exact rfl)
  refine Free.cons ?_ ?_
  · intro st hag; (obtain rfl : st = 0 := Nat.le_antisymm hag.2 hag.1); intro w' hS; intro K hK; first | (refine Free.run_yes (by rfl) ?_; go_simp; refine Free.oR hK (hR (Below.refl _ _)) hS ?_; exact rfl) | (refine Free.run_no (by rfl) (Free.oR hK (hR (Below.refl _ _)) hS ?_); exact rfl)
  refine Free.cons ?_ ?_
  · intro st hag; (obtain rfl : st = 0 := Nat.le_antisymm hag.2 hag.1); intro w' hS; (rintro _ rfl); intro K hK; have k0 := hS.2.2.1.cell 0 (v := .int .i64 n) rfl; have k1 := hS.2.2.1.cell 1 (v := .int .i64 k) rfl; have k2 := hS.2.2.1.cell 2 (v := .slice A m c) rfl; first | (refine Free.run_yes (by rfl) ?_; go_simp; refine Free.oR hK (hR (Below.refl _ _)) hS ?_; exact rfl) | (refine Free.run_no (by rfl) (Free.oR hK (hR (Below.refl _ _)) hS ?_); exact rfl)
  refine Free.cons ?_ ?_
  · intro st hag; (obtain rfl : st = 0 := Nat.le_antisymm hag.2 hag.1); intro w' hS; (rintro _ rfl); intro K hK; refine Free.run_yes (by rfl) ?_; (go_simp; refine hK.out _ _ ⟨_, rfl, Blk.new _ _ _, by have := hS.2.1; omega, fun e => by have := holt.out _ e; have := hS.2.1; omega⟩ ⟨hS.1.alloc hS.1.size _, by simp; have := hS.2.1; omega, hS.2.2.1.alloc _, fun h => (hS.2.2.2.1 h).alloc _, fun h => (let ⟨u, hu, hu2⟩ := hS.2.2.2.2.1 h; ⟨u, hu.alloc _, hu2⟩), fun h => (let ⟨u, hu, hu2⟩ := hS.2.2.2.2.2 h; ⟨u, hu.alloc _, hu2⟩)⟩ (.inr (hR ((Below.refl _ _).alloc (Nat.le_refl _) _))))
  refine Free.cons ?_ ?_
  · intro st hag; (obtain rfl : st = 0 := Nat.le_antisymm hag.2 hag.1); intro w' hS; (rintro _ rfl); (intro v3 h3); intro K hK; refine Free.run_yes (by rfl) ?_; (obtain ⟨g3, rfl, hX3, hg3p, hg3v⟩ := h3; go_simp; go_at_call 29; refine (Num_any p v l false 4 [n] (some ⟨g3, 0, none⟩) 1 1 w' (hS.2.2.2.1 rfl) (RI.of_blk hX3 rfl rfl (by unfold maxLen; omega)) (fun _ a ha => by injection ha with ha; subst ha; exact ⟨hg3p, hg3v, hX3.lt⟩) (by have := hlh.out; omega)).mono ?_; rintro e w5 ⟨rfl, v1, hw5, hst⟩; rw [show (false || !mayW 4) = false from by decide, HN1.out] at hw5; refine hK.out _ _ ?_ ⟨hS.1.keeps hst.keeps (fun i hi e => by rcases e with e | e; omega; have := hownH.out _ e; omega) (Nat.le_refl _), Nat.le_trans hS.2.1 hst.keeps.size, hS.2.2.1.keeps hst.keeps (fun e => by rcases e with e | e; exact hgp e; exact hap.out e), (fun e => absurd e (by decide)), fun _ => ⟨v1, hw5, fun j hj => by rcases hst.own j hj with e | e; exact hownH.out _ e; have := hS.1.size; omega⟩, (fun e => absurd e (by decide))⟩ (.inr hst.keeps); exact rfl)
  refine Free.cons ?_ ?_
  · intro st hag w' hS; intro K hK; first | (refine Free.run_yes (by rfl) ?_; go_simp; refine Free.oR hK (hR (Below.refl _ _)) hS ?_; exact rfl) | (refine Free.run_no (by rfl) (Free.oR hK (hR (Below.refl _ _)) hS ?_); exact rfl)
  refine Free.cons ?_ ?_
  · intro st hag w' hS; (rintro _ rfl); intro K hK; first | (refine Free.run_yes (by rfl) ?_; go_simp; refine Free.oR hK (hR (Below.refl _ _)) hS ?_; exact rfl) | (refine Free.run_no (by rfl) (Free.oR hK (hR (Below.refl _ _)) hS ?_); exact rfl)
  refine Free.cons ?_ ?_
  · intro st hag w' hS; (rintro _ rfl); intro K hK; have k0 := hS.2.2.1.cell 0 (v := .int .i64 n) rfl; have k1 := hS.2.2.1.cell 1 (v := .int .i64 k) rfl; have k2 := hS.2.2.1.cell 2 (v := .slice A m c) rfl; first | (refine Free.run_yes (by rfl) ?_; go_simp; refine Free.oR hK (hR (Below.refl _ _)) hS ?_; exact rfl) | (refine Free.run_no (by rfl) (Free.oR hK (hR (Below.refl _ _)) hS ?_); exact rfl)
  refine Free.cons ?_ ?_
  · intro st hag w' hS; intro K hK; first | (refine Free.run_yes (by rfl) ?_; go_simp; refine Free.oR hK (hR (Below.refl _ _)) hS ?_; exact rfl) | (refine Free.run_no (by rfl) (Free.oR hK (hR (Below.refl _ _)) hS ?_); exact rfl)
  refine Free.cons ?_ ?_
  · intro st hag w' hS; (rintro _ rfl); intro K hK; first | (refine Free.run_yes (by rfl) ?_; go_simp; refine Free.oR hK (hR (Below.refl _ _)) hS ?_; exact rfl) | (refine Free.run_no (by rfl) (Free.oR hK (hR (Below.refl _ _)) hS ?_); exact rfl)
  refine Free.cons ?_ ?_
  · intro st hag w' hS; (rintro _ rfl); intro K hK; have k0 := hS.2.2.1.cell 0 (v := .int .i64 n) rfl; have k1 := hS.2.2.1.cell 1 (v := .int .i64 k) rfl; have k2 := hS.2.2.1.cell 2 (v := .slice A m c) rfl; first | (refine Free.run_yes (by rfl) ?_; go_simp; refine Free.oR hK (hR (Below.refl _ _)) hS ?_; exact rfl) | (refine Free.run_no (by rfl) (Free.oR hK (hR (Below.refl _ _)) hS ?_); exact rfl)
  refine Free.cons ?_ ?_
  · intro st hag w' hS; (rintro _ rfl); intro K hK; first | (refine Free.run_yes (by rfl) ?_; go_simp; refine Free.oR hK (hR (Below.refl _ _)) hS ?_; exact rfl) | (refine Free.run_no (by rfl) (Free.oR hK (hR (Below.refl _ _)) hS ?_); exact rfl)
  refine Free.cons ?_ ?_
  · intro st hag w' hS; (rintro _ rfl); (rintro _ rfl); intro K hK; refine Free.run_yes (by rfl) ?_; (go_simp; refine hK.out _ _ ⟨_, rfl, Blk.new _ _ _, by have := hS.2.1; omega, fun e => by have := holt.out _ e; have := hS.2.1; omega⟩ ⟨hS.1.alloc hS.1.size _, by simp; have := hS.2.1; omega, hS.2.2.1.alloc _, fun h => (hS.2.2.2.1 h).alloc _, fun h => (let ⟨u, hu, hu2⟩ := hS.2.2.2.2.1 h; ⟨u, hu.alloc _, hu2⟩), fun h => (let ⟨u, hu, hu2⟩ := hS.2.2.2.2.2 h; ⟨u, hu.alloc _, hu2⟩)⟩ (.inr (hR ((Below.refl _ _).alloc (Nat.le_refl _) _))))
  refine Free.cons ?_ ?_
  · intro st hag; (obtain rfl : st = 1 := Nat.le_antisymm hag.2 hag.1); intro w' hS; (rintro _ rfl); (intro v12 h12); intro K hK; refine Free.run_yes (by rfl) ?_; (obtain ⟨g7, rfl, hX7, hg7p, _⟩ := h12; obtain ⟨v1, hw1', hown1⟩ := hS.2.2.2.2.1 rfl; go_simp; go_at_call 29; refine (Num_any p v1 l1 false 1 [k, (m : Int)] (some ⟨g7, 0, none⟩) 2 2 w' hw1' (RI.of_blk hX7 rfl rfl (by unfold maxLen; omega)) (fun _ a ha => by injection ha with ha; subst ha; exact ⟨hg7p, hw1'.apart hX7 (by decide), hX7.lt⟩) (by have := hl1h.out; omega)).mono ?_; rintro e w5 ⟨rfl, v2, hw5, hst⟩; rw [show (false || !mayW 1) = false from by decide, HN2.out] at hw5; refine hK.out _ _ ?_ ⟨hS.1.keeps hst.keeps (fun i hi e => by rcases e with e | e; omega; have := hown1 _ e; omega) (Nat.le_refl _), Nat.le_trans hS.2.1 hst.keeps.size, hS.2.2.1.keeps hst.keeps (fun e => by rcases e with e | e; exact hgp e; exact hw1'.apart hS.2.2.1 (by decide) e), (fun e => absurd e (by decide)), (fun e => absurd e (by decide)), fun _ => ⟨v2, hw5, fun j hj => by rcases hst.own j hj with e | e; exact hown1 _ e; have := hS.1.size; omega⟩⟩ (.inl rfl); exact rfl)
  exact Free.nil
  clear hvo
  intro w' hS; intro v0; intro v1; intro v2; intro v3; intro v4; intro v5; intro v6; intro v7; intro v8; intro v9; intro v10; intro v11; intro v12; intro v13; (try simp only [Act.put, List.setIfInBounds_toArray, List.set_cons_zero, List.set_cons_succ]); refine Free.toldE_nil ?_
  obtain ⟨v2, hw2, hown2⟩ := hS.2.2.2.2.2 rfl
  have bl3 := hS.1
  have hXb := hS.2.2.1
  clear hS bl2 hX hW2 hap holt hplt hR hownH
  have k2 := hXb.cell 2 (v := .slice A m c) rfl
  go_wp2
  go_loopw [26] (fun i wr => ∃ (j : Nat) (u : Value), j ≤ m ∧ i = .int .i64 j ∧ Wr wr p u (l2 ++ bytesV (V.take j)) false ∧ (∀ j, u.ownBlock = some j → w0.heap.size ≤ j) ∧ Below w0.heap.size w0 wr ∧ Blk wr gb #[.int .i64 n, .int .i64 k, .slice A m c] 37) (fun i _ => m - (intOf i).toNat)
  case atStart => exact ⟨0, v2, by omega, rfl, by simpa [bytesV] using hw2, hown2, bl3, hXb⟩
  case round =>
    clear bl3 hXb k2 hw2 hown2
    obtain ⟨j, u, hj, rfl, hw2, hown2, bl, hX⟩ := hrel
    have hlj := Lib.hid (show (l2 ++ bytesV (V.take j)).length ≤ 1056 from by
      rw [List.length_append, bytesV_len _ (fun x hx => hvh.out x (List.mem_of_mem_take hx)), List.length_take]
      have := hl2h.out
      omega)
    by_cases hlt : j < m
    · obtain ⟨q, hq⟩ : ∃ q, V[j]? = some q := ⟨_, List.getElem?_eq_getElem (by omega)⟩
      have hqm := hvh.out q (List.mem_of_getElem? hq)
      obtain ⟨g, o, rfl, hc⟩ := (hV.below bl).at_ (by omega)
      obtain ⟨c0, c1, c2⟩ := hc j q hq
      have hnx := Lib.hid (bytesV_take hq)
      clear hc hq
      obtain ⟨pk, pn, ps⟩ := q
      have HE := Lib.hid (fun w => (show Calls Try.prog 60 #[.agg #[.int .i64 (pk), .int .i64 (pn), .string (str (ps))]] w fun e w' => ∃ v, e = .returned (.tuple #[v, .int .i64 0]) ∧ OB w' w.heap.size v (encVR ⟨pk, pn, ps⟩) ∧ Below w.heap.size w w' from by
        have := enc_any pk pn ps w
        rw [show encE pk pn ps = 0 from by rw [encE_is ⟨pk, pn, ps⟩, if_pos hqm], show encT pk pn ps = encVR ⟨pk, pn, ps⟩ from by unfold encT; rw [show mayV pk pn ps = true from hqm]; rfl] at this
        exact this))
      have h9 := Lib.hid (encVR_len hqm)
      clear hqm
      generalize encVR ⟨pk, pn, ps⟩ = e9 at *
      have ba : Below wr.heap.size wr (wr.alloc (.cells #[.int .i64 (pk), .int .i64 (pn), .string (str (ps))] 41)) := (by repeat (first | exact Below.refl _ _ | assumption | apply below_drewN' | apply Below.drew | refine Below.alloc ?_ (by first | omega | (simp; done) | (simp; omega)) _ | refine Below.setCell ?_ (by first | omega | (simp; done) | (simp; omega)) _))
      have bl1 := bl.trans (ba.mono bl.size)
      have hw3 := hw2.below ba
      have hX3 := hX.below ba hX.lt
      clear hw2 hX bl
      go_wp2_with fail
      refine (HE.out _).mono ?_
      rintro e w4 ⟨v4, rfl, hO4, b4⟩
      obtain ⟨A4, c4, rfl, hR4⟩ := hO4.sl 9 h9.out
      have bl4 := bl1.trans (b4.mono bl1.size)
      have hw4 := hw3.below b4
      have hX4 := hX3.below b4 hX3.lt
      clear bl1 hw3 hX3 ba hO4
      have hS4 := Blk.new w4 #[.slice A4 9 c4] 45
      have ba : Below w4.heap.size w4 (w4.alloc (.cells #[.slice A4 9 c4] 45)) := (by repeat (first | exact Below.refl _ _ | assumption | apply below_drewN' | apply Below.drew | refine Below.alloc ?_ (by first | omega | (simp; done) | (simp; omega)) _ | refine Below.setCell ?_ (by first | omega | (simp; done) | (simp; omega)) _))
      have bl5 := bl4.trans (ba.mono bl4.size)
      have hw5 := hw4.below ba
      have hX5 := hX4.below ba hX4.lt
      have hR5 := hR4.below ba
      clear bl4 hw4 hX4 hR4 b4
      go_wp2_with fail
      refine (raw_one p u _ w4.heap.size 45 A4 9 c4 e9 _ hw5 hS4 hR5 (by omega) (by have := hlj.out; omega)).mono ?_
      rintro e w6 ⟨rfl, u6, hw6, hst⟩
      have bl6 := bl5.keeps hst.keeps (fun i hi e => by rcases e with e | e; omega; have := hown2 _ e; omega) (Nat.le_refl _)
      have hX6 := hX5.keeps hst.keeps (fun e => by rcases e with e | e; exact hgp e; exact hw5.apart hX5 (by decide) e)
      have hown6 : ∀ j, u6.ownBlock = some j → w0.heap.size ≤ j := fun j hj => by rcases hst.own j hj with e | e; exact hown2 _ e; have := bl5.size; omega
      rw [List.append_assoc, ← hnx.out] at hw6
      clear hst bl5 hw5 hX5 hR5 hS4 ba hown2
      go_wp2
      go_roundw
      case rel => exact ⟨j + 1, u6, by omega, by go_num, hw6, hown6, bl6, hX6⟩
      case measure => simp [intOf]; omega
    · have hjm : j = m := by omega
      have e0 : V.take j = V := List.take_of_length_le (by omega)
      rw [e0] at hw2 hlj
      obtain ⟨z4, hz4⟩ : ∃ z, 4 - m = z := ⟨_, rfl⟩
      obtain ⟨z, hz⟩ : ∃ z, 36 - 9 * m = z := ⟨_, rfl⟩
      have y1 : (4 : Int) - (m : Int) = (z4 : Int) := by omega
      have y2 : IntKind.i64.wrap (4 - (m : Int)) = (z4 : Int) := by rw [y1]; exact IntWalk.i64_in _ (by omega)
      have y3 : IntKind.i64.wrap (z4 : Int) = (z4 : Int) := IntWalk.i64_in _ (by omega)
      have y4 : (z4 : Int) * 9 = (z : Int) := by omega
      have y5 : IntKind.i64.wrap ((z4 : Int) * 9) = (z : Int) := by rw [y4]; exact IntWalk.i64_in _ (by omega)
      have y6 : IntKind.i64.wrap (z : Int) = (z : Int) := IntWalk.i64_in _ (by omega)
      have hzh := Lib.hid hz
      have hz36 : Hid (z ≤ 36) := Lib.hid (by omega)
      have hmk := fun w => run_mk w z (by omega)
      clear hz hz4 e0 hjm
      have k2 := hX.cell 2 (v := .slice A m c) rfl
      have hB1 := Blk.new wr (bcells (List.replicate z 0)) 5
      have ba : Below wr.heap.size wr (wr.alloc (.cells (bcells (List.replicate z 0)) 5)) := (by repeat (first | exact Below.refl _ _ | assumption | apply below_drewN' | apply Below.drew | refine Below.alloc ?_ (by first | omega | (simp; done) | (simp; omega)) _ | refine Below.setCell ?_ (by first | omega | (simp; done) | (simp; omega)) _))
      have hB2 := Blk.new (wr.alloc (.cells (bcells (List.replicate z 0)) 5)) #[.slice (some ⟨wr.heap.size, 0, none⟩) z z] 45
      rw [World.size_alloc] at hB2
      have bb : Below wr.heap.size wr ((wr.alloc (.cells (bcells (List.replicate z 0)) 5)).alloc (.cells #[.slice (some ⟨wr.heap.size, 0, none⟩) z z] 45)) := (by repeat (first | exact Below.refl _ _ | assumption | apply below_drewN' | apply Below.drew | refine Below.alloc ?_ (by first | omega | (simp; done) | (simp; omega)) _ | refine Below.setCell ?_ (by first | omega | (simp; done) | (simp; omega)) _))
      have hB3 := hB1.alloc (.cells #[.slice (some ⟨wr.heap.size, 0, none⟩) z z] 45)
      have hRz : RB ((wr.alloc (.cells (bcells (List.replicate z 0)) 5)).alloc (.cells #[.slice (some ⟨wr.heap.size, 0, none⟩) z z] 45)) (some ⟨wr.heap.size, 0, none⟩) z z (zr z) := by
        have := RB.of_row hB3 (by simp; unfold maxLen; have := hz36.out; omega)
        rw [List.length_replicate] at this
        exact this
      have hw3 := hw2.below bb
      have bl3 := bl.trans (bb.mono bl.size)
      clear hw2 hB1 hB3 ba bb
      go_wp2_with fail
      refine (raw_one p u _ (wr.heap.size + 1) 45 (some ⟨wr.heap.size, 0, none⟩) z z (zr z) _ hw3 hB2 hRz (by have := hz36.out; omega) (by have := hlj.out; omega)).mono ?_
      rintro e w6 ⟨rfl, u6, hw6, hst⟩
      have bl6 := bl3.keeps hst.keeps (fun i hi e => by rcases e with e | e; omega; have := hown2 _ e; omega) (Nat.le_refl _)
      have hown6 : ∀ j, u6.ownBlock = some j → w0.heap.size ≤ j := fun j hj => by rcases hst.own j hj with e | e; exact hown2 _ e; have := bl3.size; omega
      go_wp2
      go_end0
      exact ⟨rfl, u6, (by rw [hzh.out]; exact hw6), hown6, bl6⟩
end Go.Proofs.Ytjpgiohdaadieaa
