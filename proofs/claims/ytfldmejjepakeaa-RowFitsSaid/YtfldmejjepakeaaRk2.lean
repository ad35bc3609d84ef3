/- Merged: Val3, Lex, Slab2, Nonce, Nonce2, Nonce3, Nonce4, NoncePure, First5, Args, Plain5, Val4, Val5, Val6, RwC, RwD, Val7, Val8, Val9, Val10, Val11, BytesEq, Val12, Val13, RwE, Cut, RwF, RwG. -/
import Derived.Test.YtfldmejjepakeaaRk1
import Derived.Lib.AppendZerosOnto
import Derived.Laws.IdiomCopy
import Derived.WalkLawsBesides
import Derived.StillTailTactics
import Derived.ChangeSlices
import Derived.Deep.RegionHeld3
import Derived.Deep.DeepCutAuto
import Derived.Laws.Closers25b
import Derived.Laws.OwnMore
import Derived.RangeFuncNested
import Derived.RangeFuncBound
import Derived.RangeFuncCalls
import Derived.RangeFuncLeaves
import Derived.RangeFuncBox
import Derived.RangeFuncWrites
import Derived.Shelf.Abstract
import Derived.Shelf.RegionOpen
import Derived.WalkKit
import Derived.OwnWalkIn
import Derived.TacticsInMore
import Derived.LoopNIn
import Derived.LoopIn
/- Contracts of values: number, filled (bytes of a string). -/
namespace Go.Proofs.Ytfldmejjepakeaa
open Go.ChangeShapes Go.WideShapes Go.ChangeAt Go.RowKit
open Go.ChangeMaps (open_string shut_string)
set_option linter.unusedVariables false
set_option linter.unusedSimpArgs false
set_option maxRecDepth 100000

/-- '[]byte(s)'. -/
theorem conv_str (w : World) (l : List UInt8) : (convert 9 22 (.string (str l))).run Try.prog w = .ok (.slice (some ⟨w.heap.size, 0, none⟩) l.length (grownCap w l.length 0 5)) (Lib.bytesWorld w 5 (str l)) := by
  have := Lib.run_convert_string_bytes (P := Try.prog) w 9 22 5 (str l) Try.underlying9 Try.underlying22 Try.underlying5
  rw [str_size] at this
  exact this
theorem bytesWorld_below (w : World) (l : List UInt8) : Below w.heap.size w (Lib.bytesWorld w 5 (str l)) :=
  ⟨rfl, rfl, rfl, by rw [Lib.bytesWorld_size]; omega, fun k hk => Lib.bytesWorld_at_old w _ _ k hk⟩
theorem bytesWorld_cell (w : World) (l : List UInt8) (i : Nat) (b : UInt8) (hb : l[i]? = some b) : (Lib.bytesWorld w 5 (str l)).cell? ⟨w.heap.size, i, none⟩ = some (bv b) := by
  have hi : i < l.length := (List.getElem?_eq_some_iff.1 hb).1
  rw [Lib.bytesWorld_cell w _ (str l) i (by rw [str_size]; exact hi), str_toList, List.getD, hb]
  rfl
theorem grown_fit (w : World) (n : Nat) (hn : n ≤ 1099511627776) : n ≤ grownCap w n 0 5 ∧ grownCap w n 0 5 ≤ maxLen := ⟨grownCap_ge w n 0 _, grownCap_le_maxLen w n 0 _ (by unfold maxLen; omega)⟩
theorem bytesWorld_rb (w : World) (l : List UInt8) (hn : l.length ≤ 1099511627776) : RB (Lib.bytesWorld w 5 (str l)) (some ⟨w.heap.size, 0, none⟩) l.length (grownCap w l.length 0 5) l :=
  ⟨rfl, (grown_fit w _ hn).1, (grown_fit w _ hn).2, fun h => (by cases h), fun _ => ⟨_, _, rfl, fun i b hb => (by rw [Nat.zero_add]; exact bytesWorld_cell w l i b hb)⟩⟩

theorem bytesCells_eq (w : World) (l : List UInt8) : Lib.bytesCells w 5 (str l) = (l.map bv).toArray ++ Array.replicate (grownCap w l.length 0 5 - l.length) (.int .u8 0) := by
  unfold Lib.bytesCells
  rw [str_size]
  congr 1
  apply Array.toList_inj.1
  simp [str, bv]
theorem bytesWorld_all (w : World) (l : List UInt8) (j : Nat) (hj : j < grownCap w l.length 0 5) (hl : l.length ≤ j) : (Lib.bytesWorld w 5 (str l)).cell? ⟨w.heap.size, j, none⟩ = some (.int .u8 0) := by
  have key : (Lib.bytesWorld w 5 (str l)).cell? ⟨w.heap.size, j, none⟩ = (Lib.bytesCells w 5 (str l))[j]? := by simp [World.cell?, Lib.bytesWorld_at_new]
  rw [key, bytesCells_eq, Array.getElem?_append_right (by simp; exact hl), Array.getElem?_replicate, if_pos (by simp; omega)]
theorem bytesWorld_fz (w : World) (l : List UInt8) (j : Nat) (hj : j < grownCap w l.length 0 5) : (Lib.bytesWorld w 5 (str l)).frozen? ⟨w.heap.size, j, none⟩ = false := by
  have e : (str l).data.size = l.length := by simp [str]
  have e2 := str_size l
  have e3 : (Lib.bytesCells w 5 (str l)).size = grownCap w l.length 0 5 := by
    have := grownCap_ge w l.length 0 5
    simp [Lib.bytesCells, e, e2]; omega
  simp only [World.frozen?, Lib.bytesWorld_at_new, e3, Bool.and_eq_false_iff, decide_eq_false_iff_not]
  left
  omega

theorem below_setCells {B b : Nat} {a : World} (vs : List Value) : ∀ (o : Nat) {w : World}, Below B a w → B ≤ b → Below B a (w.setCells b o vs) := by
  induction vs with
  | nil => intro o w h _; exact h
  | cons v r ih => intro o w h hB; exact ih _ (h.setCell (p := ⟨b, o, none⟩) hB v) hB
theorem zeroCells_one (z : Value) (n : Nat) : Builtin.zeroCells #[z] n = (List.replicate n z).toArray := by
  apply Array.ext
  · simp [Builtin.zeroCells]
  · intro i h1 h2
    simp [Builtin.zeroCells, Nat.mod_one]

theorem filled_run (ty : TypeId) (w : World) (l : List UInt8) (hl : l.length ≤ 8) :
    ∃ v w', (Builtin.append_ #[22, 3] ty #[.slice (some ⟨w.heap.size, 0, none⟩) l.length (grownCap w l.length 0 5), .int .i64 (8 - (l.length : Int))]).run Try.prog (Lib.bytesWorld w 5 (str l)) = .ok v w' ∧ Fr w' w.heap.size v (fill l 8) ∧ Below w.heap.size w w' := by
  obtain ⟨i0, hi, hz0, hz1, hz2⟩ := info_parts info_u8
  obtain ⟨k, hk⟩ : ∃ k : Nat, l.length + k = 8 := ⟨8 - l.length, by omega⟩
  have hk2 : (8 - (l.length : Int)) = ((k : Nat) : Int) := by omega
  rw [hk2]
  have hfill : fill l 8 = l ++ List.replicate k 0 := by unfold fill; rw [List.take_of_length_le hl]; congr 2; omega
  have hfl : (fill l 8).length = 8 := fill_length l 8
  have hb := bytesWorld_below w l
  have hg := grown_fit w l.length (by omega)
  generalize hC : grownCap w l.length 0 5 = C at *
  by_cases hfit : l.length + k ≤ C
  · have hst := run_storeCells_cells (P := Try.prog) w.heap.size l.length (List.replicate k (Value.int .u8 0)) 0 (Lib.bytesWorld w 5 (str l))
      (fun j hj => by rw [bytesWorld_all w l (l.length + 0 + j) (by simp at hj; omega) (by omega)]; rfl)
      (fun j hj => bytesWorld_fz w l _ (by simp at hj; omega)) (fun v hv => by rw [List.eq_of_mem_replicate hv]; rfl)
    have hadd : (⟨w.heap.size, 0, none⟩ : Addr).add l.length = ⟨w.heap.size, l.length, none⟩ := by rw [Addr.add_lit, Nat.zero_add]
    have hpos : ¬ ((k : Int) < 0) := by omega
    have h48 : ¬ (281474976710656 < (k : Int)) := by omega
    have hw : IntKind.i64.wrap (k : Int) = k := by rw [IntKind.wrap_i64]; omega
    have hcells : (Value.int IntKind.u8 0).cells = #[Value.int .u8 0] := rfl
    rw [Nat.add_zero] at hst
    refine ⟨.slice (some ⟨w.heap.size, 0, none⟩) 8 C, (Lib.bytesWorld w 5 (str l)).setCells w.heap.size l.length (List.replicate k (Value.int .u8 0)), ?_, ?_, below_setCells _ _ hb (Nat.le_refl _)⟩
    · rcases Nat.eq_zero_or_pos k with rfl | hk0
      · have hw0 : IntKind.i64.wrap 0 = 0 := rfl
        have hle : l.length ≤ C := hg.1
        simp [hw0, hle, Builtin.append_, run_underlying Try.underlying22, run_underlying Try.underlying3, sizeOf, typeInfo, zeroValue, hi, hz0, hz1, hz2, asInt, asIntOf, hfit, hadd, storeCells, World.setCells]
        omega
      · have hk1 : ¬ (k = 0) := by omega
        simp [hcells, Builtin.append_, run_underlying Try.underlying22, run_underlying Try.underlying3, sizeOf, typeInfo, zeroValue, hi, hz0, hz1, hz2, asInt, asIntOf, hw, hpos, h48, hk1, hfit, hadd, zeroCells_one, hst]
        omega
    · refine ⟨some ⟨w.heap.size, 0, none⟩, C, by rw [hfl], ?_, fun _ a ha => by injection ha with ha; rw [← ha]; exact Nat.le_refl _⟩
      refine ⟨rfl, by rw [hfl]; omega, hg.2, fun h => (by cases h), fun _ => ⟨_, _, rfl, fun i b hb2 => ?_⟩⟩
      rw [Nat.zero_add]
      have hi8 : i < 8 := by have := (List.getElem?_eq_some_iff.1 hb2).1; omega
      rw [hfill] at hb2
      by_cases hil : i < l.length
      · rw [World.cell?_setCells_out _ _ _ _ _ (fun _ _ => .inl hil)]
        rw [List.getElem?_append_left hil] at hb2
        exact bytesWorld_cell w l i b hb2
      · rw [List.getElem?_append_right (by omega), List.getElem?_replicate, if_pos (by omega)] at hb2
        injection hb2 with hb2
        subst hb2
        have := World.cell?_setCells_in w.heap.size (List.replicate k (Value.int IntKind.u8 0)) l.length (Lib.bytesWorld w 5 (str l)) (fun j hj => by rw [bytesWorld_all w l (l.length + j) (by simp at hj; omega) (by omega)]; rfl) (i - l.length) (by simp; omega)
        rw [show l.length + (i - l.length) = i from by omega] at this
        rw [this]
        simp [bv]
  · have hk0 : 0 < k := by omega
    have hold : (Builtin.firstCells i0.size l.length (.slice (some ⟨w.heap.size, 0, none⟩) l.length C)).run Try.prog (Lib.bytesWorld w 5 (str l)).drew = .ok (l.map bv).toArray (Lib.bytesWorld w 5 (str l)).drew := by
      have hrd : ∀ j v, (l.map bv)[j]? = some v → (Lib.bytesWorld w 5 (str l)).drew.cell? ((⟨w.heap.size, 0, none⟩ : Addr).add j) = some v := by
        intro j v hv
        rw [List.getElem?_map] at hv
        cases hb3 : l[j]? with
        | none => rw [hb3] at hv; cases hv
        | some b =>
          rw [hb3] at hv
          injection hv with hv
          subst hv
          have e : (⟨w.heap.size, 0, none⟩ : Addr).add j = ⟨w.heap.size, j, none⟩ := by rw [Addr.add_lit, Nat.zero_add]
          have h3 := bytesWorld_cell w l j b hb3
          rw [e]
          exact h3
      have := run_loadCells_list (P := Try.prog) (Lib.bytesWorld w 5 (str l)).drew ⟨w.heap.size, 0, none⟩ (l.map bv) hrd
      simpa [Builtin.firstCells, hz1] using this
    have hnc : Builtin.nextslicecap (l.length + k) C * i0.bytes ≤ 281474976710656 := by
      rw [hz2, hk, Nat.mul_one]
      unfold Builtin.nextslicecap
      by_cases h2 : 8 > 2 * C
      · rw [if_pos h2]; omega
      · rw [if_neg h2, if_pos (by omega)]; omega
    have hg2 := Lib.run_append_grow_zeros (P := Try.prog) (Lib.bytesWorld w 5 (str l)) 22 3 ty 5 i0 (.int .u8 0) .i64 .i64 Try.underlying22 Try.underlying3 hi hz0 (some ⟨w.heap.size, 0, none⟩) l.length C (l.map bv) hold k hk0 (by omega) (by omega) (by omega) (by rw [hz2]; omega) hnc
    refine ⟨_, _, hg2, ?_, (hb.drew).alloc hb.size _⟩
    have hge := grownCap_ge (Lib.bytesWorld w 5 (str l)) (l.length + k) C 5
    have hgm := grownCap_le_maxLen (Lib.bytesWorld w 5 (str l)) (l.length + k) C 5 (by unfold maxLen; omega)
    refine ⟨some ⟨(Lib.bytesWorld w 5 (str l)).heap.size, 0, none⟩, grownCap (Lib.bytesWorld w 5 (str l)) (l.length + k) C 5, by rw [hfl, hk], ?_, fun _ a ha => by injection ha with ha; rw [← ha]; exact hb.size⟩
    refine ⟨rfl, by rw [hfl]; omega, hgm, fun h => (by cases h), fun _ => ⟨_, _, rfl, fun i b hb2 => ?_⟩⟩
    rw [Nat.zero_add]
    have hi8 : i < 8 := by have := (List.getElem?_eq_some_iff.1 hb2).1; omega
    have hcells : (Value.int IntKind.u8 0).cells = #[Value.int .u8 0] := rfl
    have hnew := heap_alloc_new (Lib.bytesWorld w 5 (str l)).drew (.cells ((l.map bv).toArray ++ Builtin.zeroCells (Value.int IntKind.u8 0).cells k ++ Builtin.zeroCells (Value.int IntKind.u8 0).cells (grownCap (Lib.bytesWorld w 5 (str l)) (l.length + k) C 5 - (l.length + k))) 5)
    have hd : (Lib.bytesWorld w 5 (str l)).drew.heap.size = (Lib.bytesWorld w 5 (str l)).heap.size := rfl
    rw [hd] at hnew
    simp only [World.cell?, hnew]
    rw [hcells, zeroCells_one, Array.getElem?_append_left (by simp; omega)]
    rw [hfill] at hb2
    have : ((l.map bv).toArray ++ (List.replicate k (Value.int IntKind.u8 0)).toArray) = ((l ++ List.replicate k 0).map bv).toArray := by simp [bv]
    rw [this, List.getElem?_toArray, List.getElem?_map, hb2]
    rfl

theorem val_filled (l : List UInt8) (w : World) (hl : l.length ≤ 8) :
    Calls Try.prog 76 #[.string (str l)] w fun e w' => ∃ v, e = .returned v ∧ Fr w' w.heap.size v (fill l 8) ∧ Below w.heap.size w w' := by
  have hz := str_size l
  have hc := fun w => conv_str w l
  obtain ⟨v, w', hr, hf, hb⟩ := filled_run 22 w l hl
  go_enter Try.func76, Try.ntmps76
  go_wp2_with (at_builtin; refine Lib.wpList_append_run _ rfl _ _ _ _ rfl _ _ rfl rfl _ _ hr ?_)
  go_ret
  exact ⟨_, rfl, hf, hb⟩

/-- number of eight bytes at most. -/
theorem val_number (l : List UInt8) (w : World) (h8 : l.length ≤ 8) :
    Calls Try.prog 72 #[.string (str l)] w fun e w' => e = .returned (.int .u64 (numB l)) ∧ Below w.heap.size w w' := by
  have hz := str_size l
  have hc := fun w => conv_str w l
  have h := bytesWorld_rb w l (by omega)
  have hb := bytesWorld_below w l
  go_enter Try.func72, Try.ntmps72
  go_wp2
  obtain ⟨W, hW⟩ : ∃ W, W = Lib.bytesWorld w 5 (str l) := ⟨_, rfl⟩
  rw [← hW] at h hb
  rw [← hW]
  clear hW hc hz
  generalize grownCap w l.length 0 5 = C at *
  go_loop [3, 5, 9] (fun n _ i => ∃ j : Nat, j ≤ l.length ∧ i = .int .i64 j ∧ n = .int .u64 (numB (l.take j))) (fun _ _ i => l.length - (intOf i).toNat)
  case atStart => exact ⟨0, by omega, rfl, rfl⟩
  case round =>
    obtain ⟨j, hj, rfl, rfl⟩ := hrel
    by_cases hlt : j < l.length
    · obtain ⟨g, o, ho, hc⟩ := h.at_ (by omega)
      injection ho with ho
      injection ho with ho1 ho2
      subst ho1; subst ho2
      have hcell := hc j l[j] (List.getElem?_eq_getElem hlt)
      rw [Nat.zero_add] at hcell
      obtain ⟨b, hb⟩ : ∃ b, l[j] = b := ⟨_, rfl⟩
      rw [hb] at hcell
      have htk : l.take (j + 1) = l.take j ++ [b] := by rw [List.take_succ_eq_append_getElem hlt, hb]
      have Hn := Lib.hid (numB_snoc (l.take j) b)
      rw [← htk] at Hn
      have n0 := numB_nonneg (l.take j)
      clear htk hb hc
      unfold bv at hcell
      have bl := b.toNat_lt
      have n1 := numB_lt (l.take j)
      have hlen : (l.take j).length = j := by rw [List.length_take]; omega
      have p2 : (256 : Int) ^ (l.take j).length ≤ 72057594037927936 := by rw [hlen]; exact pow256 j (by omega)
      have Ho := Lib.hid (or_byte64 (numB (l.take j)) b n0 (by omega))
      clear n1 p2 hlen
      go_wp2
      exact ⟨⟨j + 1, by omega, by go_num, by rw [Ho.out, Hn.out]⟩, by simp [intOf]; omega⟩
    · obtain hjl : j = l.length := by omega
      have hd : l.take j = l := List.take_of_length_le (by omega)
      rw [hd, hjl]
      clear hd hjl hj
      go_wp2
      go_ret
      exact ⟨rfl, hb⟩
end Go.Proofs.Ytfldmejjepakeaa
/- The order of bytes: numbers written with the greatest byte first order as they do. -/
namespace Go.Proofs.Ytfldmejjepakeaa
open Go.ChangeShapes Go.WideShapes Go.ChangeAt Go.RowKit
open Go.ChangeMaps (open_string shut_string)
set_option linter.unusedVariables false
set_option linter.unusedSimpArgs false
set_option maxRecDepth 100000

theorem numF_lin (l : List UInt8) : ∀ a : Int, l.foldl (fun (n : Int) (b : UInt8) => n * 256 + (b.toNat : Int)) a = a * 256 ^ l.length + numB l := by
  induction l with
  | nil => intro a; simp [numB]
  | cons b l ih =>
    intro a
    have e0 : numB (b :: l) = (b.toNat : Int) * 256 ^ l.length + numB l := by
      unfold numB
      rw [List.foldl_cons, ih]
      simp only [Int.zero_mul, Int.zero_add]
      rfl
    rw [List.foldl_cons, ih, e0, List.length_cons, Int.pow_succ, Int.add_mul, Int.mul_comm (256 ^ l.length) 256, Int.mul_assoc, Int.add_assoc]

theorem numB_cons (b : UInt8) (l : List UInt8) : numB (b :: l) = (b.toNat : Int) * 256 ^ l.length + numB l := by
  unfold numB
  rw [List.foldl_cons, numF_lin]
  simp only [Int.zero_mul, Int.zero_add]
  rfl
theorem numB_append (l l' : List UInt8) : numB (l ++ l') = numB l * 256 ^ l'.length + numB l' := by
  show List.foldl _ _ _ = _
  rw [List.foldl_append, numF_lin]
  rfl

theorem numB_be (k m : Nat) : numB (be k (m : Int)) = ((m % 256 ^ k : Nat) : Int) := by
  induction k with
  | zero => simp [be, numB, Nat.mod_one]
  | succ k ih =>
    have hb : ((byteAt (m : Int) k).toNat : Int) = ((m / 256 ^ k % 256 : Nat) : Int) := by
      have h := byte_of (m : Int) k
      rw [IntKind.wrap_u8, show (8 * (k : Int)).toNat = 8 * k from by omega] at h
      rw [← h]
      have e : (2 : Int) ^ (8 * k) = ((256 ^ k : Nat) : Int) := by
        rw [Int.pow_mul, Int.natCast_pow]
        rfl
      rw [e]
      generalize 256 ^ k = P
      rw [Int.natCast_emod, Int.natCast_ediv]
      rfl
    rw [be, numB_cons, be_length, ih, hb, Nat.pow_succ, Nat.mod_mul]
    have e2 : (256 : Int) ^ k = ((256 ^ k : Nat) : Int) := by rw [Int.natCast_pow]; rfl
    rw [e2]
    generalize 256 ^ k = P
    rw [Int.natCast_add, Int.natCast_mul, Int.mul_comm]
    omega

theorem bytesLess_num : ∀ l l' : List UInt8, l.length = l'.length → Op.bytesLess l l' = decide (numB l < numB l')
  | [], [], _ => by simp [Op.bytesLess, numB]
  | [], _ :: _, h => by simp at h
  | _ :: _, [], h => by simp at h
  | a :: x, b :: y, h => by
    have hl : x.length = y.length := by simpa using h
    have ih := bytesLess_num x y hl
    have x0 := numB_nonneg x
    have y0 := numB_nonneg y
    have x1 := numB_lt x
    have y1 := numB_lt y
    rw [numB_cons, numB_cons, hl]
    rw [hl] at x1
    generalize (256 : Int) ^ y.length = P at *
    simp only [Op.bytesLess, ih]
    by_cases h1 : a < b
    · have : a.toNat < b.toNat := UInt8.lt_iff_toNat_lt.1 h1
      have h2 : ((a.toNat : Int) + 1) * P ≤ (b.toNat : Int) * P := Int.mul_le_mul_of_nonneg_right (by omega) (by omega)
      rw [Int.add_mul, Int.one_mul] at h2
      simp only [h1, decide_true, Bool.true_or]
      exact (decide_eq_true (by omega)).symm
    · by_cases h3 : a = b
      · subst h3
        simp
      · have : b.toNat < a.toNat := by
          have h4 : ¬ a.toNat < b.toNat := fun h => h1 (UInt8.lt_iff_toNat_lt.2 h)
          have h5 : a.toNat ≠ b.toNat := fun h => h3 (UInt8.toNat_inj.1 h)
          omega
        have h2 : ((b.toNat : Int) + 1) * P ≤ (a.toNat : Int) * P := Int.mul_le_mul_of_nonneg_right (by omega) (by omega)
        rw [Int.add_mul, Int.one_mul] at h2
        have h6 : (a == b) = false := by simpa using h3
        simp only [h1, h6, decide_false, Bool.false_and, Bool.or_self]
        exact (decide_eq_false (by omega)).symm

theorem numB_inj : ∀ l l' : List UInt8, l.length = l'.length → numB l = numB l' → l = l'
  | [], [], _, _ => rfl
  | [], _ :: _, h, _ => by simp at h
  | _ :: _, [], h, _ => by simp at h
  | a :: x, b :: y, h, e => by
    have hl : x.length = y.length := by simpa using h
    have x0 := numB_nonneg x
    have y0 := numB_nonneg y
    have x1 := numB_lt x
    have y1 := numB_lt y
    rw [numB_cons, numB_cons, hl] at e
    rw [hl] at x1
    have ih := numB_inj x y hl
    generalize (256 : Int) ^ y.length = P at *
    have hab : a.toNat = b.toNat := by
      rcases Nat.lt_trichotomy a.toNat b.toNat with h | h | h
      · have h2 : ((a.toNat : Int) + 1) * P ≤ (b.toNat : Int) * P := Int.mul_le_mul_of_nonneg_right (by omega) (by omega)
        rw [Int.add_mul, Int.one_mul] at h2
        omega
      · exact h
      · have h2 : ((b.toNat : Int) + 1) * P ≤ (a.toNat : Int) * P := Int.mul_le_mul_of_nonneg_right (by omega) (by omega)
        rw [Int.add_mul, Int.one_mul] at h2
        omega
    have : a = b := UInt8.toNat_inj.1 hab
    subst this
    rw [ih (by omega)]
end Go.Proofs.Ytfldmejjepakeaa
/- Contracts of slab.Writer: Sealed, Raw of one part, Len; of slab.Reader. -/
namespace Go.Proofs.Ytfldmejjepakeaa
open Go.ChangeShapes Go.WideShapes Go.ChangeAt Go.RowKit
open Go.ChangeMaps (open_string shut_string)
set_option linter.unusedVariables false
set_option linter.unusedSimpArgs false
set_option maxRecDepth 100000

/-- What Sealed tells. -/
def sealedE (l : List UInt8) (br : Bool) (n : Int) : Int := if br || decide (n < 0) || decide (1048576 < n) then 1 else if n < l.length then 4 else 0

theorem sealed_err (p : Nat) (v : Value) (l : List UInt8) (br : Bool) (n : Int) (w : World) (h : Wr w p v l br) (hl : l.length ≤ 1099511627776) (he : sealedE l br n ≠ 0) :
    Calls Try.prog 55 #[.pointer (some ⟨p, 0, none⟩), .int .i64 n] w fun e w' => e = .returned (.tuple #[.slice none 0 0, .int .i64 (sealedE l br n)]) ∧ w = w' := by
  obtain ⟨A, c, rfl, hc1, hc2⟩ := h.own.form
  have c0 := h.c0
  have c1 := h.c1
  rcases br with _ | _
  · by_cases h1 : n < 0
    · have e : sealedE l false n = 1 := by simp [sealedE, h1]
      rw [e]
      go_enter Try.func55, Try.ntmps55
      go_wp2
      go_ret2
      exact ⟨rfl, rfl⟩
    · by_cases h2 : 1048576 < n
      · have e : sealedE l false n = 1 := by simp [sealedE, h2]
        rw [e]
        go_enter Try.func55, Try.ntmps55
        go_wp2
        go_ret2
        exact ⟨rfl, rfl⟩
      · have h3 : n < l.length := by simp only [sealedE] at he; simp [h1, h2] at he; omega
        have e : sealedE l false n = 4 := by simp [sealedE, h1, h2, h3]
        rw [e]
        go_enter Try.func55, Try.ntmps55
        go_wp2
        go_ret2
        exact ⟨rfl, rfl⟩
  · have e : sealedE l true n = 1 := by simp [sealedE]
    rw [e]
    go_enter Try.func55, Try.ntmps55
    go_wp2
    go_ret2
    exact ⟨rfl, rfl⟩

theorem sealed_ok (p : Nat) (v : Value) (l : List UInt8) (n : Nat) (w : World) (h : Wr w p v l false) (hn : n ≤ 1048576) (hl : l.length ≤ n) :
    Calls Try.prog 55 #[.pointer (some ⟨p, 0, none⟩), .int .i64 n] w fun e w' => e = .returned (.tuple #[.slice (some ⟨w.heap.size, 0, none⟩) n n, .int .i64 0]) ∧
      Blk w' w.heap.size (bcells (fill l n)) 5 ∧ Below w.heap.size w w' := by
  obtain ⟨A, c, rfl, hc1, hc2⟩ := h.own.form
  have c0 := h.c0
  have c1 := h.c1
  have hmk := fun w => run_mk w n (by omega)
  have hlt := h.lt
  go_enter Try.func55, Try.ntmps55
  go_wp2_with (refine wpList_cp rfl (.tmp 30) (.tmp 34) rfl w.heap.size 0 n n (List.replicate n 0) l A l.length c rfl rfl (Blk.new _ _ _) (h.own.reads.alloc _) (by simp) ?_; intro w2 hb2 hk2)
  rw [splice_fill] at hb2
  have b2 : Below w.heap.size w w2 := ((Below.refl w.heap.size w).alloc (Nat.le_refl _) _).keeps hk2 (by omega) (Nat.le_refl _)
  go_wp2
  go_ret2
  exact ⟨rfl, hb2, b2⟩

end Go.Proofs.Ytfldmejjepakeaa
/- Contracts of package nonce: the source. -/
namespace Go.Proofs.Ytfldmejjepakeaa
open Go.ChangeShapes Go.WideShapes Go.ChangeAt Go.RowKit
open Go.ChangeMaps (open_string shut_string)
set_option linter.unusedVariables false
set_option linter.unusedSimpArgs false
set_option maxRecDepth 100000

def amongB (n : Int) : Bool := decide (0 ≤ n) && decide (n ≤ 1099511627776)

def src (gen count most : Int) : Array Value := #[.int .i64 gen, .int .i64 count, .int .i64 most]

def mayAt (gen count most : Int) : Bool := decide (1 ≤ gen) && amongB gen && amongB count && amongB most && decide (count ≤ most)

end Go.Proofs.Ytfldmejjepakeaa
/- Contracts of nonces: Bytes, Parse, Less, and the document's. -/
namespace Go.Proofs.Ytfldmejjepakeaa
open Go.ChangeShapes Go.WideShapes Go.ChangeAt Go.RowKit
open Go.ChangeMaps (open_string shut_string)
set_option linter.unusedVariables false
set_option linter.unusedSimpArgs false
set_option maxRecDepth 100000

/-- Several numbers, one behind the other; those that may not be are passed over. -/
def numsP (width : Int) : List UInt8 → List Int → List UInt8
  | l, [] => l
  | l, n :: ns => numsP width (numL l false width n) ns

/-- A nonce's twelve bytes. -/
def nonceB (gen count : Int) : List UInt8 := if amongB gen && amongB count then be 6 gen ++ be 6 count else List.replicate 12 0

theorem good6 (n : Int) (h : amongB n = true) : badNum 6 n = false := by
  simp [amongB] at h
  have e : topW (Int.toNat 6) = 281474976710655 := by simp [topW]
  simp only [badNum, e, mayW]
  simp
  omega

theorem numsL_nonce (gen count : Int) (h1 : amongB gen = true) (h2 : amongB count = true) : numsL [] false 6 [gen, count] = (be 6 gen ++ be 6 count, false) := by
  simp [numsL, numL, good6 _ h1, good6 _ h2]
theorem numsP_nonce (gen count : Int) (h1 : amongB gen = true) (h2 : amongB count = true) : numsP 6 [] [gen, count] = be 6 gen ++ be 6 count := by
  simp [numsP, numL, good6 _ h1, good6 _ h2]
theorem nonceB_length (gen count : Int) : (nonceB gen count).length = 12 := by
  unfold nonceB; split <;> simp [be_length]

end Go.Proofs.Ytfldmejjepakeaa
/- Contracts of nonces: Parse, Less, and the document's May, Bytes, ParseNonce. -/
namespace Go.Proofs.Ytfldmejjepakeaa
open Go.ChangeShapes Go.WideShapes Go.ChangeAt Go.RowKit
open Go.ChangeMaps (open_string shut_string)
set_option linter.unusedVariables false
set_option linter.unusedSimpArgs false
set_option maxRecDepth 100000

/-- The document's reading of twelve bytes. -/
def parseOk (l : List UInt8) : Bool := l.length == 12 && (amongB (rnumV (l.take 6)) && amongB (rnumV (l.drop 6)))

/-- The nonce that is read. -/
def parseV (l : List UInt8) : Value := if parseOk l then .agg #[.int .i64 (rnumV (l.take 6)), .int .i64 (rnumV (l.drop 6))] else .agg #[.int .i64 0, .int .i64 0]
theorem parseV_yes {l : List UInt8} (h : parseOk l = true) : parseV l = .agg #[.int .i64 (rnumV (l.take 6)), .int .i64 (rnumV (l.drop 6))] := by simp [parseV, h]
theorem parseV_no {l : List UInt8} (h : parseOk l = false) : parseV l = .agg #[.int .i64 0, .int .i64 0] := by simp [parseV, h]

end Go.Proofs.Ytfldmejjepakeaa
/- Contracts of nonce.Parse and nonce.Less. -/
namespace Go.Proofs.Ytfldmejjepakeaa
open Go.ChangeShapes Go.WideShapes Go.ChangeAt Go.RowKit
open Go.ChangeMaps (open_string shut_string)
set_option linter.unusedVariables false
set_option linter.unusedSimpArgs false
set_option maxRecDepth 100000

def parseE (l : List UInt8) : Int := if parseOk l then 0 else 2
theorem parseE_yes {l : List UInt8} (h : parseOk l = true) : parseE l = 0 := by simp [parseE, h]
theorem parseE_no {l : List UInt8} (h : parseOk l = false) : parseE l = 2 := by simp [parseE, h]

theorem rnumR_six (l : List UInt8) (h : 6 ≤ l.length) : rnumR l 0 6 = (rnumV (l.take 6), l.drop 6, 0) := by
  have e : rnumE l 0 6 = 0 := by
    unfold rnumE
    rw [if_pos (by decide)]
    unfold rawE
    rw [if_neg (by omega), if_neg (by omega)]
  unfold rnumR
  rw [if_pos e]
  rfl

def cmpI (x y : Int) : Int := if x < y then -1 else if y < x then 1 else 0

def orI (x y : Int) : Int := if x = 0 then y else x

/-- Does one stand ahead of the other? -/
def lessB (g c g' c' : Int) : Bool := decide (orI (cmpI g g') (cmpI c c') < 0)

end Go.Proofs.Ytfldmejjepakeaa
/- What a nonce's bytes tell: its numbers, its order. -/
namespace Go.Proofs.Ytfldmejjepakeaa
open Go.ChangeShapes Go.WideShapes Go.ChangeAt Go.RowKit
open Go.ChangeMaps (open_string shut_string)
set_option linter.unusedVariables false
set_option linter.unusedSimpArgs false
set_option maxRecDepth 100000

theorem among_nat {n : Int} (h : amongB n = true) : ∃ m : Nat, n = m ∧ m ≤ 1099511627776 := by
  simp [amongB] at h
  exact ⟨n.toNat, by omega, by omega⟩

theorem numB_six {n : Int} (h : amongB n = true) : numB (be 6 n) = n := by
  obtain ⟨m, rfl, hm⟩ := among_nat h
  rw [numB_be, Nat.mod_eq_of_lt (Nat.lt_of_le_of_lt hm (by decide))]

theorem rnumV_six {n : Int} (h : amongB n = true) : rnumV (be 6 n) = n := by
  unfold rnumV
  rw [be_length, numB_six h]
  have e : topW 6 = 281474976710655 := by simp [topW]
  simp [amongB] at h
  rw [e, if_neg (by omega)]

theorem nonceB_yes {g c : Int} (h1 : amongB g = true) (h2 : amongB c = true) : nonceB g c = be 6 g ++ be 6 c := by simp [nonceB, h1, h2]

theorem parse_back {g c : Int} (h1 : amongB g = true) (h2 : amongB c = true) : parseOk (nonceB g c) = true ∧ parseV (nonceB g c) = .agg #[.int .i64 g, .int .i64 c] ∧ parseE (nonceB g c) = 0 := by
  have t : (be 6 g ++ be 6 c).take 6 = be 6 g := by rw [List.take_append_of_le_length (by rw [be_length]; omega), List.take_of_length_le (by rw [be_length]; omega)]
  have d : (be 6 g ++ be 6 c).drop 6 = be 6 c := by
    rw [List.drop_append, be_length, List.drop_eq_nil_of_le (by rw [be_length]; omega)]; rfl
  have ok : parseOk (nonceB g c) = true := by
    rw [nonceB_yes h1 h2]
    unfold parseOk
    rw [t, d, rnumV_six h1, rnumV_six h2, h1, h2]
    simp [be_length]
  refine ⟨ok, ?_, parseE_yes ok⟩
  rw [parseV_yes ok, nonceB_yes h1 h2, t, d, rnumV_six h1, rnumV_six h2]

theorem numB_nonce {g c : Int} (h1 : amongB g = true) (h2 : amongB c = true) : numB (nonceB g c) = g * 281474976710656 + c := by
  rw [nonceB_yes h1 h2, numB_append, numB_six h1, numB_six h2, be_length]
  rfl

theorem lessB_spec (g c g' c' : Int) : lessB g c g' c' = decide (g < g' ∨ g = g' ∧ c < c') := by
  unfold lessB orI cmpI
  by_cases h1 : g < g'
  · simp [h1]
  · by_cases h2 : g' < g
    · have : g ≠ g' := by omega
      simp [h1, h2, this]
    · obtain rfl : g = g' := by omega
      by_cases h3 : c < c'
      · simp [h3]
      · by_cases h4 : c' < c <;> simp [h3, h4]

theorem less_bytes {g c g' c' : Int} (h1 : amongB g = true) (h2 : amongB c = true) (h3 : amongB g' = true) (h4 : amongB c' = true) : Op.bytesLess (nonceB g c) (nonceB g' c') = lessB g c g' c' := by
  rw [bytesLess_num _ _ (by rw [nonceB_length, nonceB_length]), numB_nonce h1 h2, numB_nonce h3 h4, lessB_spec]
  simp [amongB] at h1 h2 h3 h4
  rw [decide_eq_decide]
  omega

theorem eq_bytes {g c g' c' : Int} (h1 : amongB g = true) (h2 : amongB c = true) (h3 : amongB g' = true) (h4 : amongB c' = true) : (nonceB g c == nonceB g' c') = (g == g' && c == c') := by
  rw [Bool.eq_iff_iff]
  simp only [beq_iff_eq, Bool.and_eq_true]
  constructor
  · intro h
    have := congrArg numB h
    rw [numB_nonce h1 h2, numB_nonce h3 h4] at this
    simp [amongB] at h1 h2 h3 h4
    omega
  · rintro ⟨rfl, rfl⟩; rfl
end Go.Proofs.Ytfldmejjepakeaa
/- The chapter's examples hold: what 'first' of chapter 5 tells. -/
namespace Go.Proofs.Ytfldmejjepakeaa
open Go.ChangeShapes Go.WideShapes Go.ChangeAt Go.RowKit
open Go.ChangeMaps (open_string shut_string)
set_option linter.unusedVariables false
set_option linter.unusedSimpArgs false
set_option maxRecDepth 100000

end Go.Proofs.Ytfldmejjepakeaa
/- A slice of bytes that came in reads as bytes. -/
namespace Go.Proofs.Ytfldmejjepakeaa
open Go.ChangeShapes Go.WideShapes Go.ChangeAt Go.RowKit
open Go.ChangeMaps (open_string shut_string)
set_option linter.unusedVariables false
set_option linter.unusedSimpArgs false
set_option maxRecDepth 100000
section
variable {H : Type} {enc : TypeId × Value → H}
theorem cells_u8 : Try.prog.cellsOf 5 = 1 := by kernel_rfl
theorem wf_byte {n : Int} (h : (Lit.int .u8 n).wf = true) : 0 ≤ n ∧ n < 256 := by
  have := range_u8 (zs := [n]) (fun m hm => by simp at hm; subst hm; exact h) 0
  simp at this
  omega
theorem open_bytes1 {W : World} {fuel : Nat} {v : Value} {x : DataW H × List MemPlace} (hf : DataW.trod enc Try.prog W 0 (fun _ => true) true fuel 22 [v] = some x) :
    ∃ A n c l, v = .slice A n c ∧ RB W A n c l := by
  rcases open_ints Try.underlying22 Try.underlying5 cells_u8 hf with ⟨hcs, hx⟩ | ⟨a, len', cap', zs, hcs, _, hl, hm, hz, hx, hcell, hwz⟩
  · simp at hcs
    exact ⟨none, 0, 0, [], hcs, RB.none_ W⟩
  · simp at hcs
    simp only [if_true] at hz
    refine ⟨some a, len', cap', (zs.take len').map fun n => UInt8.ofNat n.toNat, hcs, by simp; omega, hl, hm, fun h => (by cases h), fun hn => ?_⟩
    obtain ⟨ab, ao, spot⟩ := a
    have hspot : spot = none := by simpa [Addr.add] using World.cell?_spot (hcell 0 (by omega))
    subst hspot
    refine ⟨ab, ao, rfl, fun i b hb => ?_⟩
    have hi : i < len' := by have := (List.getElem?_eq_some_iff.1 hb).1; simp at this; omega
    have hc := hcell i (by omega)
    rw [Addr.add_lit] at hc
    rw [hc]
    rw [List.getElem?_map, List.getElem?_take, if_pos hi, List.getElem?_eq_getElem (by omega)] at hb
    simp only [Option.map_some, Option.some.injEq] at hb
    rw [← hb]
    have hw := wf_byte (hwz (zs[i]'(by omega)) (List.getElem_mem _))
    simp only [List.getD, List.getElem?_eq_getElem (show i < zs.length by omega), Option.getD_some, bv]
    generalize zs[i]'(by omega) = z at *
    rw [UInt8.toNat_ofNat', Nat.mod_eq_of_lt (by omega)]
    congr 3
    omega
theorem open_bytes {W : World} {base : Nat} {v1 : Value} {d1 : DataW H} {p1 : List MemPlace} (hval : Value.okWide Try.prog W .any base 22 v1) (h1 : DataW.Trod enc Try.prog W 0 (fun _ => true) true 22 v1 d1 p1) :
    ∃ A n c l, v1 = .slice A n c ∧ RB W A n c l := by
  obtain ⟨a1, len, cap, rfl⟩ := okWide_slice Try.underlying22 hval
  obtain ⟨fuel, hf⟩ := h1
  exact open_bytes1 hf
end
end Go.Proofs.Ytfldmejjepakeaa
/- oublaw5.plain, and the words of the laws of chapter 5. -/
namespace Go.Proofs.Ytfldmejjepakeaa
open Go.ChangeShapes Go.WideShapes Go.ChangeAt Go.RowKit
open Go.ChangeMaps (open_string shut_string)
set_option linter.unusedVariables false
set_option linter.unusedSimpArgs false
set_option maxRecDepth 100000

theorem Below.next' {N : Nat} {a w w' : World} (hb : Below w.heap.size w w') (h : Below N a w) (hN : N ≤ a.heap.size) : Below N a w' := h.trans (hb.mono (Nat.le_trans hN h.size))

theorem parseV_two (l : List UInt8) : ∃ x0 x1 : Int, parseV l = .agg #[.int .i64 x0, .int .i64 x1] := by
  rcases h : parseOk l with _ | _
  · exact ⟨0, 0, parseV_no h⟩
  · exact ⟨_, _, parseV_yes h⟩
end Go.Proofs.Ytfldmejjepakeaa
/- Contracts of values: Encode. -/
namespace Go.Proofs.Ytfldmejjepakeaa
open Go.ChangeShapes Go.WideShapes Go.ChangeAt Go.RowKit
open Go.ChangeMaps (open_string shut_string)
set_option linter.unusedVariables false
set_option linter.unusedSimpArgs false
set_option maxRecDepth 100000

/-- Words of 64 bits. -/
def u64 (n : Int) : Int := IntKind.u64.wrap n
theorem u64_range (n : Int) : 0 ≤ u64 n ∧ u64 n < 18446744073709551616 := by unfold u64; rw [IntKind.wrap_u64]; omega

/-- The text of a value that may be. -/
def encB (k n : Int) (l : List UInt8) : List UInt8 := if k = 1 then 1 :: be 8 (u64 n) else UInt8.ofNat (2 + l.length) :: fill l 8
def encE (k n : Int) (l : List UInt8) : Int := if mayV k n l then 0 else 12
theorem encB_length (k n : Int) (l : List UInt8) : (encB k n l).length = 9 := by
  unfold encB; split <;> simp [be_length, fill_length]

theorem may_is_v (k n : Int) (l : List UInt8) (b : Bool) (w : World) (h : mayV k n l = b) : Calls Try.prog 65 #[.agg #[.int .i64 (k), .int .i64 (n), .string (str (l))]] w fun e w' => e = .returned (.bool b) ∧ Below w.heap.size w w' := by
  have := val_may k n l w
  rw [h] at this
  exact this

set_option maxRecDepth 100000 in
theorem enc_no (k n : Int) (l : List UInt8) (w : World) (hm : mayV k n l = false) :
    Calls Try.prog 50 #[.agg #[.int .i64 (k), .int .i64 (n), .string (str (l))]] w fun e w' => e = .returned (.tuple #[.slice none 0 0, .int .i64 12]) ∧ Below w.heap.size w w' := by
  go_enter Try.func50, Try.ntmps50
  go_wp2_with (go_at_call 65; refine (may_is_v _ _ _ _ _ hm).mono ?_; rintro e w1 ⟨rfl, hb⟩)
  go_ret2
  exact ⟨rfl, ((Below.refl w.heap.size w).alloc (Nat.le_refl _) _).trans (hb.mono (by simp))⟩

set_option maxHeartbeats 1000000 in
set_option maxRecDepth 100000 in
theorem enc_int (n : Int) (l : List UInt8) (w : World) (hm : mayV 1 n l = true) :
    Calls Try.prog 50 #[.agg #[.int .i64 (1), .int .i64 (n), .string (str (l))]] w fun e w' => ∃ v, e = .returned (.tuple #[v, .int .i64 0]) ∧ OB w' w.heap.size v (encB 1 n l) ∧ Below w.heap.size w w' := by
  have hbx := Blk.new w #[.int .i64 (1), .int .i64 (n), .string (str (l))] 51
  have hbl : Below w.heap.size w (w.alloc (.cells #[.int .i64 (1), .int .i64 (n), .string (str (l))] 51)) := (by repeat (first | exact Below.refl _ _ | assumption | apply below_drewN' | apply Below.drew | refine Below.alloc ?_ (by first | omega | (simp; done) | (simp; omega)) _ | refine Below.setCell ?_ (by first | omega | (simp; done) | (simp; omega)) _))
  have hu := u64_range n
  go_enter Try.func50, Try.ntmps50
  go_wp2_with fail
  refine (may_is_v _ _ _ _ _ hm).mono ?_
  rintro e w1 ⟨rfl, hb⟩
  have hb1 := hbx.below hb (by simp)
  have c0 := hb1.cell 0 (v := .int .i64 1) rfl
  have c1 := hb1.cell 1 (v := .int .i64 n) rfl
  have hbl1 := hbl.trans (hb.mono (by simp))
  have hlt1 := hb1.lt
  have hq : IntKind.u64.wrap n = u64 n := rfl
  go_wp2_with fail
  refine (val_eight (u64 n) _ hu.1 hu.2).mono ?_
  rintro e w2 ⟨rfl, hb2, hbe2⟩
  simp only [World.size_alloc] at hb2 hbe2
  have hob : OB w2 w.heap.size (.slice (some ⟨w1.heap.size, 0, none⟩) 1 1) [1] :=
    OB.of_row (l := [1]) ((Blk.new w1 (bcells [1]) 5).below hbe2 (by simp)) (by unfold maxLen; simp) (by omega)
  have hrb := RB.of_row hb2 (by rw [be_length]; unfold maxLen; omega)
  have hbl2 := (hbl1.alloc (by omega) (.cells #[.int .u8 1] 5)).trans (hbe2.mono (by omega))
  have hsz := hbl2.size
  rw [be_length] at hrb
  go_wp2_with (refine wpList_app rfl (.tmp 12) (.tmp 16) rfl w.heap.size (.slice (some ⟨w1.heap.size, 0, none⟩) 1 1) [1] (be 8 (u64 n)) _ 8 8 rfl rfl hob hrb (by simp) (by omega) ?_; intro v3 w3 ha; obtain ⟨A3, c3, rfl, _, _⟩ := ha.own.form)
  go_ret2
  exact ⟨_, rfl, ha.own, hbl2.keeps ha.keeps (fun i hi e => by simp [Value.ownBlock] at e; omega) (Nat.le_refl _)⟩

set_option maxHeartbeats 1000000 in
set_option maxRecDepth 100000 in
theorem enc_text (n : Int) (l : List UInt8) (w : World) (hm : mayV 2 n l = true) :
    Calls Try.prog 50 #[.agg #[.int .i64 (2), .int .i64 (n), .string (str (l))]] w fun e w' => ∃ v, e = .returned (.tuple #[v, .int .i64 0]) ∧ OB w' w.heap.size v (encB 2 n l) ∧ Below w.heap.size w w' := by
  have hl : l.length ≤ 8 := by simp [mayV] at hm; exact hm.2
  have hz := str_size l
  have hbx := Blk.new w #[.int .i64 (2), .int .i64 (n), .string (str (l))] 51
  have hbl : Below w.heap.size w (w.alloc (.cells #[.int .i64 (2), .int .i64 (n), .string (str (l))] 51)) := (by repeat (first | exact Below.refl _ _ | assumption | apply below_drewN' | apply Below.drew | refine Below.alloc ?_ (by first | omega | (simp; done) | (simp; omega)) _ | refine Below.setCell ?_ (by first | omega | (simp; done) | (simp; omega)) _))
  go_enter Try.func50, Try.ntmps50
  go_wp2_with fail
  refine (may_is_v _ _ _ _ _ hm).mono ?_
  rintro e w1 ⟨rfl, hb⟩
  have hb1 := hbx.below hb (by simp)
  have c0 := hb1.cell 0 (v := .int .i64 2) rfl
  have c2 := hb1.cell 2 (v := .string (str l)) rfl
  have hbl1 := hbl.trans (hb.mono (by simp))
  have hlt1 := hb1.lt
  have B9 := (Below.refl w1.heap.size w1).drew
  obtain ⟨x, hx⟩ : ∃ x, x = UInt8.ofNat (2 + l.length) := ⟨_, rfl⟩
  have hx8 : IntKind.u8.wrap (IntKind.i64.wrap (2 + (l.length : Int))) = (x.toNat : Int) := by
    rw [hx, UInt8.toNat_ofNat', IntKind.wrap_u8, IntKind.wrap_i64]; omega
  have HE : Hid (encB 2 n l = [x] ++ fill l 8) := by rw [hx]; rfl
  have hfl := fill_length l 8
  clear hx hb hbx hbl hb1 hm
  go_wp2_with fail
  go_region_held3 (fun w' => Below w1.heap.size w1 w' ∧ w'.cell? ⟨w.heap.size, 2, none⟩ = some (.string (str l)))
    (first | exact ⟨by assumption, by assumption⟩ | (refine ⟨(by repeat (first | exact Below.refl _ _ | assumption | apply below_drewN' | apply Below.drew | refine Below.alloc ?_ (by first | omega | (simp; done) | (simp; omega)) _ | refine Below.setCell ?_ (by first | omega | (simp; done) | (simp; omega)) _)), ?_⟩; go_keep))
    (first
      | (go_at_call 76; refine (val_filled l _ hl).mono ?_; rintro e w2 ⟨v, rfl, ⟨A, c, rfl, hrb, hA⟩, hb⟩;
         have B2 := Below.next' hb (by assumption : Below w1.heap.size w1 _ ∧ _).1 (Nat.le_refl _); have d2 := (B2.cell (p := ⟨w.heap.size, 2, none⟩) hlt1).trans c2; rw [hfl] at hrb; have z2 := B2.size;
         try (have hob : OB w2 w.heap.size (.slice (some ⟨w1.heap.size, 0, none⟩) 1 1) [x] := OB.of_row (l := [x]) ((Blk.new w1 (bcells [x]) 5).drew.below hb (by simp)) (by unfold maxLen; simp) (by omega)))
      | (refine step_app rfl (.tmp 23) (.tmp 26) rfl w.heap.size (.slice (some ⟨w1.heap.size, 0, none⟩) 1 1) [x] (fill l 8) A 8 c rfl rfl hob hrb (by simp) (by have := B2.size; omega) ?_; intro v3 w3 ha; obtain ⟨A3, c3, rfl, _, _⟩ := ha.own.form; have B3 := B2.keeps ha.keeps (fun i hi e => by simp [Value.ownBlock] at e; omega) (Nat.le_refl _); have d3 := (B3.cell (p := ⟨w.heap.size, 2, none⟩) hlt1).trans c2)
      | (refine step_app rfl (.tmp 23) (.tmp 26) rfl w.heap.size (.slice (some ⟨w2.heap.size, 0, none⟩) 1 1) [x] (fill l 8) A 8 c rfl rfl (OB.of_row (l := [x]) (Blk.new w2 (bcells [x]) 5) (by unfold maxLen; simp) (by have := B2.size; omega)) (hrb.alloc _) (by simp) (by have := B2.size; simp; omega) ?_; intro v3 w3 ha; obtain ⟨A3, c3, rfl, _, _⟩ := ha.own.form; have B3 := (B2.alloc B2.size _).keeps ha.keeps (fun i hi e => by simp [Value.ownBlock] at e; have := B2.size; omega) (Nat.le_refl _); have d3 := (B3.cell (p := ⟨w.heap.size, 2, none⟩) hlt1).trans c2)
      )
  all_goals (go_wp2; go_ret2; refine ⟨_, rfl, ?_, hbl1.trans (B3.mono (by omega))⟩; have hown := ha.own; rw [show ([x] ++ fill l 8).length = 9 by simp [hfl]] at hown; rw [HE.out]; exact hown)
end Go.Proofs.Ytfldmejjepakeaa
/- Contracts of values: the document's Encode. -/
namespace Go.Proofs.Ytfldmejjepakeaa
open Go.ChangeShapes Go.WideShapes Go.ChangeAt Go.RowKit
open Go.ChangeMaps (open_string shut_string)
set_option linter.unusedVariables false
set_option linter.unusedSimpArgs false
set_option maxRecDepth 100000

theorem refmay_is (k n : Int) (l : List UInt8) (b : Bool) (w : World) (h : mayV k n l = b) : Calls Try.prog 66 #[.agg #[.int .i64 (k), .int .i64 (n), .string (str (l))]] w fun e w' => e = .returned (.bool b) ∧ Below w.heap.size w w' := by
  have := ref_may15 k n l w
  rw [h] at this
  exact this

set_option maxRecDepth 100000 in
theorem renc_no (k n : Int) (l : List UInt8) (w : World) (hm : mayV k n l = false) :
    Calls Try.prog 61 #[.agg #[.int .i64 (k), .int .i64 (n), .string (str (l))]] w fun e w' => e = .returned (.tuple #[.slice none 0 0, .int .i64 12]) ∧ Below w.heap.size w w' := by
  go_enter Try.func61, Try.ntmps61
  go_wp2_with (go_at_call 66; refine (refmay_is _ _ _ _ _ hm).mono ?_; rintro e w1 ⟨rfl, hb⟩)
  go_ret2
  exact ⟨rfl, ((Below.refl w.heap.size w).alloc (Nat.le_refl _) _).trans (hb.mono (by simp))⟩

set_option maxHeartbeats 1000000 in
set_option maxRecDepth 100000 in
theorem renc_text (n : Int) (l : List UInt8) (w : World) (hm : mayV 2 n l = true) :
    Calls Try.prog 61 #[.agg #[.int .i64 (2), .int .i64 (n), .string (str (l))]] w fun e w' => ∃ v, e = .returned (.tuple #[v, .int .i64 0]) ∧ OB w' w.heap.size v (encB 2 n l) ∧ Below w.heap.size w w' := by
  have hl : l.length ≤ 8 := by simp [mayV] at hm; exact hm.2
  have hz := str_size l
  have hcv := fun w => conv_str w l
  have hbx := Blk.new w #[.int .i64 (2), .int .i64 (n), .string (str (l))] 51
  have hbl : Below w.heap.size w (w.alloc (.cells #[.int .i64 (2), .int .i64 (n), .string (str (l))] 51)) := (by repeat (first | exact Below.refl _ _ | assumption | apply below_drewN' | apply Below.drew | refine Below.alloc ?_ (by first | omega | (simp; done) | (simp; omega)) _ | refine Below.setCell ?_ (by first | omega | (simp; done) | (simp; omega)) _))
  go_enter Try.func61, Try.ntmps61
  go_wp2_with fail
  refine (refmay_is _ _ _ _ _ hm).mono ?_
  rintro e w1 ⟨rfl, hb⟩
  have hb1 := hbx.below hb (by simp)
  have c0 := hb1.cell 0 (v := .int .i64 2) rfl
  have hbl1 := hbl.trans (hb.mono (by simp))
  have hlt1 := hb1.lt
  obtain ⟨x, hx⟩ : ∃ x, x = UInt8.ofNat (2 + l.length) := ⟨_, rfl⟩
  have hx8 : IntKind.u8.wrap (IntKind.i64.wrap (2 + (l.length : Int))) = (x.toNat : Int) := by
    rw [hx, UInt8.toNat_ofNat', IntKind.wrap_u8, IntKind.wrap_i64]; omega
  have HE : Hid (encB 2 n l = [x] ++ fill l 8) := by rw [hx]; rfl
  have hfl := fill_length l 8
  have keep := fun {w' w'' : World} (h : Below w1.heap.size w1 w') (hb : Below w'.heap.size w' w'') => h.next hb (Nat.le_refl _)
  clear hx hb hbx hbl hm
  go_wp2_with fail
  have hvo := Free.val
  refine Free.wp_facts (M := [0, 1, 3, 7, 15, 31, 0, 64, 192, 448, 1023, 2047, 4095]) (D := [[], [(0, 18)], [(1, 19)], [(2, 20)], [(3, 21)], [(4, 22)], [], [(6, 24)], [(7, 25)], [(8, 26)], [(5, 23), (9, 27)], [(10, 28)], []]) (outs := [11, 12]) (soles := [10]) (E := [(0, 18, false), (1, 19, false), (2, 20, false), (3, 21, false), (4, 22, false), (5, 23, false), (6, 24, false), (7, 25, false), (8, 26, false), (9, 27, false), (10, 28, false), (11, 2, true), (12, 3, true)]) (N := 29) (S := (fun w' => Below w1.heap.size w1 w')) [Free.Fact.is ?_, Free.Fact.is ?_, Free.Fact.is ?_, Free.Fact.is ?_, Free.Fact.is ?_, Free.Fact.own w1.heap.size [x], Free.Fact.is ?_, Free.Fact.is ?_, Free.Fact.sl l.length l, Free.Fact.sl 8 (fill l 8), Free.Fact.own w1.heap.size ([x] ++ fill l 8), Free.Fact.own w1.heap.size ([x] ++ fill l 8), Free.Fact.is ?_] (by kernel_rfl) (by kernel_rfl) rfl ((Below.refl _ _).drew) ?_ ?_
  rotate_left 8
  refine Free.cons ?_ ?_
  · intro w' hS; intro K hK; have c2 := (hb1.below hS hlt1).cell 2 (v := .string (str l)) rfl; first | (refine Free.run_yes (by rfl) ?_; go_simp; refine Free.o hK hS ?_; exact rfl) | (refine Free.run_no (by rfl) (Free.o hK hS ?_); exact rfl)
  refine Free.cons ?_ ?_
  · intro w' hS; (rintro _ rfl); intro K hK; have c2 := (hb1.below hS hlt1).cell 2 (v := .string (str l)) rfl; first | (refine Free.run_yes (by rfl) ?_; go_simp; refine Free.o hK hS ?_; exact rfl) | (refine Free.run_no (by rfl) (Free.o hK hS ?_); exact rfl)
  refine Free.cons ?_ ?_
  · intro w' hS; (rintro _ rfl); intro K hK; have c2 := (hb1.below hS hlt1).cell 2 (v := .string (str l)) rfl; first | (refine Free.run_yes (by rfl) ?_; go_simp; refine Free.o hK hS ?_; exact rfl) | (refine Free.run_no (by rfl) (Free.o hK hS ?_); exact rfl)
  refine Free.cons ?_ ?_
  · intro w' hS; (rintro _ rfl); intro K hK; have c2 := (hb1.below hS hlt1).cell 2 (v := .string (str l)) rfl; first | (refine Free.run_yes (by rfl) ?_; go_simp; refine Free.o hK hS ?_; exact rfl) | (refine Free.run_no (by rfl) (Free.o hK hS ?_); exact rfl)
  refine Free.cons ?_ ?_
  · intro w' hS; (rintro _ rfl); intro K hK; have c2 := (hb1.below hS hlt1).cell 2 (v := .string (str l)) rfl; first | (refine Free.run_yes (by rfl) ?_; go_simp; refine Free.o hK hS ?_; exact rfl) | (refine Free.run_no (by rfl) (Free.o hK hS ?_); exact rfl)
  refine Free.cons ?_ ?_
  · intro w' hS; (rintro _ rfl); intro K hK; have c2 := (hb1.below hS hlt1).cell 2 (v := .string (str l)) rfl; refine Free.run_yes (by rfl) ?_; (go_simp; (try simp only [Free.valOf, Act.put, List.setIfInBounds_toArray, List.set_cons_zero, List.set_cons_succ, Array.getD_eq_getD_getElem?, List.getElem?_toArray, List.getElem?_cons_succ, List.getElem?_cons_zero, Option.getD_some]); refine hK.out _ _ (OB.of_row (l := [x]) (Blk.new w' (bcells [x]) 5) (by unfold maxLen; simp) hS.size) (hS.alloc hS.size _) (.inr ((Below.refl _ _).alloc (Nat.le_refl _) _)))
  refine Free.cons ?_ ?_
  · intro w' hS; intro K hK; have c2 := (hb1.below hS hlt1).cell 2 (v := .string (str l)) rfl; first | (refine Free.run_yes (by rfl) ?_; go_simp; refine Free.o hK hS ?_; exact rfl) | (refine Free.run_no (by rfl) (Free.o hK hS ?_); exact rfl)
  refine Free.cons ?_ ?_
  · intro w' hS; (rintro _ rfl); intro K hK; have c2 := (hb1.below hS hlt1).cell 2 (v := .string (str l)) rfl; first | (refine Free.run_yes (by rfl) ?_; go_simp; refine Free.o hK hS ?_; exact rfl) | (refine Free.run_no (by rfl) (Free.o hK hS ?_); exact rfl)
  refine Free.cons ?_ ?_
  · intro w' hS; (rintro _ rfl); intro K hK; have c2 := (hb1.below hS hlt1).cell 2 (v := .string (str l)) rfl; refine Free.run_yes (by rfl) ?_; (go_simp; (try simp only [Free.valOf, Act.put, List.setIfInBounds_toArray, List.set_cons_zero, List.set_cons_succ, Array.getD_eq_getD_getElem?, List.getElem?_toArray, List.getElem?_cons_succ, List.getElem?_cons_zero, Option.getD_some]); refine hK.out _ _ ⟨_, _, rfl, bytesWorld_rb w' l (by omega)⟩ (keep hS (bytesWorld_below w' l)) (.inr (bytesWorld_below w' l)))
  refine Free.cons ?_ ?_
  · intro w' hS; (intro v8 h8); intro K hK; have c2 := (hb1.below hS hlt1).cell 2 (v := .string (str l)) rfl; refine Free.run_yes (by rfl) ?_; (obtain ⟨A, c, rfl, hrb⟩ := h8; go_simp; refine (ref_Fill A l.length c 8 l _ hrb (by omega)).mono ?_; rintro e w2 ⟨rfl, hbk, hb⟩; (try simp only [Free.valOf, Act.put, List.setIfInBounds_toArray, List.set_cons_zero, List.set_cons_succ, Array.getD_eq_getD_getElem?, List.getElem?_toArray, List.getElem?_cons_succ, List.getElem?_cons_zero, Option.getD_some]); refine hK.out _ _ (hbk.sl 8 hfl (by unfold maxLen; omega)) (keep hS hb) (.inr hb))
  refine Free.cons ?_ ?_
  · intro w' hS; (intro v5 h5); (intro v9 h9); intro K hK; have c2 := (hb1.below hS hlt1).cell 2 (v := .string (str l)) rfl; refine Free.run_yes (by rfl) ?_; (obtain ⟨A, c, rfl, hrb⟩ := h9; refine wp_app (.tmp 23) (.tmp 27) rfl w1.heap.size v5 [x] (fill l 8) A 8 c rfl rfl h5 hrb (by simp) hS.size ?_; intro v3 w3 ha; refine ⟨rfl, ?_⟩; (try simp only [Free.valOf, Act.put, List.setIfInBounds_toArray, List.set_cons_zero, List.set_cons_succ, Array.getD_eq_getD_getElem?, List.getElem?_toArray, List.getElem?_cons_succ, List.getElem?_cons_zero, Option.getD_some]); refine hK.out _ _ ha.own (hS.keeps ha.keeps (fun i hi e => by have := (OB.lt h5 i e).1; omega) (Nat.le_refl _)) (.inl rfl))
  refine Free.cons ?_ ?_
  · intro w' hS; (intro v10 h10); intro K hK; have c2 := (hb1.below hS hlt1).cell 2 (v := .string (str l)) rfl; first | (refine Free.run_yes (by rfl) ?_; go_simp; refine Free.o hK hS ?_; first | exact rfl | assumption) | (refine Free.run_no (by rfl) (Free.o hK hS ?_); exact rfl)
  refine Free.cons ?_ ?_
  · intro w' hS; intro K hK; have c2 := (hb1.below hS hlt1).cell 2 (v := .string (str l)) rfl; first | (refine Free.run_yes (by rfl) ?_; go_simp; refine Free.o hK hS ?_; exact rfl) | (refine Free.run_no (by rfl) (Free.o hK hS ?_); exact rfl)
  exact Free.nil
  clear hvo
  intro w' hS; intro v0; intro v1; intro v2; intro v3; intro v4; intro v5; intro v6; intro v7; intro v8; intro v9; intro v10; intro v11 h11; (rintro _ rfl); (try simp only [Act.put, List.setIfInBounds_toArray, List.set_cons_zero, List.set_cons_succ]); refine Free.toldE_nil ?_
  obtain ⟨A, c, rfl, _, _⟩ := OB.form h11
  go_wp2
  go_ret2
  refine ⟨_, rfl, ?_, hbl1.trans (hS.mono (by omega))⟩
  rw [HE.out]
  exact OB.mono h11 (fun k hk => by have := (OB.lt h11 k hk).1; omega)
end Go.Proofs.Ytfldmejjepakeaa
/- Contracts of values: Encode whole, Key. -/
namespace Go.Proofs.Ytfldmejjepakeaa
open Go.ChangeShapes Go.WideShapes Go.ChangeAt Go.RowKit
open Go.ChangeMaps (open_string shut_string)
set_option linter.unusedVariables false
set_option linter.unusedSimpArgs false
set_option maxRecDepth 100000

set_option maxHeartbeats 1000000 in
set_option maxRecDepth 100000 in
theorem renc_int (n : Int) (l : List UInt8) (w : World) (hm : mayV 1 n l = true) :
    Calls Try.prog 61 #[.agg #[.int .i64 (1), .int .i64 (n), .string (str (l))]] w fun e w' => ∃ v, e = .returned (.tuple #[v, .int .i64 0]) ∧ OB w' w.heap.size v (encB 1 n l) ∧ Below w.heap.size w w' := by
  have hbx := Blk.new w #[.int .i64 (1), .int .i64 (n), .string (str (l))] 51
  have hbl : Below w.heap.size w (w.alloc (.cells #[.int .i64 (1), .int .i64 (n), .string (str (l))] 51)) := (by repeat (first | exact Below.refl _ _ | assumption | apply below_drewN' | apply Below.drew | refine Below.alloc ?_ (by first | omega | (simp; done) | (simp; omega)) _ | refine Below.setCell ?_ (by first | omega | (simp; done) | (simp; omega)) _))
  have hu := u64_range n
  go_enter Try.func61, Try.ntmps61
  go_wp2_with fail
  refine (refmay_is _ _ _ _ _ hm).mono ?_
  rintro e w1 ⟨rfl, hb⟩
  have hb1 := hbx.below hb (by simp)
  have c0 := hb1.cell 0 (v := .int .i64 1) rfl
  have c1 := hb1.cell 1 (v := .int .i64 n) rfl
  have hbl1 := hbl.trans (hb.mono (by simp))
  have hlt1 := hb1.lt
  have hq : IntKind.u64.wrap n = u64 n := rfl
  go_wp2_with fail
  refine (ref_eight (u64 n) _ hu.1 hu.2).mono ?_
  rintro e w2 ⟨v2, rfl, hb2, hbe2⟩
  simp only [World.size_alloc] at hb2 hbe2
  obtain ⟨A2, c2, rfl, hrb⟩ := hb2.sl 8 (be_length 8 _)
  have hob : RB w2 (some ⟨w1.heap.size, 0, none⟩) 1 1 [1] := RB.of_row (l := [1]) ((Blk.new w1 (bcells [1]) 5).below hbe2 (by simp)) (by unfold maxLen; simp)
  have hbl2 := (hbl1.alloc (by omega) (.cells #[.int .u8 1] 5)).trans (hbe2.mono (by omega))
  have hsz := hbl2.size
  go_wp2_with (refine wpList_appg rfl (.tmp 12) (.tmp 16) rfl w1.heap.size 0 1 1 [1] (be 8 (u64 n)) A2 8 c2 rfl rfl hob hrb (by omega) (by omega) (by omega) ?_; intro v3 w3 ho3 hb3; obtain ⟨A3, c3, rfl, _, _⟩ := ho3.form)
  go_ret2
  exact ⟨_, rfl, ho3.mono (fun k hk => by have := (ho3.lt k hk).1; omega), hbl2.trans (hb3.mono hsz)⟩

/-- The text of a value; none, if it may not be. -/
def encT (k n : Int) (l : List UInt8) : List UInt8 := if mayV k n l then encB k n l else []
theorem may_kinds {k n : Int} {l : List UInt8} (h : mayV k n l = true) : k = 1 ∨ k = 2 := by
  simp only [mayV, Bool.or_eq_true, Bool.and_eq_true, beq_iff_eq] at h
  omega
theorem enc_any (k n : Int) (l : List UInt8) (w : World) :
    Calls Try.prog 50 #[.agg #[.int .i64 (k), .int .i64 (n), .string (str (l))]] w fun e w' => ∃ v, e = .returned (.tuple #[v, .int .i64 (encE k n l)]) ∧ OB w' w.heap.size v (encT k n l) ∧ Below w.heap.size w w' := by
  unfold encE encT
  cases hm : mayV k n l with
  | false => refine (enc_no k n l w hm).mono ?_; rintro e w' ⟨rfl, hb⟩; exact ⟨_, rfl, OB.nil _ _, hb⟩
  | true =>
    rcases may_kinds hm with rfl | rfl
    · exact enc_int n l w hm
    · exact enc_text n l w hm
theorem renc_any (k n : Int) (l : List UInt8) (w : World) :
    Calls Try.prog 61 #[.agg #[.int .i64 (k), .int .i64 (n), .string (str (l))]] w fun e w' => ∃ v, e = .returned (.tuple #[v, .int .i64 (encE k n l)]) ∧ OB w' w.heap.size v (encT k n l) ∧ Below w.heap.size w w' := by
  unfold encE encT
  cases hm : mayV k n l with
  | false => refine (renc_no k n l w hm).mono ?_; rintro e w' ⟨rfl, hb⟩; exact ⟨_, rfl, OB.nil _ _, hb⟩
  | true =>
    rcases may_kinds hm with rfl | rfl
    · exact renc_int n l w hm
    · exact renc_text n l w hm
end Go.Proofs.Ytfldmejjepakeaa
/- Rows as bytes: row.Encode, and the document's. -/
namespace Go.Proofs.Ytfldmejjepakeaa
open Go.ChangeShapes Go.WideShapes Go.ChangeAt Go.RowKit
open Go.ChangeMaps (open_string shut_string)
set_option linter.unusedVariables false
set_option linter.unusedSimpArgs false
set_option maxRecDepth 100000
open Go.Deep

def zr (n : Nat) : List UInt8 := List.replicate n 0
def mayVR (v : ValR) : Bool := mayV v.k v.n v.s
def encVR (v : ValR) : List UInt8 := encB v.k v.n v.s
/-- The texts of values, one behind the other. -/
def bytesV (V : List ValR) : List UInt8 := V.flatMap encVR
/-- Why a row has no text; its text. -/
def rowE (r : RowR) : Int := if r.t < 0 ∨ 4 ≤ r.t ∨ (r.V.length : Int) < 1 ∨ 4 < (r.V.length : Int) then 1 else if r.V.all mayVR = true then 0 else 12
def rowB (r : RowR) : List UInt8 := UInt8.ofNat (r.t + 1).toNat :: (bytesV r.V ++ zr (36 - 9 * r.V.length))
def rowT (r : RowR) : List UInt8 := if rowE r = 0 then rowB r else []
theorem encVR_len {v : ValR} (h : mayVR v = true) : (encVR v).length = 9 := by
  unfold mayVR at h
  unfold encVR encB
  split
  · rw [List.length_cons, be_length]
  · rw [List.length_cons, fill_length]
theorem bytesV_len (V : List ValR) (h : ∀ v ∈ V, mayVR v = true) : (bytesV V).length = 9 * V.length := by
  induction V with
  | nil => rfl
  | cons v r ih =>
    have h1 := encVR_len (h v (by simp))
    have h2 := ih (fun c hc => h c (by simp [hc]))
    unfold bytesV at *
    rw [List.flatMap_cons, List.length_append, h2, List.length_cons, h1]
    omega
theorem bytesV_snoc (V : List ValR) (v : ValR) : bytesV (V ++ [v]) = bytesV V ++ encVR v := by simp [bytesV]
theorem rowE_one {r : RowR} (h : r.t < 0 ∨ 4 ≤ r.t ∨ (r.V.length : Int) < 1 ∨ 4 < (r.V.length : Int)) : rowE r = 1 := if_pos h
theorem rowE_kind {r : RowR} (h : ¬ (r.t < 0 ∨ 4 ≤ r.t ∨ (r.V.length : Int) < 1 ∨ 4 < (r.V.length : Int))) {i : Nat} {v : ValR} (hv : r.V[i]? = some v) (hm : mayVR v = false) : rowE r = 12 := by
  unfold rowE
  rw [if_neg h, if_neg]
  intro ha
  rw [List.all_eq_true] at ha
  have := ha v (List.mem_of_getElem? hv)
  rw [hm] at this
  cases this
theorem rowE_ok {r : RowR} (h : ¬ (r.t < 0 ∨ 4 ≤ r.t ∨ (r.V.length : Int) < 1 ∨ 4 < (r.V.length : Int))) (hm : ∀ (i : Nat) (v : ValR), i < r.V.length → r.V[i]? = some v → mayVR v = true) : rowE r = 0 := by
  unfold rowE
  rw [if_neg h, if_pos]
  rw [List.all_eq_true]
  intro v hv
  obtain ⟨i, hi⟩ := List.mem_iff_getElem?.1 hv
  exact hm i v (List.getElem?_eq_some_iff.1 hi).1 hi
theorem rowE_zero {r : RowR} (h : rowE r = 0) : (0 ≤ r.t ∧ r.t < 4 ∧ 1 ≤ r.V.length ∧ r.V.length ≤ 4) ∧ ∀ v ∈ r.V, mayVR v = true := by
  unfold rowE at h
  split at h
  · cases h
  · rename_i hh
    split at h
    · rename_i ha
      rw [List.all_eq_true] at ha
      exact ⟨by omega, ha⟩
    · cases h
theorem rowT_no {r : RowR} (h : rowE r ≠ 0) : rowT r = [] := if_neg h
theorem rowT_len {r : RowR} (h : rowE r = 0) : (rowT r).length = 37 := by
  obtain ⟨h1, h2⟩ := rowE_zero h
  unfold rowT
  rw [if_pos h]
  unfold rowB zr
  rw [List.length_cons, List.length_append, bytesV_len _ h2, List.length_replicate]
  omega
theorem encE_is (v : ValR) : encE v.k v.n v.s = if mayVR v = true then 0 else 12 := rfl
theorem take_all {V : List ValR} {k : Nat} {p : ValR → Prop} (h : ∀ (i : Nat) (v : ValR), i < k → V[i]? = some v → p v) : ∀ v ∈ V.take k, p v := by
  intro y hy
  obtain ⟨i, hi⟩ := List.mem_iff_getElem?.1 hy
  rw [List.getElem?_take] at hi
  by_cases ik : i < k
  · rw [if_pos ik] at hi
    exact h i y ik hi
  · rw [if_neg ik] at hi
    cases hi
/-- What is told: a slice that reads as l. -/
def RBv (w : World) (v : Value) (l : List UInt8) : Prop := ∃ A n c, v = .slice A n c ∧ RB w A n c l
theorem RBv.nil (w : World) : RBv w (.slice none 0 0) [] := ⟨none, 0, 0, rfl, RB.none_ w⟩
theorem RBv.sl {w : World} {v : Value} {l : List UInt8} (h : RBv w v l) (n : Nat) (hn : l.length = n) : ∃ A c, v = .slice A n c ∧ RB w A n c l := by
  obtain ⟨A, m, c, rfl, hr⟩ := h
  obtain rfl : m = n := by rw [← hr.len, hn]
  exact ⟨A, c, rfl, hr⟩
set_option maxHeartbeats 8000000 in
theorem row_encode (t : Int) (A : Option Addr) (n c : Nat) (V : List ValR) (w : World) (h : RV w A n c V) :
    Calls Try.prog 18 #[.agg #[.int .i64 t, .slice A n c]] w fun e w' => ∃ v, e = .returned (.tuple #[v, .int .i64 (rowE ⟨t, V⟩)]) ∧ RBv w' v (rowT ⟨t, V⟩) ∧ Below w.heap.size w w' := by
  have hLn := h.len
  have hnm : n ≤ maxLen := Nat.le_trans h.cap h.max
  unfold maxLen at hnm
  obtain ⟨E, hE⟩ : ∃ E, rowE ⟨t, V⟩ = E := ⟨_, rfl⟩
  rw [hE]
  have hres := Lib.hid hE
  clear hE
  have hX0 := Blk.new w #[.int .i64 t, .slice A n c] 26
  have bb : Below w.heap.size w (w.alloc (.cells #[.int .i64 t, .slice A n c] 26)) := (by repeat (first | exact Below.refl _ _ | assumption | apply below_drewN' | apply Below.drew | refine Below.alloc ?_ (by first | omega | (simp; done) | (simp; omega)) _ | refine Below.setCell ?_ (by first | omega | (simp; done) | (simp; omega)) _))
  rcases (show t < 0 ∨ (¬ t < 0 ∧ 4 ≤ t) ∨ (¬ t < 0 ∧ ¬ 4 ≤ t) by omega) with t1 | ⟨t1, t2⟩ | ⟨t1, t2⟩
  · have e1 := Lib.hid (rowE_one (r := ⟨t, V⟩) (.inl t1))
    go_enter Try.func18, Try.ntmps18
    go_wp2
    go_ret2
    exact ⟨_, (show Ending.returned (.tuple #[.slice none 0 0, .int .i64 1]) = .returned (.tuple #[_, .int .i64 E]) from by rw [← hres.out, e1.out]), (show RBv _ (.slice none 0 0) (rowT ⟨t, V⟩) from by rw [rowT_no (by rw [e1.out]; decide)]; exact RBv.nil _), bb⟩
  · have e1 := Lib.hid (rowE_one (r := ⟨t, V⟩) (.inr (.inl t2)))
    go_enter Try.func18, Try.ntmps18
    go_wp2
    go_ret2
    exact ⟨_, (show Ending.returned (.tuple #[.slice none 0 0, .int .i64 1]) = .returned (.tuple #[_, .int .i64 E]) from by rw [← hres.out, e1.out]), (show RBv _ (.slice none 0 0) (rowT ⟨t, V⟩) from by rw [rowT_no (by rw [e1.out]; decide)]; exact RBv.nil _), bb⟩
  rcases (show n < 1 ∨ (¬ n < 1 ∧ 4 < n) ∨ (¬ n < 1 ∧ ¬ 4 < n) by omega) with n1 | ⟨n1, n2⟩ | ⟨n1, n2⟩
  · have e1 := Lib.hid (rowE_one (r := ⟨t, V⟩) (.inr (.inr (.inl (by show (V.length : Int) < 1; omega)))))
    have n1' : (n : Int) < 1 := by omega
    go_enter Try.func18, Try.ntmps18
    go_wp2
    go_ret2
    exact ⟨_, (show Ending.returned (.tuple #[.slice none 0 0, .int .i64 1]) = .returned (.tuple #[_, .int .i64 E]) from by rw [← hres.out, e1.out]), (show RBv _ (.slice none 0 0) (rowT ⟨t, V⟩) from by rw [rowT_no (by rw [e1.out]; decide)]; exact RBv.nil _), bb⟩
  · have e1 := Lib.hid (rowE_one (r := ⟨t, V⟩) (.inr (.inr (.inr (by show 4 < (V.length : Int); omega)))))
    have n1' : ¬ (n : Int) < 1 := by omega
    have n2' : 4 < (n : Int) := by omega
    go_enter Try.func18, Try.ntmps18
    go_wp2
    go_ret2
    exact ⟨_, (show Ending.returned (.tuple #[.slice none 0 0, .int .i64 1]) = .returned (.tuple #[_, .int .i64 E]) from by rw [← hres.out, e1.out]), (show RBv _ (.slice none 0 0) (rowT ⟨t, V⟩) from by rw [rowT_no (by rw [e1.out]; decide)]; exact RBv.nil _), bb⟩
  have n1' : ¬ (n : Int) < 1 := by omega
  have n2' : ¬ 4 < (n : Int) := by omega
  have hin := Lib.hid (show ¬ (t < 0 ∨ 4 ≤ t ∨ (V.length : Int) < 1 ∨ 4 < (V.length : Int)) by omega)
  obtain ⟨x, hx⟩ : ∃ x, x = UInt8.ofNat (t + 1).toNat := ⟨_, rfl⟩
  have hw1 : IntKind.i64.wrap (t + 1) = t + 1 := IntWalk.i64_in _ (by omega)
  have hx8 : IntKind.u8.wrap (t + 1) = (x.toNat : Int) := by rw [hx, UInt8.toNat_ofNat', IntKind.wrap_u8]; omega
  have hx9 : (t + 1) % 256 = (x.toNat : Int) := by rw [hx, UInt8.toNat_ofNat']; omega
  have hxh := Lib.hid hx
  clear hx
  go_enter Try.func18, Try.ntmps18
  go_wp2
  go_loopw [4, 37] (fun s i wr => ∃ (k : Nat) (v : Value), k ≤ n ∧ s = v ∧ i = .int .i64 k ∧ OB wr w.heap.size v (x :: bytesV (V.take k)) ∧ Below w.heap.size w wr ∧ Hid (∀ (i : Nat) (v : ValR), i < k → V[i]? = some v → mayVR v = true)) (fun s i _ => n - (intOf i).toNat)
  case atStart =>
    refine ⟨0, _, by omega, rfl, rfl, ?_, (by repeat (first | exact Below.refl _ _ | assumption | apply below_drewN' | apply Below.drew | refine Below.alloc ?_ (by first | omega | (simp; done) | (simp; omega)) _ | refine Below.setCell ?_ (by first | omega | (simp; done) | (simp; omega)) _)), Lib.hid (fun i v hi => absurd hi (by omega))⟩
    have := OB.of_row (w := (w.alloc (.cells #[.int .i64 t, .slice A n c] 26)).alloc (.cells (bcells [x]) 5)) (B := w.heap.size) (l := [x]) (Blk.new _ _ _) (by unfold maxLen; simp) (by simp)
    rw [World.size_alloc] at this
    exact this
  case round =>
    obtain ⟨k, u, hk, rfl, rfl, hO, bl, hall⟩ := hrel
    have hTl : (x :: bytesV (V.take k)).length = 1 + 9 * k := by
      rw [List.length_cons, bytesV_len _ (take_all hall.out), List.length_take]
      omega
    replace hTl := Lib.hid hTl
    obtain ⟨A', c', rfl, hR⟩ := hO.sl (1 + 9 * k) hTl.out
    have hc37 := hR.cap
    by_cases hlt : k < n
    · obtain ⟨p, hp⟩ : ∃ p, V[k]? = some p := ⟨_, List.getElem?_eq_getElem (by omega)⟩
      obtain ⟨g, o, rfl, hc⟩ := h.at_ (by omega)
      obtain ⟨c0, c1, c2⟩ := hc k p hp
      have hph := Lib.hid hp
      have hg := World.block_lt_of_cell? w _ c0
      replace c0 := (bl.cell (p := ⟨g, _, none⟩) hg).trans c0
      replace c1 := (bl.cell (p := ⟨g, _, none⟩) (World.block_lt_of_cell? w _ c1)).trans c1
      replace c2 := (bl.cell (p := ⟨g, _, none⟩) (World.block_lt_of_cell? w _ c2)).trans c2
      clear hc hp
      obtain ⟨pk, pn, ps⟩ := p
      have hsz := bl.size
      have HE := Lib.hid (fun w => enc_any pk pn ps w)
      have hX := Blk.new wr #[.int .i64 (pk), .int .i64 (pn), .string (str (ps))] 51
      have ba : Below wr.heap.size wr (wr.alloc (.cells #[.int .i64 (pk), .int .i64 (pn), .string (str (ps))] 51)) := (by repeat (first | exact Below.refl _ _ | assumption | apply below_drewN' | apply Below.drew | refine Below.alloc ?_ (by first | omega | (simp; done) | (simp; omega)) _ | refine Below.setCell ?_ (by first | omega | (simp; done) | (simp; omega)) _))
      have bl2 := Below.next bl ba (Nat.le_refl _)
      have hO2 := hO.below ba
      clear hO bl
      go_wp2_with fail
      refine (HE.out _).mono ?_
      rintro e w4 ⟨v4, rfl, hO4, b4⟩
      have bl4 := Below.next bl2 b4 (Nat.le_refl _)
      have hO5 := hO2.below b4
      clear bl2 hO2
      cases hm : mayV pk pn ps with
      | false =>
        have hm := Lib.hid hm
        have e1 := Lib.hid (rowE_kind (r := ⟨t, V⟩) hin.out hph.out (show mayVR ⟨pk, pn, ps⟩ = false from hm.out))
        rw [show encE pk pn ps = 12 from by unfold encE; rw [hm.out]; rfl]
        rw [show encT pk pn ps = [] from by unfold encT; rw [hm.out]; rfl] at hO4
        obtain ⟨A4, c4, rfl, hR4⟩ := hO4.sl 0 rfl
        go_wp2
        go_ret2
        exact ⟨_, (show Ending.returned (.tuple #[.slice none 0 0, .int .i64 12]) = .returned (.tuple #[_, .int .i64 E]) from by rw [← hres.out, e1.out]), (show RBv _ (.slice none 0 0) (rowT ⟨t, V⟩) from by rw [rowT_no (by rw [e1.out]; decide)]; exact RBv.nil _), bl4⟩
      | true =>
        have hm := Lib.hid hm
        rw [show encE pk pn ps = 0 from by unfold encE; rw [hm.out]; rfl]
        rw [show encT pk pn ps = encVR ⟨pk, pn, ps⟩ from by unfold encT; rw [hm.out]; rfl] at hO4
        obtain ⟨A4, c4, rfl, hR4⟩ := hO4.sl 9 (encVR_len hm.out)
        have hnx : Hid (x :: bytesV (V.take (k + 1)) = (x :: bytesV (V.take k)) ++ encVR ⟨pk, pn, ps⟩) := Lib.hid (by rw [List.take_add_one, hph.out, Option.toList_some, bytesV_snoc, List.cons_append])
        generalize x :: bytesV (V.take k) = T at *
        generalize encVR ⟨pk, pn, ps⟩ = e9 at *
        go_wp2_with (refine wpList_app rfl (.tmp 49) (.tmp 50) rfl w.heap.size (.slice A' (1 + 9 * k) c') T e9 A4 9 c4 rfl rfl hO5 hR4 (by rw [hTl.out]; omega) (by have := bl4.size; omega) ?_; intro v6 w6 ha)
        go_roundw
        case rel =>
          refine ⟨k + 1, _, by omega, rfl, by go_num, (by rw [hnx.out]; exact ha.own), bl4.keeps ha.keeps (fun i hi e => by have := (hO5.lt i e).1; omega) (Nat.le_refl _), Lib.hid fun i v hi hv => ?_⟩
          by_cases ei : i = k
          · subst ei; rw [hph.out] at hv; injection hv with hv; rw [← hv]; exact hm.out
          · exact hall.out i v (by omega) hv
        case measure => simp [intOf]; omega
    · have hkn : n = k := by omega
      have e1 := Lib.hid (rowE_ok (r := ⟨t, V⟩) hin.out (fun i v hi hv => hall.out i v (by have : i < V.length := hi; omega) hv))
      have hfin : Hid (rowT ⟨t, V⟩ = (x :: bytesV (V.take k)) ++ zr (36 - 9 * k)) := Lib.hid (by
        unfold rowT
        rw [if_pos e1.out]
        unfold rowB
        rw [← hxh.out, hLn, hkn, List.take_of_length_le (by omega), List.cons_append])
      generalize x :: bytesV (V.take k) = T at *
      subst hkn
      obtain ⟨z, hz⟩ : ∃ z : Nat, 36 - 9 * n = z := ⟨_, rfl⟩
      obtain ⟨m, hm⟩ : ∃ m : Nat, 1 + 9 * n = m := ⟨_, rfl⟩
      rw [hz] at hfin
      have hz1 : (37 : Int) - (m : Int) = (z : Int) := by omega
      have hz2 : IntKind.i64.wrap (37 - (m : Int)) = (z : Int) := by rw [hz1]; exact IntWalk.i64_in _ (by omega)
      have hz3 : IntKind.i64.wrap (z : Int) = (z : Int) := IntWalk.i64_in _ (by omega)
      have hms : 0 < m ∧ m + z ≤ 256 := by omega
      clear hTl
      rw [hm] at hR hO ⊢
      replace hm := Lib.hid hm
      replace hz := Lib.hid hz
      replace hms := Lib.hid hms
      go_wp2_with (refine wpList_appz rfl (.tmp 53) (.tmp 56) rfl w.heap.size (.slice A' m c') T m z rfl rfl hO hR.len hms.out.1 hms.out.2 bl.size ?_; intro A6 c6 w6 hR6 hb6)
      go_ret2
      exact ⟨_, (show Ending.returned (.tuple #[.slice A6 _ c6, .int .i64 0]) = .returned (.tuple #[_, .int .i64 E]) from by rw [← hres.out, e1.out]), (show RBv w6 (.slice A6 (m + z) c6) (rowT ⟨t, V⟩) from by rw [hfin.out]; exact ⟨_, _, _, rfl, hR6⟩), bl.trans hb6⟩
end Go.Proofs.Ytfldmejjepakeaa
/- The document's EncodeRow. -/
namespace Go.Proofs.Ytfldmejjepakeaa
open Go.ChangeShapes Go.WideShapes Go.ChangeAt Go.RowKit
open Go.ChangeMaps (open_string shut_string)
set_option linter.unusedVariables false
set_option linter.unusedSimpArgs false
set_option maxRecDepth 100000
open Go.Deep

theorem row_fill {x : UInt8} {V : List ValR} (hv : ∀ v ∈ V, mayVR v = true) (h4 : V.length ≤ 4) : fill (x :: bytesV V) 37 = x :: (bytesV V ++ zr (36 - 9 * V.length)) := by
  have hl := bytesV_len V hv
  unfold fill
  rw [List.take_of_length_le (by rw [List.length_cons, hl]; omega), List.length_cons, hl, List.cons_append, show 37 - (9 * V.length + 1) = 36 - 9 * V.length by omega]
  rfl
set_option maxHeartbeats 8000000 in
theorem ref_encodeR (t : Int) (A : Option Addr) (n c : Nat) (V : List ValR) (w : World) (h : RV w A n c V) :
    Calls Try.prog 37 #[.agg #[.int .i64 t, .slice A n c]] w fun e w' => ∃ v, e = .returned (.tuple #[v, .int .i64 (rowE ⟨t, V⟩)]) ∧ RBv w' v (rowT ⟨t, V⟩) ∧ Below w.heap.size w w' := by
  have hLn := h.len
  have hnm : n ≤ maxLen := Nat.le_trans h.cap h.max
  unfold maxLen at hnm
  obtain ⟨E, hE⟩ : ∃ E, rowE ⟨t, V⟩ = E := ⟨_, rfl⟩
  rw [hE]
  have hres := Lib.hid hE
  clear hE
  have hX0 := Blk.new w #[.int .i64 t, .slice A n c] 26
  have bb : Below w.heap.size w (w.alloc (.cells #[.int .i64 t, .slice A n c] 26)) := (by repeat (first | exact Below.refl _ _ | assumption | apply below_drewN' | apply Below.drew | refine Below.alloc ?_ (by first | omega | (simp; done) | (simp; omega)) _ | refine Below.setCell ?_ (by first | omega | (simp; done) | (simp; omega)) _))
  rcases (show t < 0 ∨ (¬ t < 0 ∧ 4 ≤ t) ∨ (¬ t < 0 ∧ ¬ 4 ≤ t) by omega) with t1 | ⟨t1, t2⟩ | ⟨t1, t2⟩
  · have e1 := Lib.hid (rowE_one (r := ⟨t, V⟩) (.inl t1))
    go_enter Try.func37, Try.ntmps37
    go_wp2
    go_ret2
    exact ⟨_, (show Ending.returned (.tuple #[.slice none 0 0, .int .i64 1]) = .returned (.tuple #[_, .int .i64 E]) from by rw [← hres.out, e1.out]), (show RBv _ (.slice none 0 0) (rowT ⟨t, V⟩) from by rw [rowT_no (by rw [e1.out]; decide)]; exact RBv.nil _), bb⟩
  · have e1 := Lib.hid (rowE_one (r := ⟨t, V⟩) (.inr (.inl t2)))
    go_enter Try.func37, Try.ntmps37
    go_wp2
    go_ret2
    exact ⟨_, (show Ending.returned (.tuple #[.slice none 0 0, .int .i64 1]) = .returned (.tuple #[_, .int .i64 E]) from by rw [← hres.out, e1.out]), (show RBv _ (.slice none 0 0) (rowT ⟨t, V⟩) from by rw [rowT_no (by rw [e1.out]; decide)]; exact RBv.nil _), bb⟩
  rcases (show n < 1 ∨ (¬ n < 1 ∧ 4 < n) ∨ (¬ n < 1 ∧ ¬ 4 < n) by omega) with n1 | ⟨n1, n2⟩ | ⟨n1, n2⟩
  · have e1 := Lib.hid (rowE_one (r := ⟨t, V⟩) (.inr (.inr (.inl (by show (V.length : Int) < 1; omega)))))
    have n1' : (n : Int) < 1 := by omega
    go_enter Try.func37, Try.ntmps37
    go_wp2
    go_ret2
    exact ⟨_, (show Ending.returned (.tuple #[.slice none 0 0, .int .i64 1]) = .returned (.tuple #[_, .int .i64 E]) from by rw [← hres.out, e1.out]), (show RBv _ (.slice none 0 0) (rowT ⟨t, V⟩) from by rw [rowT_no (by rw [e1.out]; decide)]; exact RBv.nil _), bb⟩
  · have e1 := Lib.hid (rowE_one (r := ⟨t, V⟩) (.inr (.inr (.inr (by show 4 < (V.length : Int); omega)))))
    have n1' : ¬ (n : Int) < 1 := by omega
    have n2' : 4 < (n : Int) := by omega
    go_enter Try.func37, Try.ntmps37
    go_wp2
    go_ret2
    exact ⟨_, (show Ending.returned (.tuple #[.slice none 0 0, .int .i64 1]) = .returned (.tuple #[_, .int .i64 E]) from by rw [← hres.out, e1.out]), (show RBv _ (.slice none 0 0) (rowT ⟨t, V⟩) from by rw [rowT_no (by rw [e1.out]; decide)]; exact RBv.nil _), bb⟩
  have n1' : ¬ (n : Int) < 1 := by omega
  have n2' : ¬ 4 < (n : Int) := by omega
  have hin := Lib.hid (show ¬ (t < 0 ∨ 4 ≤ t ∨ (V.length : Int) < 1 ∨ 4 < (V.length : Int)) by omega)
  obtain ⟨x, hx⟩ : ∃ x, x = UInt8.ofNat (t + 1).toNat := ⟨_, rfl⟩
  have hw1 : IntKind.i64.wrap (t + 1) = t + 1 := IntWalk.i64_in _ (by omega)
  have hx8 : IntKind.u8.wrap (t + 1) = (x.toNat : Int) := by rw [hx, UInt8.toNat_ofNat', IntKind.wrap_u8]; omega
  have hx9 : (t + 1) % 256 = (x.toNat : Int) := by rw [hx, UInt8.toNat_ofNat']; omega
  have hxh := Lib.hid hx
  clear hx
  go_enter Try.func37, Try.ntmps37
  go_wp2
  go_loopw [4, 5] (fun s i wr => ∃ (k : Nat) (v : Value), k ≤ n ∧ s = v ∧ i = .int .i64 k ∧ OB wr (w.heap.size + 1) v (x :: bytesV (V.take k)) ∧ Blk wr w.heap.size #[.int .i64 t, .slice A n c] 26 ∧ Below w.heap.size w wr ∧ Hid (∀ (i : Nat) (v : ValR), i < k → V[i]? = some v → mayVR v = true)) (fun s i _ => n - (intOf i).toNat)
  case atStart =>
    refine ⟨0, _, by omega, rfl, rfl, ?_, hX0.alloc _, (by repeat (first | exact Below.refl _ _ | assumption | apply below_drewN' | apply Below.drew | refine Below.alloc ?_ (by first | omega | (simp; done) | (simp; omega)) _ | refine Below.setCell ?_ (by first | omega | (simp; done) | (simp; omega)) _)), Lib.hid (fun i v hi => absurd hi (by omega))⟩
    have := OB.of_row (w := (w.alloc (.cells #[.int .i64 t, .slice A n c] 26)).alloc (.cells (bcells [x]) 5)) (B := w.heap.size + 1) (l := [x]) (Blk.new _ _ _) (by unfold maxLen; simp) (by simp)
    rw [World.size_alloc] at this
    exact this
  case round =>
    clear hX0 bb
    obtain ⟨k, u, hk, hu, rfl, hO, hX, bl, hall⟩ := hrel
    replace hu := hu.symm
    subst hu
    have hTl : (x :: bytesV (V.take k)).length = 1 + 9 * k := by
      rw [List.length_cons, bytesV_len _ (take_all hall.out), List.length_take]
      omega
    replace hTl := Lib.hid hTl
    obtain ⟨A', c', rfl, hR⟩ := hO.sl (1 + 9 * k) hTl.out
    have hc37 := hR.cap
    have x0 := hX.cell 0 (v := .int .i64 t) rfl
    have x1 := hX.cell 1 (v := .slice A n c) rfl
    by_cases hlt : k < n
    · obtain ⟨p, hp⟩ : ∃ p, V[k]? = some p := ⟨_, List.getElem?_eq_getElem (by omega)⟩
      obtain ⟨g, o, rfl, hc⟩ := h.at_ (by omega)
      obtain ⟨c0, c1, c2⟩ := hc k p hp
      have hph := Lib.hid hp
      have hg := World.block_lt_of_cell? w _ c0
      replace c0 := (bl.cell (p := ⟨g, _, none⟩) hg).trans c0
      replace c1 := (bl.cell (p := ⟨g, _, none⟩) (World.block_lt_of_cell? w _ c1)).trans c1
      replace c2 := (bl.cell (p := ⟨g, _, none⟩) (World.block_lt_of_cell? w _ c2)).trans c2
      clear hc hp
      obtain ⟨pk, pn, ps⟩ := p
      have hsz := bl.size
      have HE := Lib.hid (fun w => renc_any pk pn ps w)
      go_wp2_with fail
      refine (HE.out _).mono ?_
      rintro e w4 ⟨v4, rfl, hO4, b4⟩
      have bl4 := Below.next bl b4 (Nat.le_refl _)
      have hO5 := hO.below b4
      have hX5 := hX.below b4 hX.lt
      clear bl hO hX x0 x1
      cases hm : mayV pk pn ps with
      | false =>
        have hm := Lib.hid hm
        have e1 := Lib.hid (rowE_kind (r := ⟨t, V⟩) hin.out hph.out (show mayVR ⟨pk, pn, ps⟩ = false from hm.out))
        rw [show encE pk pn ps = 12 from by unfold encE; rw [hm.out]; rfl]
        rw [show encT pk pn ps = [] from by unfold encT; rw [hm.out]; rfl] at hO4
        obtain ⟨A4, c4, rfl, hR4⟩ := hO4.sl 0 rfl
        go_wp2
        go_ret2
        exact ⟨_, (show Ending.returned (.tuple #[.slice none 0 0, .int .i64 12]) = .returned (.tuple #[_, .int .i64 E]) from by rw [← hres.out, e1.out]), (show RBv _ (.slice none 0 0) (rowT ⟨t, V⟩) from by rw [rowT_no (by rw [e1.out]; decide)]; exact RBv.nil _), bl4⟩
      | true =>
        have hm := Lib.hid hm
        rw [show encE pk pn ps = 0 from by unfold encE; rw [hm.out]; rfl]
        rw [show encT pk pn ps = encVR ⟨pk, pn, ps⟩ from by unfold encT; rw [hm.out]; rfl] at hO4
        obtain ⟨A4, c4, rfl, hR4⟩ := hO4.sl 9 (encVR_len hm.out)
        have hnx : Hid (x :: bytesV (V.take (k + 1)) = (x :: bytesV (V.take k)) ++ encVR ⟨pk, pn, ps⟩) := Lib.hid (by rw [List.take_add_one, hph.out, Option.toList_some, bytesV_snoc, List.cons_append])
        generalize x :: bytesV (V.take k) = T at *
        generalize encVR ⟨pk, pn, ps⟩ = e9 at *
        go_wp2_with (refine wpList_app rfl (.tmp 52) (.tmp 53) rfl (w.heap.size + 1) (.slice A' (1 + 9 * k) c') T e9 A4 9 c4 rfl rfl hO5 hR4 (by rw [hTl.out]; omega) (by have := hX5.lt; omega) ?_; intro v6 w6 ha)
        go_roundw
        case rel =>
          refine ⟨k + 1, _, by omega, rfl, by go_num, (by rw [hnx.out]; exact ha.own), hX5.keeps ha.keeps (fun e => by have := (hO5.lt _ e).1; omega), bl4.keeps ha.keeps (fun i hi e => by have := (hO5.lt i e).1; omega) (Nat.le_refl _), Lib.hid fun i v hi hv => ?_⟩
          by_cases ei : i = k
          · subst ei; rw [hph.out] at hv; injection hv with hv; rw [← hv]; exact hm.out
          · exact hall.out i v (by omega) hv
        case measure => simp [intOf]; omega
    · have hkn : n = k := by omega
      have e1 := Lib.hid (rowE_ok (r := ⟨t, V⟩) hin.out (fun i v hi hv => hall.out i v (by have : i < V.length := hi; omega) hv))
      have hfin : Hid (rowT ⟨t, V⟩ = fill (x :: bytesV (V.take k)) 37) := Lib.hid (by
        rw [List.take_of_length_le (by omega), row_fill (rowE_zero e1.out).2 (by show V.length ≤ 4; omega)]
        unfold rowT
        rw [if_pos e1.out]
        unfold rowB
        rw [← hxh.out])
      generalize x :: bytesV (V.take k) = T at *
      subst hkn
      have HF := Lib.hid (fun w h => ref_Fill A' (1 + 9 * n) c' 37 T w h (by omega))
      clear hTl
      go_wp2_with fail
      refine (HF.out _ hR).mono ?_
      rintro e w6 ⟨rfl, hbk, b6⟩
      have bl6 := Below.next bl b6 (Nat.le_refl _)
      have := RB.of_row hbk (by rw [fill_length]; unfold maxLen; omega)
      rw [fill_length] at this
      replace this := Lib.hid this
      clear hbk
      go_wp2
      go_ret2
      exact ⟨_, (show Ending.returned (.tuple #[.slice _ 37 37, .int .i64 0]) = .returned (.tuple #[_, .int .i64 E]) from by rw [← hres.out, e1.out]), (show RBv w6 (.slice _ 37 37) (rowT ⟨t, V⟩) from by rw [hfin.out]; exact ⟨_, _, _, rfl, this.out⟩), bl6⟩
end Go.Proofs.Ytfldmejjepakeaa
/- Contracts of values: Key. -/
namespace Go.Proofs.Ytfldmejjepakeaa
open Go.ChangeShapes Go.WideShapes Go.ChangeAt Go.RowKit
open Go.ChangeMaps (open_string shut_string)
set_option linter.unusedVariables false
set_option linter.unusedSimpArgs false
set_option maxRecDepth 100000

/-- The word of a number in a key. -/
def sgn (n : Int) : Int := bits .xor .u64 (u64 n) 9223372036854775808
theorem sgn_range (n : Int) : 0 ≤ sgn n ∧ sgn n < 18446744073709551616 := by
  have h1 := bits_lo_u64 .xor (u64 n) 9223372036854775808
  have h2 := bits_hi_u64 .xor (u64 n) 9223372036854775808
  unfold sgn; omega

/-- A key's middle and last byte. -/
def keyM (k n : Int) (l : List UInt8) : List UInt8 := if k = 1 then be 8 (sgn n) else fill l 8
def keyL (k : Int) (l : List UInt8) : UInt8 := if k = 1 then 0 else UInt8.ofNat (l.length + 1)
def keyB (t k n : Int) (l : List UInt8) : List UInt8 := UInt8.ofNat t.toNat :: (keyM k n l ++ [keyL k l])
def tabB (t : Int) : Bool := decide (0 ≤ t) && decide (t < 4)
def keyE (t k n : Int) (l : List UInt8) : Int := if tabB t then (if mayV k n l then 0 else 12) else 1
def keyT (t k n : Int) (l : List UInt8) : List UInt8 := if tabB t && mayV k n l then keyB t k n l else []
theorem keyM_length (k n : Int) (l : List UInt8) : (keyM k n l).length = 8 := by
  unfold keyM; split <;> simp [be_length, fill_length]

theorem str_nil : str [] = ByteArray.empty := rfl

set_option maxRecDepth 100000 in
theorem key_no (t k n : Int) (l : List UInt8) (w : World) (hm : (tabB t && mayV k n l) = false) :
    Calls Try.prog 59 #[.int .i64 t, .agg #[.int .i64 (k), .int .i64 (n), .string (str (l))]] w fun e w' => e = .returned (.tuple #[.string (str []), .int .i64 (keyE t k n l)]) ∧ Below w.heap.size w w' := by
  by_cases h0 : t < 0
  · have hE : keyE t k n l = 1 := by have : tabB t = false := by (simp [tabB]; omega)
                                     simp [keyE, this]
    rw [hE]
    go_enter Try.func59, Try.ntmps59
    go_wp2
    go_ret2
    exact ⟨rfl, (by repeat (first | exact Below.refl _ _ | assumption | apply below_drewN' | apply Below.drew | refine Below.alloc ?_ (by first | omega | (simp; done) | (simp; omega)) _ | refine Below.setCell ?_ (by first | omega | (simp; done) | (simp; omega)) _))⟩
  · by_cases h1 : 4 ≤ t
    · have hE : keyE t k n l = 1 := by have : tabB t = false := by (simp [tabB]; omega)
                                       simp [keyE, this]
      rw [hE]
      go_enter Try.func59, Try.ntmps59
      go_wp2
      go_ret2
      exact ⟨rfl, (by repeat (first | exact Below.refl _ _ | assumption | apply below_drewN' | apply Below.drew | refine Below.alloc ?_ (by first | omega | (simp; done) | (simp; omega)) _ | refine Below.setCell ?_ (by first | omega | (simp; done) | (simp; omega)) _))⟩
    · have ht : tabB t = true := by simp [tabB]; omega
      have hm2 : mayV k n l = false := by rw [ht] at hm; simpa using hm
      have hE : keyE t k n l = 12 := by simp [keyE, ht, hm2]
      rw [hE]
      go_enter Try.func59, Try.ntmps59
      go_wp2_with (go_at_call 65; refine (may_is_v _ _ _ _ _ hm2).mono ?_; rintro e w1 ⟨rfl, hb⟩)
      go_ret2
      exact ⟨rfl, ((Below.refl w.heap.size w).alloc (Nat.le_refl _) _).trans (hb.mono (by simp))⟩

theorem conv_one (W : World) (b : UInt8) (z : Int) (h : (b.toNat : Int) = z) : (convert 22 9 (.slice (some ⟨W.heap.size, 0, none⟩) 1 1)).run Try.prog (W.alloc (.cells #[.int .u8 z] 5)) = .ok (.string (str [b])) (W.alloc (.cells #[.int .u8 z] 5)) := by
  subst h; exact (RB.one W b).conv
theorem conv_two (W : World) (o : Obj) (b : UInt8) (z : Int) (h : (b.toNat : Int) = z) : (convert 22 9 (.slice (some ⟨W.heap.size + 1, 0, none⟩) 1 1)).run Try.prog ((W.alloc o).alloc (.cells #[.int .u8 z] 5)) = .ok (.string (str [b])) ((W.alloc o).alloc (.cells #[.int .u8 z] 5)) := by
  have := conv_one (W.alloc o) b z h
  rw [World.size_alloc] at this
  exact this
set_option maxHeartbeats 2000000 in
set_option maxRecDepth 100000 in
theorem key_yes (m : Nat) (k n : Int) (l : List UInt8) (w : World) (hm4 : m < 4) (hm : mayV k n l = true) :
    Calls Try.prog 59 #[.int .i64 m, .agg #[.int .i64 (k), .int .i64 (n), .string (str (l))]] w fun e w' => e = .returned (.tuple #[.string (str (keyB m k n l)), .int .i64 0]) ∧ Below w.heap.size w w' := by
  have hl : l.length ≤ 8 := by
    simp only [mayV, Bool.or_eq_true, Bool.and_eq_true, beq_iff_eq, decide_eq_true_eq] at hm
    rcases hm with ⟨_, rfl⟩ | ⟨_, _, h⟩
    · simp
    · exact h
  have hz := str_size l
  have hbx := Blk.new w #[.int .i64 (k), .int .i64 (n), .string (str (l))] 51
  have hbl : Below w.heap.size w (w.alloc (.cells #[.int .i64 (k), .int .i64 (n), .string (str (l))] 51)) := (by repeat (first | exact Below.refl _ _ | assumption | apply below_drewN' | apply Below.drew | refine Below.alloc ?_ (by first | omega | (simp; done) | (simp; omega)) _ | refine Below.setCell ?_ (by first | omega | (simp; done) | (simp; omega)) _))
  go_enter Try.func59, Try.ntmps59
  go_wp2_with fail
  refine (may_is_v _ _ _ _ _ hm).mono ?_
  rintro e w1 ⟨rfl, hb⟩
  have hb1 := hbx.below hb (by simp)
  have hbl1 := hbl.trans (hb.mono (by simp))
  have hlt1 := hb1.lt
  have hfl := fill_length l 8
  have keep := fun {w' w'' : World} (h : Below w1.heap.size w1 w') (hb : Below w'.heap.size w' w'') => h.next hb (Nat.le_refl _)
  obtain ⟨x, hx⟩ : ∃ x, x = UInt8.ofNat (l.length + 1) := ⟨_, rfl⟩
  have hx8 : ((l.length : Int) + 1) % 256 = (x.toNat : Int) := by
    rw [hx, UInt8.toNat_ofNat']; omega
  have hx9 : IntKind.u8.wrap (IntKind.i64.wrap ((l.length : Int) + 1)) = (x.toNat : Int) := by
    have hw : IntKind.i64.wrap ((l.length : Int) + 1) = (l.length : Int) + 1 := IntWalk.i64_in _ (by omega)
    rw [hw, IntKind.wrap_u8]; exact hx8
  obtain ⟨y, hy0⟩ : ∃ y, y = UInt8.ofNat m := ⟨_, rfl⟩
  have hy : (y.toNat : Int) = m := by rw [hy0, UInt8.toNat_ofNat']; omega
  have hy8 : IntKind.u8.wrap (m : Int) = (m : Int) := by rw [IntKind.wrap_u8]; omega
  have hB : Hid (∀ k n, keyB m k n l = [y] ++ keyM k n l ++ [keyL k l]) := fun k n => by unfold keyB; rw [hy0]; simp
  clear hy0
  have HX := Lib.hid hx
  clear hb hbx hbl hx
  go_wp2_with fail
  have hvo := Free.val
  refine Free.wp_facts (M := [0, 1, 3, 0, 8, 24, 56, 120, 7, 511]) (D := [[], [(0, 19)], [(1, 20)], [], [(3, 22)], [(4, 23)], [(5, 24)], [(6, 25)], [(2, 21)], [(7, 26)]]) (outs := [8, 9]) (soles := []) (E := [(0, 19, false), (1, 20, false), (2, 21, false), (3, 22, false), (4, 23, false), (5, 24, false), (6, 25, false), (7, 26, false), (8, 6, true), (9, 7, true)]) (N := 46) (S := (fun w' => Below w1.heap.size w1 w')) [Free.Fact.is ?_, Free.Fact.is ?_, Free.Fact.sl 8 (fill l 8), Free.Fact.is ?_, Free.Fact.is ?_, Free.Fact.is ?_, Free.Fact.is ?_, Free.Fact.is ?_, Free.Fact.sl 8 (fill l 8), Free.Fact.is ?_] (by kernel_rfl) (by kernel_rfl) rfl ((Below.refl _ _).drew) ?_ ?_
  rotate_left 8
  refine Free.cons ?_ ?_
  · intro w' hS; intro K hK; have c2 := (hb1.below hS hlt1).cell 2 (v := .string (str l)) rfl; first | (refine Free.run_yes (by rfl) ?_; go_simp; refine Free.o hK hS ?_; exact rfl) | (refine Free.run_no (by rfl) (Free.o hK hS ?_); exact rfl)
  refine Free.cons ?_ ?_
  · intro w' hS; (rintro _ rfl); intro K hK; have c2 := (hb1.below hS hlt1).cell 2 (v := .string (str l)) rfl; first | (refine Free.run_yes (by rfl) ?_; go_simp; refine Free.o hK hS ?_; exact rfl) | (refine Free.run_no (by rfl) (Free.o hK hS ?_); exact rfl)
  refine Free.cons ?_ ?_
  · intro w' hS; (rintro _ rfl); intro K hK; have c2 := (hb1.below hS hlt1).cell 2 (v := .string (str l)) rfl; refine Free.run_yes (by rfl) ?_; (go_simp; refine (val_filled l _ hl).mono ?_; rintro e w2 ⟨v, rfl, hf, hb⟩; (try simp only [Free.valOf, Act.put, List.setIfInBounds_toArray, List.set_cons_zero, List.set_cons_succ, Array.getD_eq_getD_getElem?, List.getElem?_toArray, List.getElem?_cons_succ, List.getElem?_cons_zero, Option.getD_some]); refine hK.out _ _ (hf.sl 8 hfl) (keep hS hb) (.inr hb))
  refine Free.cons ?_ ?_
  · intro w' hS; intro K hK; have c2 := (hb1.below hS hlt1).cell 2 (v := .string (str l)) rfl; first | (refine Free.run_yes (by rfl) ?_; go_simp; refine Free.o hK hS ?_; exact rfl) | (refine Free.run_no (by rfl) (Free.o hK hS ?_); exact rfl)
  refine Free.cons ?_ ?_
  · intro w' hS; (rintro _ rfl); intro K hK; have c2 := (hb1.below hS hlt1).cell 2 (v := .string (str l)) rfl; first | (refine Free.run_yes (by rfl) ?_; go_simp; refine Free.o hK hS ?_; exact rfl) | (refine Free.run_no (by rfl) (Free.o hK hS ?_); exact rfl)
  refine Free.cons ?_ ?_
  · intro w' hS; (rintro _ rfl); intro K hK; have c2 := (hb1.below hS hlt1).cell 2 (v := .string (str l)) rfl; first | (refine Free.run_yes (by rfl) ?_; go_simp; refine Free.o hK hS ?_; exact rfl) | (refine Free.run_no (by rfl) (Free.o hK hS ?_); exact rfl)
  refine Free.cons ?_ ?_
  · intro w' hS; (rintro _ rfl); intro K hK; have c2 := (hb1.below hS hlt1).cell 2 (v := .string (str l)) rfl; first | (refine Free.run_yes (by rfl) ?_; go_simp; refine Free.o hK hS ?_; exact rfl) | (refine Free.run_no (by rfl) (Free.o hK hS ?_); exact rfl)
  refine Free.cons ?_ ?_
  · intro w' hS; (rintro _ rfl); intro K hK; have c2 := (hb1.below hS hlt1).cell 2 (v := .string (str l)) rfl; first | (refine Free.run_yes (by rfl) ?_; go_simp; refine Free.o hK hS ?_; exact rfl) | (refine Free.run_no (by rfl) (Free.o hK hS ?_); exact rfl)
  refine Free.cons ?_ ?_
  · intro w' hS; (intro v2 h2); intro K hK; have c2 := (hb1.below hS hlt1).cell 2 (v := .string (str l)) rfl; first | (refine Free.run_yes (by rfl) ?_; go_simp; refine Free.o hK hS ?_; first | exact rfl | assumption) | (refine Free.run_no (by rfl) (Free.o hK hS ?_); exact rfl)
  refine Free.cons ?_ ?_
  · intro w' hS; (rintro _ rfl); intro K hK; have c2 := (hb1.below hS hlt1).cell 2 (v := .string (str l)) rfl; first | (refine Free.run_yes (by rfl) ?_; go_simp; refine Free.o hK hS ?_; exact rfl) | (refine Free.run_no (by rfl) (Free.o hK hS ?_); exact rfl)
  exact Free.nil
  clear hvo
  intro w' hS; intro v0; intro v1; intro v2; intro v3; intro v4; intro v5; intro v6; intro v7; intro v8 h8; (rintro _ rfl); (try simp only [Act.put, List.setIfInBounds_toArray, List.set_cons_zero, List.set_cons_succ]); refine Free.toldE_nil ?_
  obtain ⟨A, c, rfl, hr⟩ := h8
  have q2 := hS.size
  have hb2 := hb1.below hS hlt1
  have c0 := hb2.cell 0 (v := .int .i64 k) rfl
  by_cases hk : k = 1
  · subst hk
    have c1 := hb2.cell 1 (v := .int .i64 n) rfl
    have hsg := sgn_range n
    have hq : bits .xor .u64 (IntKind.u64.wrap n) 9223372036854775808 = sgn n := by unfold sgn u64; rfl
    go_wp2_with fail
    refine (val_eight (sgn n) _ hsg.1 hsg.2).mono ?_
    rintro e w3 ⟨rfl, hb3, hbe3⟩
    have hr3 := RB.of_row hb3 (by rw [be_length]; unfold maxLen; omega)
    rw [be_length] at hr3
    have e1 := conv_one w3 y m hy; have e2 := (RB.alloc hr3 (.cells #[.int .u8 m] 5)).conv; have e3 := conv_two w3 (.cells #[.int .u8 m] 5) 0 0 (by decide)
    go_wp2
    go_ret2
    refine ⟨?_, ((hbl1.trans ((hS.next hbe3 (Nat.le_refl _)).mono (by omega))).alloc (by have := hbe3.size; omega) _).alloc (by have := hbe3.size; simp; omega) _⟩
    rw [hB.out, str_append, str_append]; rfl
  · have hk2 : (k == 1) = false := by rw [beq_eq_false_iff_ne]; exact hk
    have e1 := conv_one w' y m hy; have e2 := (RB.alloc hr (.cells #[.int .u8 m] 5)).conv; have e3 := conv_two w' (.cells #[.int .u8 m] 5) x x.toNat rfl
    have z1 : (str (fill l 8)).size = 8 := by rw [str_size, hfl]
    have z2 : (str [y]).size = 1 := by rw [str_size]; rfl
    have z3 : (str [x]).size = 1 := by rw [str_size]; rfl
    have z4 : (str [y] ++ str (fill l 8)).size = 9 := by rw [str_append, str_size, List.length_append, hfl]; rfl
    go_wp2
    go_ret2
    refine ⟨?_, ((hbl1.trans (hS.mono (by omega))).alloc (by omega) _).alloc (by simp; omega) _⟩
    rw [hB.out, keyM, keyL, if_neg hk, if_neg hk, ← HX.out, ← str_append, ← str_append]
    rfl
end Go.Proofs.Ytfldmejjepakeaa
/- Contracts of values: the document's Key. -/
namespace Go.Proofs.Ytfldmejjepakeaa
open Go.ChangeShapes Go.WideShapes Go.ChangeAt Go.RowKit
open Go.ChangeMaps (open_string shut_string)
set_option linter.unusedVariables false
set_option linter.unusedSimpArgs false
set_option maxRecDepth 100000

set_option maxRecDepth 100000 in
theorem rkey_no (t k n : Int) (l : List UInt8) (w : World) (hm : (tabB t && mayV k n l) = false) :
    Calls Try.prog 62 #[.int .i64 t, .agg #[.int .i64 (k), .int .i64 (n), .string (str (l))]] w fun e w' => e = .returned (.tuple #[.string (str []), .int .i64 (keyE t k n l)]) ∧ Below w.heap.size w w' := by
  by_cases h0 : t < 0
  · have hE : keyE t k n l = 1 := by have : tabB t = false := by (simp [tabB]; omega)
                                     simp [keyE, this]
    rw [hE]
    go_enter Try.func62, Try.ntmps62
    go_wp2
    go_ret2
    exact ⟨rfl, (by repeat (first | exact Below.refl _ _ | assumption | apply below_drewN' | apply Below.drew | refine Below.alloc ?_ (by first | omega | (simp; done) | (simp; omega)) _ | refine Below.setCell ?_ (by first | omega | (simp; done) | (simp; omega)) _))⟩
  · by_cases h1 : 4 ≤ t
    · have hE : keyE t k n l = 1 := by have : tabB t = false := by (simp [tabB]; omega)
                                       simp [keyE, this]
      rw [hE]
      go_enter Try.func62, Try.ntmps62
      go_wp2
      go_ret2
      exact ⟨rfl, (by repeat (first | exact Below.refl _ _ | assumption | apply below_drewN' | apply Below.drew | refine Below.alloc ?_ (by first | omega | (simp; done) | (simp; omega)) _ | refine Below.setCell ?_ (by first | omega | (simp; done) | (simp; omega)) _))⟩
    · have ht : tabB t = true := by simp [tabB]; omega
      have hm2 : mayV k n l = false := by rw [ht] at hm; simpa using hm
      have hE : keyE t k n l = 12 := by simp [keyE, ht, hm2]
      rw [hE]
      go_enter Try.func62, Try.ntmps62
      go_wp2_with (go_at_call 66; refine (refmay_is _ _ _ _ _ hm2).mono ?_; rintro e w1 ⟨rfl, hb⟩)
      go_ret2
      exact ⟨rfl, ((Below.refl w.heap.size w).alloc (Nat.le_refl _) _).trans (hb.mono (by simp))⟩

set_option maxHeartbeats 2000000 in
set_option maxRecDepth 100000 in
theorem rkey_int (m : Nat) (n : Int) (l : List UInt8) (w : World) (hm4 : m < 4) (hm : mayV 1 n l = true) :
    Calls Try.prog 62 #[.int .i64 m, .agg #[.int .i64 (1), .int .i64 (n), .string (str (l))]] w fun e w' => e = .returned (.tuple #[.string (str (keyB m 1 n l)), .int .i64 0]) ∧ Below w.heap.size w w' := by
  have hbx := Blk.new w #[.int .i64 (1), .int .i64 (n), .string (str (l))] 51
  have hbl : Below w.heap.size w (w.alloc (.cells #[.int .i64 (1), .int .i64 (n), .string (str (l))] 51)) := (by repeat (first | exact Below.refl _ _ | assumption | apply below_drewN' | apply Below.drew | refine Below.alloc ?_ (by first | omega | (simp; done) | (simp; omega)) _ | refine Below.setCell ?_ (by first | omega | (simp; done) | (simp; omega)) _))
  go_enter Try.func62, Try.ntmps62
  go_wp2_with fail
  refine (refmay_is _ _ _ _ _ hm).mono ?_
  rintro e w1 ⟨rfl, hb⟩
  have hb1 := hbx.below hb (by simp)
  have c0 := hb1.cell 0 (v := .int .i64 1) rfl
  have c1 := hb1.cell 1 (v := .int .i64 n) rfl
  have hbl1 := hbl.trans (hb.mono (by simp))
  have hlt1 := hb1.lt
  obtain ⟨y, hy0⟩ : ∃ y, y = UInt8.ofNat m := ⟨_, rfl⟩
  have hy : (m : Int) = (y.toNat : Int) := by rw [hy0, UInt8.toNat_ofNat']; omega
  have hy8 : IntKind.u8.wrap (m : Int) = (y.toNat : Int) := by rw [IntKind.wrap_u8]; omega
  have hB : Hid (keyB m 1 n l = [y] ++ be 8 (sgn n) ++ [0]) := by show keyB _ _ _ _ = _; unfold keyB; rw [hy0]; simp [keyM, keyL]
  have Hy := Lib.hid hy
  clear hy0 hb hbx hbl hm hy
  have hsg := sgn_range n
  have hq : bits .xor .u64 (IntKind.u64.wrap n) 9223372036854775808 = sgn n := by unfold sgn u64; rfl
  go_wp2_with fail
  refine (ref_eight (sgn n) _ hsg.1 hsg.2).mono ?_
  rintro e w2 ⟨v2, rfl, hb2, hbe2⟩
  simp only [World.size_alloc] at hb2 hbe2
  obtain ⟨A2, c2, rfl, hrb⟩ := hb2.sl 8 (be_length 8 _)
  have hob : RB w2 (some ⟨w1.heap.size, 0, none⟩) 1 1 [y] := RB.of_row (l := [y]) ((Blk.new w1 (bcells [y]) 5).below hbe2 (by simp)) (by unfold maxLen; simp)
  have hbl2 := (hbl1.alloc (by omega) (.cells #[.int .u8 y.toNat] 5)).trans (hbe2.mono (by omega))
  have hsz := hbl2.size
  go_wp2_with (first
    | (refine wpList_appg rfl (.tmp 23) (.tmp 28) rfl w1.heap.size 0 1 1 [y] (be 8 (sgn n)) A2 8 c2 rfl rfl hob hrb (by omega) (by omega) (by omega) ?_; intro v3 w3 ho3 hb3; obtain ⟨A3, c3, rfl, _⟩ := ho3.sl 9 (by simp [be_length]); have hbl3 := hbl2.trans (hb3.mono hsz); have hz3 := hb3.size)
    | (refine wpList_app rfl (.tmp 29) (.tmp 30) rfl w2.heap.size (.slice A3 9 c3) ([y] ++ be 8 (sgn n)) [0] _ 1 1 rfl rfl (ho3.alloc _) (RB.one w3 0) (by simp [be_length]) (by simp; omega) ?_; intro v4 w4 ha; obtain ⟨A4, c4, rfl, hr4⟩ := ha.own.sl 10 (by simp [be_length]); have e4 := hr4.conv; have hbl4 := (hbl3.alloc (by omega) (.cells #[bv 0] 5)).keeps ha.keeps (fun i hi e => by have := (ho3.lt i e).1; omega) (Nat.le_refl _)))
  go_wp2
  go_ret2
  refine ⟨?_, hbl4⟩
  rw [hB.out]
  rfl

set_option maxHeartbeats 2000000 in
set_option maxRecDepth 100000 in
theorem rkey_text (m : Nat) (n : Int) (l : List UInt8) (w : World) (hm4 : m < 4) (hm : mayV 2 n l = true) :
    Calls Try.prog 62 #[.int .i64 m, .agg #[.int .i64 (2), .int .i64 (n), .string (str (l))]] w fun e w' => e = .returned (.tuple #[.string (str (keyB m 2 n l)), .int .i64 0]) ∧ Below w.heap.size w w' := by
  have hl : l.length ≤ 8 := by simp [mayV] at hm; exact hm.2
  have hz := str_size l
  have hcv := fun w => conv_str w l
  have hbx := Blk.new w #[.int .i64 (2), .int .i64 (n), .string (str (l))] 51
  have hbl : Below w.heap.size w (w.alloc (.cells #[.int .i64 (2), .int .i64 (n), .string (str (l))] 51)) := (by repeat (first | exact Below.refl _ _ | assumption | apply below_drewN' | apply Below.drew | refine Below.alloc ?_ (by first | omega | (simp; done) | (simp; omega)) _ | refine Below.setCell ?_ (by first | omega | (simp; done) | (simp; omega)) _))
  go_enter Try.func62, Try.ntmps62
  go_wp2_with fail
  refine (refmay_is _ _ _ _ _ hm).mono ?_
  rintro e w1 ⟨rfl, hb⟩
  have hb1 := hbx.below hb (by simp)
  have c0 := hb1.cell 0 (v := .int .i64 2) rfl
  have hbl1 := hbl.trans (hb.mono (by simp))
  have hlt1 := hb1.lt
  obtain ⟨y, hy0⟩ : ∃ y, y = UInt8.ofNat m := ⟨_, rfl⟩
  have hy8 : IntKind.u8.wrap (m : Int) = (y.toNat : Int) := by rw [hy0, UInt8.toNat_ofNat', IntKind.wrap_u8]; omega
  obtain ⟨x, hx⟩ : ∃ x, x = UInt8.ofNat (l.length + 1) := ⟨_, rfl⟩
  have hx8 : ((l.length : Int) + 1) % 256 = (x.toNat : Int) := by
    rw [hx, UInt8.toNat_ofNat']; omega
  have hx9 : IntKind.u8.wrap (IntKind.i64.wrap ((l.length : Int) + 1)) = (x.toNat : Int) := by
    have hw : IntKind.i64.wrap ((l.length : Int) + 1) = (l.length : Int) + 1 := IntWalk.i64_in _ (by omega)
    rw [hw, IntKind.wrap_u8]; exact hx8
  have HB : Hid (keyB m 2 n l = [y] ++ fill l 8 ++ [x]) := by show keyB _ _ _ _ = _; unfold keyB; rw [hy0, hx]; simp [keyM, keyL]
  have hfl := fill_length l 8
  have keep := fun {w' w'' : World} (h : Below w1.heap.size w1 w') (hb : Below w'.heap.size w' w'') => h.next hb (Nat.le_refl _)
  clear hy0 hx hb hbx hbl hm
  go_wp2_with fail
  have hvo := Free.val
  refine Free.wp_facts (M := [0, 1, 3, 0, 8, 24, 56, 127, 0, 256, 768, 1792, 3840, 7936, 16383, 32767, 65535, 131071]) (D := [[], [(0, 33)], [(1, 34)], [], [(3, 36)], [(4, 37)], [(5, 38)], [(2, 35), (6, 39)], [], [(8, 41)], [(9, 42)], [(10, 43)], [(11, 44)], [(12, 45)], [(7, 40), (13, 46)], [(14, 47)], [(15, 48)], []]) (outs := [16, 17]) (soles := [14]) (E := [(0, 33, false), (1, 34, false), (2, 35, false), (3, 36, false), (4, 37, false), (5, 38, false), (6, 39, false), (7, 40, false), (8, 41, false), (9, 42, false), (10, 43, false), (11, 44, false), (12, 45, false), (13, 46, false), (14, 47, false), (15, 48, false), (16, 4, true), (17, 5, true)]) (N := 49) (S := (fun w' => Below w1.heap.size w1 w')) [Free.Fact.is ?_, Free.Fact.is ?_, Free.Fact.one y, Free.Fact.is ?_, Free.Fact.is ?_, Free.Fact.sl l.length l, Free.Fact.sl 8 (fill l 8), Free.Fact.own w1.heap.size ([y] ++ fill l 8), Free.Fact.is ?_, Free.Fact.is ?_, Free.Fact.is ?_, Free.Fact.is ?_, Free.Fact.is ?_, Free.Fact.one x, Free.Fact.sl 10 ([y] ++ fill l 8 ++ [x]), Free.Fact.is ?_, Free.Fact.is ?_, Free.Fact.is ?_] (by kernel_rfl) (by kernel_rfl) rfl ((Below.refl _ _).drew) ?_ ?_
  rotate_left 12
  refine Free.cons ?_ ?_
  · intro w' hS; intro K hK; have c2 := (hb1.below hS hlt1).cell 2 (v := .string (str l)) rfl; first | (refine Free.run_yes (by rfl) ?_; go_simp; refine Free.o hK hS ?_; exact rfl) | (refine Free.run_no (by rfl) (Free.o hK hS ?_); exact rfl)
  refine Free.cons ?_ ?_
  · intro w' hS; (rintro _ rfl); intro K hK; have c2 := (hb1.below hS hlt1).cell 2 (v := .string (str l)) rfl; first | (refine Free.run_yes (by rfl) ?_; go_simp; refine Free.o hK hS ?_; exact rfl) | (refine Free.run_no (by rfl) (Free.o hK hS ?_); exact rfl)
  refine Free.cons ?_ ?_
  · intro w' hS; (rintro _ rfl); intro K hK; have c2 := (hb1.below hS hlt1).cell 2 (v := .string (str l)) rfl; refine Free.run_yes (by rfl) ?_; (go_simp; (try simp only [Free.valOf, Act.put, List.setIfInBounds_toArray, List.set_cons_zero, List.set_cons_succ, Array.getD_eq_getD_getElem?, List.getElem?_toArray, List.getElem?_cons_succ, List.getElem?_cons_zero, Option.getD_some]); refine hK.out _ _ ⟨_, rfl, RB.of_row (l := [y]) (Blk.new w' (bcells [y]) 5) (by unfold maxLen; simp)⟩ (hS.alloc hS.size _) (.inr ((Below.refl _ _).alloc (Nat.le_refl _) _)))
  refine Free.cons ?_ ?_
  · intro w' hS; intro K hK; have c2 := (hb1.below hS hlt1).cell 2 (v := .string (str l)) rfl; first | (refine Free.run_yes (by rfl) ?_; go_simp; refine Free.o hK hS ?_; exact rfl) | (refine Free.run_no (by rfl) (Free.o hK hS ?_); exact rfl)
  refine Free.cons ?_ ?_
  · intro w' hS; (rintro _ rfl); intro K hK; have c2 := (hb1.below hS hlt1).cell 2 (v := .string (str l)) rfl; first | (refine Free.run_yes (by rfl) ?_; go_simp; refine Free.o hK hS ?_; exact rfl) | (refine Free.run_no (by rfl) (Free.o hK hS ?_); exact rfl)
  refine Free.cons ?_ ?_
  · intro w' hS; (rintro _ rfl); intro K hK; have c2 := (hb1.below hS hlt1).cell 2 (v := .string (str l)) rfl; refine Free.run_yes (by rfl) ?_; (go_simp; (try simp only [Free.valOf, Act.put, List.setIfInBounds_toArray, List.set_cons_zero, List.set_cons_succ, Array.getD_eq_getD_getElem?, List.getElem?_toArray, List.getElem?_cons_succ, List.getElem?_cons_zero, Option.getD_some]); refine hK.out _ _ ⟨_, _, rfl, bytesWorld_rb w' l (by omega)⟩ (keep hS (bytesWorld_below w' l)) (.inr (bytesWorld_below w' l)))
  refine Free.cons ?_ ?_
  · intro w' hS; (intro v5 h5); intro K hK; have c2 := (hb1.below hS hlt1).cell 2 (v := .string (str l)) rfl; refine Free.run_yes (by rfl) ?_; (obtain ⟨A, c, rfl, hrb⟩ := h5; go_simp; refine (ref_Fill A l.length c 8 l _ hrb (by omega)).mono ?_; rintro e w2 ⟨rfl, hbk, hb⟩; (try simp only [Free.valOf, Act.put, List.setIfInBounds_toArray, List.set_cons_zero, List.set_cons_succ, Array.getD_eq_getD_getElem?, List.getElem?_toArray, List.getElem?_cons_succ, List.getElem?_cons_zero, Option.getD_some]); refine hK.out _ _ (hbk.sl 8 hfl (by unfold maxLen; omega)) (keep hS hb) (.inr hb))
  refine Free.cons ?_ ?_
  · intro w' hS; (intro v2 h2); (intro v6 h6); intro K hK; have c2 := (hb1.below hS hlt1).cell 2 (v := .string (str l)) rfl; refine Free.run_yes (by rfl) ?_; (obtain ⟨g, rfl, hr1⟩ := h2; obtain ⟨A, c, rfl, hrb⟩ := h6; refine wp_appg (.tmp 35) (.tmp 39) rfl g 0 1 1 [y] (fill l 8) A 8 c rfl rfl hr1 hrb (by omega) (by omega) (by omega) ?_; intro v3 w3 ho hb; refine ⟨rfl, ?_⟩; (try simp only [Free.valOf, Act.put, List.setIfInBounds_toArray, List.set_cons_zero, List.set_cons_succ, Array.getD_eq_getD_getElem?, List.getElem?_toArray, List.getElem?_cons_succ, List.getElem?_cons_zero, Option.getD_some]); refine hK.out _ _ (ho.mono (fun k hk => by have := (ho.lt k hk).1; have := hS.size; omega)) (keep hS hb) (.inr hb))
  refine Free.cons ?_ ?_
  · intro w' hS; intro K hK; have c2 := (hb1.below hS hlt1).cell 2 (v := .string (str l)) rfl; first | (refine Free.run_yes (by rfl) ?_; go_simp; refine Free.o hK hS ?_; exact rfl) | (refine Free.run_no (by rfl) (Free.o hK hS ?_); exact rfl)
  refine Free.cons ?_ ?_
  · intro w' hS; (rintro _ rfl); intro K hK; have c2 := (hb1.below hS hlt1).cell 2 (v := .string (str l)) rfl; first | (refine Free.run_yes (by rfl) ?_; go_simp; refine Free.o hK hS ?_; exact rfl) | (refine Free.run_no (by rfl) (Free.o hK hS ?_); exact rfl)
  refine Free.cons ?_ ?_
  · intro w' hS; (rintro _ rfl); intro K hK; have c2 := (hb1.below hS hlt1).cell 2 (v := .string (str l)) rfl; first | (refine Free.run_yes (by rfl) ?_; go_simp; refine Free.o hK hS ?_; exact rfl) | (refine Free.run_no (by rfl) (Free.o hK hS ?_); exact rfl)
  refine Free.cons ?_ ?_
  · intro w' hS; (rintro _ rfl); intro K hK; have c2 := (hb1.below hS hlt1).cell 2 (v := .string (str l)) rfl; first | (refine Free.run_yes (by rfl) ?_; go_simp; refine Free.o hK hS ?_; exact rfl) | (refine Free.run_no (by rfl) (Free.o hK hS ?_); exact rfl)
  refine Free.cons ?_ ?_
  · intro w' hS; (rintro _ rfl); intro K hK; have c2 := (hb1.below hS hlt1).cell 2 (v := .string (str l)) rfl; first | (refine Free.run_yes (by rfl) ?_; go_simp; refine Free.o hK hS ?_; exact rfl) | (refine Free.run_no (by rfl) (Free.o hK hS ?_); exact rfl)
  refine Free.cons ?_ ?_
  · intro w' hS; (rintro _ rfl); intro K hK; have c2 := (hb1.below hS hlt1).cell 2 (v := .string (str l)) rfl; refine Free.run_yes (by rfl) ?_; (go_simp; (try simp only [Free.valOf, Act.put, List.setIfInBounds_toArray, List.set_cons_zero, List.set_cons_succ, Array.getD_eq_getD_getElem?, List.getElem?_toArray, List.getElem?_cons_succ, List.getElem?_cons_zero, Option.getD_some]); refine hK.out _ _ ⟨_, rfl, RB.of_row (l := [x]) (Blk.new w' (bcells [x]) 5) (by unfold maxLen; simp)⟩ (hS.alloc hS.size _) (.inr ((Below.refl _ _).alloc (Nat.le_refl _) _)))
  refine Free.cons ?_ ?_
  · intro w' hS; (intro v7 h7); (intro v13 h13); intro K hK; have c2 := (hb1.below hS hlt1).cell 2 (v := .string (str l)) rfl; refine Free.run_yes (by rfl) ?_; (obtain ⟨g, rfl, hr1⟩ := h13; refine wp_app (.tmp 40) (.tmp 46) rfl w1.heap.size v7 ([y] ++ fill l 8) [x] _ 1 1 rfl rfl h7 hr1 (by simp [hfl]) hS.size ?_; intro v3 w3 ha; refine ⟨rfl, ?_⟩; (try simp only [Free.valOf, Act.put, List.setIfInBounds_toArray, List.set_cons_zero, List.set_cons_succ, Array.getD_eq_getD_getElem?, List.getElem?_toArray, List.getElem?_cons_succ, List.getElem?_cons_zero, Option.getD_some]); refine hK.out _ _ (OB.sl ha.own 10 (by simp [hfl])) (hS.keeps ha.keeps (fun i hi e => by have := (OB.lt h7 i e).1; omega) (Nat.le_refl _)) (.inl rfl))
  refine Free.cons ?_ ?_
  · intro w' hS; (intro v14 h14); intro K hK; have c2 := (hb1.below hS hlt1).cell 2 (v := .string (str l)) rfl; refine Free.run_yes (by rfl) ?_; (obtain ⟨A, c, rfl, hrb⟩ := h14; have e4 := hrb.conv; go_simp; (try simp only [Free.valOf, Act.put, List.setIfInBounds_toArray, List.set_cons_zero, List.set_cons_succ, Array.getD_eq_getD_getElem?, List.getElem?_toArray, List.getElem?_cons_succ, List.getElem?_cons_zero, Option.getD_some]); refine hK.out _ _ ?_ hS (.inr (Below.refl _ _)); exact rfl)
  refine Free.cons ?_ ?_
  · intro w' hS; (rintro _ rfl); intro K hK; have c2 := (hb1.below hS hlt1).cell 2 (v := .string (str l)) rfl; first | (refine Free.run_yes (by rfl) ?_; go_simp; refine Free.o hK hS ?_; exact rfl) | (refine Free.run_no (by rfl) (Free.o hK hS ?_); exact rfl)
  refine Free.cons ?_ ?_
  · intro w' hS; intro K hK; have c2 := (hb1.below hS hlt1).cell 2 (v := .string (str l)) rfl; first | (refine Free.run_yes (by rfl) ?_; go_simp; refine Free.o hK hS ?_; exact rfl) | (refine Free.run_no (by rfl) (Free.o hK hS ?_); exact rfl)
  exact Free.nil
  clear hvo
  intro w' hS; intro v0; intro v1; intro v2; intro v3; intro v4; intro v5; intro v6; intro v7; intro v8; intro v9; intro v10; intro v11; intro v12; intro v13; intro v14; intro v15; (rintro _ rfl); (rintro _ rfl); (try simp only [Act.put, List.setIfInBounds_toArray, List.set_cons_zero, List.set_cons_succ]); refine Free.toldE_nil ?_
  go_wp2
  go_ret2
  refine ⟨?_, hbl1.trans (hS.mono (by omega))⟩
  rw [HB.out]
  rfl

theorem tab_nat {t : Int} (h : tabB t = true) : ∃ m : Nat, t = m ∧ m < 4 := by
  simp [tabB] at h
  exact ⟨t.toNat, by omega, by omega⟩
theorem key_any (t k n : Int) (l : List UInt8) (w : World) :
    Calls Try.prog 59 #[.int .i64 t, .agg #[.int .i64 (k), .int .i64 (n), .string (str (l))]] w fun e w' => e = .returned (.tuple #[.string (str (keyT t k n l)), .int .i64 (keyE t k n l)]) ∧ Below w.heap.size w w' := by
  unfold keyT
  cases h : tabB t && mayV k n l with
  | false => exact key_no t k n l w h
  | true =>
    rw [Bool.and_eq_true] at h
    obtain ⟨m, rfl, hm⟩ := tab_nat h.1
    have hE : keyE m k n l = 0 := by simp [keyE, h.1, h.2]
    rw [hE]
    exact key_yes m k n l w hm h.2
theorem rkey_any (t k n : Int) (l : List UInt8) (w : World) :
    Calls Try.prog 62 #[.int .i64 t, .agg #[.int .i64 (k), .int .i64 (n), .string (str (l))]] w fun e w' => e = .returned (.tuple #[.string (str (keyT t k n l)), .int .i64 (keyE t k n l)]) ∧ Below w.heap.size w w' := by
  unfold keyT
  cases h : tabB t && mayV k n l with
  | false => exact rkey_no t k n l w h
  | true =>
    rw [Bool.and_eq_true] at h
    obtain ⟨m, rfl, hm⟩ := tab_nat h.1
    have hE : keyE m k n l = 0 := by simp [keyE, h.1, h.2]
    rw [hE]
    rcases may_kinds h.2 with rfl | rfl
    · exact rkey_int m n l w hm h.2
    · exact rkey_text m n l w hm h.2
end Go.Proofs.Ytfldmejjepakeaa
/- Contracts of values: Parse. -/
namespace Go.Proofs.Ytfldmejjepakeaa
open Go.ChangeShapes Go.WideShapes Go.ChangeAt Go.RowKit
open Go.ChangeMaps (open_string shut_string)
set_option linter.unusedVariables false
set_option linter.unusedSimpArgs false
set_option maxRecDepth 100000

/-- What is between two places. -/
theorem str_extract (l : List UInt8) (i j : Nat) : (str l).extract i j = str ((l.take j).drop i) := by
  apply ByteArray.ext
  rw [ByteArray.data_extract]
  apply Array.toList_inj.1
  simp [str, List.extract_eq_take_drop, List.drop_take]
/-- A number's word, back. -/
def sgnV (x : Int) : Int := wrap64 (bits .xor .u64 x 9223372036854775808)

/-- A key's table, value (kind, number, text), as they are read; whether they are a key's. -/
def pkK (z : UInt8) : Int := if z = 0 then 1 else 2
def pkN (mid : List UInt8) (z : UInt8) : Int := if z = 0 then sgnV (numB mid) else 0
def pkS (mid : List UInt8) (z : UInt8) : List UInt8 := if z = 0 then [] else mid.take (min z.toNat 9 - 1)
def pkOk (a : UInt8) (mid : List UInt8) (z : UInt8) : Bool := tabB a.toNat && mayV (pkK z) (pkN mid z) (pkS mid z) && (keyB a.toNat (pkK z) (pkN mid z) (pkS mid z) == a :: (mid ++ [z]))
theorem pkOk_key (a : UInt8) (mid : List UInt8) (z : UInt8) : pkOk a mid z = ((keyE a.toNat (pkK z) (pkN mid z) (pkS mid z) == 0) && (keyT a.toNat (pkK z) (pkN mid z) (pkS mid z) == a :: (mid ++ [z]))) := by
  unfold pkOk keyE keyT
  cases tabB a.toNat <;> cases mayV (pkK z) (pkN mid z) (pkS mid z) <;> simp

theorem key_at0 (a z : UInt8) (mid : List UInt8) (h : mid.length = 8) (p : 0 < (str (a :: (mid ++ [z]))).size) : (str (a :: (mid ++ [z])))[0]'p = a := by
  show (str (a :: (mid ++ [z]))).data[0] = a
  simp [str]
theorem key_at9 (a z : UInt8) (mid : List UInt8) (h : mid.length = 8) (p : 9 < (str (a :: (mid ++ [z]))).size) : (str (a :: (mid ++ [z])))[9]'p = z := by
  show (str (a :: (mid ++ [z]))).data[9] = z
  simp [str, h]
theorem key_cut (a z : UInt8) (mid : List UInt8) (h : mid.length = 8) (j : Nat) (hj : j ≤ 9) : (str (a :: (mid ++ [z]))).extract 1 j = str (mid.take (j - 1)) := by
  rw [str_extract]
  congr 1
  cases j with
  | zero => simp
  | succ j => rw [List.take_succ_cons, List.drop_succ_cons, List.drop_zero, List.take_append_of_le_length (by omega)]; rfl
theorem numB_lt64 (l : List UInt8) (h : l.length = 8) : numB l < 18446744073709551616 := by
  have := numB_lt l
  rw [h] at this
  exact this

/-- What is told of a key: table, kind, number, text, error. -/
def pkRet (ok : Bool) (a : UInt8) (k n : Int) (s : List UInt8) : Ending := .returned (.tuple (if ok then #[.int .i64 a.toNat, .agg #[.int .i64 k, .int .i64 n, .string (str s)], .int .i64 0] else #[.int .i64 0, .agg #[.int .i64 0, .int .i64 0, .string (str [])], .int .i64 2]))

end Go.Proofs.Ytfldmejjepakeaa
/- Contracts of values: Parse of texts. -/
namespace Go.Proofs.Ytfldmejjepakeaa
open Go.ChangeShapes Go.WideShapes Go.ChangeAt Go.RowKit
open Go.ChangeMaps (open_string shut_string)
set_option linter.unusedVariables false
set_option linter.unusedSimpArgs false
set_option maxRecDepth 100000

end Go.Proofs.Ytfldmejjepakeaa
/- Contracts of values: the document's ParseKey. -/
namespace Go.Proofs.Ytfldmejjepakeaa
open Go.ChangeShapes Go.WideShapes Go.ChangeAt Go.RowKit
open Go.ChangeMaps (open_string shut_string)
set_option linter.unusedVariables false
set_option linter.unusedSimpArgs false
set_option maxRecDepth 100000

theorem pkOk_big (a z : UInt8) (mid : List UInt8) (h : mid.length = 8) (hz9 : 9 < z.toNat) : pkOk a mid z = false := by
  have hz0 : z ≠ 0 := fun e => by rw [e] at hz9; exact absurd hz9 (by decide)
  have hs : mid.take (min z.toNat 9 - 1) = mid := by rw [show min z.toNat 9 = 9 by omega]; exact List.take_of_length_le (by omega)
  unfold pkOk
  simp only [pkK, pkN, pkS, if_neg hz0, hs]
  have : (keyB a.toNat 2 0 mid == a :: (mid ++ [z])) = false := by
    rw [beq_eq_false_iff_ne]
    intro e
    have e2 := congrArg List.getLast? e
    unfold keyB keyL at e2
    rw [← List.cons_append, ← List.cons_append, List.getLast?_concat, List.getLast?_concat, if_neg (by decide), h] at e2
    injection e2 with e2
    rw [← e2] at hz9
    exact absurd hz9 (by decide)
  rw [this, Bool.and_false]

/-- What a key reads as. -/
def pkL (l : List UInt8) : Ending :=
  if l.length = 10 then pkRet (pkOk (l.getD 0 0) ((l.drop 1).take 8) (l.getD 9 0)) (l.getD 0 0) (pkK (l.getD 9 0)) (pkN ((l.drop 1).take 8) (l.getD 9 0)) (pkS ((l.drop 1).take 8) (l.getD 9 0)) else pkRet false 0 0 0 []
theorem key_shape (l : List UInt8) (h : l.length = 10) : ∃ a mid z, l = a :: (mid ++ [z]) ∧ mid.length = 8 := by
  match l, h with
  | [a, b0, b1, b2, b3, b4, b5, b6, b7, z], _ => exact ⟨a, [b0, b1, b2, b3, b4, b5, b6, b7], z, rfl, rfl⟩
theorem pkL_shape (a z : UInt8) (mid : List UInt8) (h : mid.length = 8) : pkL (a :: (mid ++ [z])) = pkRet (pkOk a mid z) a (pkK z) (pkN mid z) (pkS mid z) := by
  have e1 : (a :: (mid ++ [z])).length = 10 := by simp [h]
  have e2 : ((a :: (mid ++ [z])).drop 1).take 8 = mid := by
    rw [List.drop_succ_cons, List.drop_zero, List.take_append_of_le_length (by omega), List.take_of_length_le (by omega)]
  have e3 : (a :: (mid ++ [z])).getD 9 0 = z := by simp [h]
  have e4 : (a :: (mid ++ [z])).getD 0 0 = a := rfl
  unfold pkL
  rw [if_pos e1, e2, e3, e4]
theorem pkRet_no (a b : UInt8) (k n k' n' : Int) (s s' : List UInt8) : pkRet false a k n s = pkRet false b k' n' s' := rfl

end Go.Proofs.Ytfldmejjepakeaa
/- bytes.Equal. -/
namespace Go.Proofs.Ytfldmejjepakeaa
open Go.ChangeShapes Go.WideShapes Go.ChangeAt Go.RowKit
open Go.ChangeMaps (open_string shut_string)
set_option linter.unusedVariables false
set_option linter.unusedSimpArgs false
set_option maxRecDepth 100000

theorem bytes_equal (A A' : Option Addr) (n c n' c' : Nat) (l l' : List UInt8) (w : World) (h : RB w A n c l) (h' : RB w A' n' c' l') :
    Calls Try.prog 47 #[.slice A n c, .slice A' n' c'] w fun e w' => e = .returned (.bool (l == l')) ∧ w = w' := by
  have e1 := h.conv
  have e2 := h'.conv
  go_enter Try.func47, Try.ntmps47
  go_wp2
  go_ret
  exact ⟨ret_bool (by rw [str_list, str_list]), rfl⟩
end Go.Proofs.Ytfldmejjepakeaa
/- Contracts of values: Decode. -/
namespace Go.Proofs.Ytfldmejjepakeaa
open Go.ChangeShapes Go.WideShapes Go.ChangeAt Go.RowKit
open Go.ChangeMaps (open_string shut_string)
set_option linter.unusedVariables false
set_option linter.unusedSimpArgs false
set_option maxRecDepth 100000

/-- A text's kind, number, text, as they are read; whether they are a value's. -/
def dkK (h : UInt8) : Int := if h = 1 then 1 else 2
def dkN (h : UInt8) (rest : List UInt8) : Int := if h = 1 then wrap64 (numB rest) else 0
def dkS (h : UInt8) (rest : List UInt8) : List UInt8 := if h = 1 then [] else rest.take (min (h.toNat - 1) 9 - 1)
def dkOk (h : UInt8) (rest : List UInt8) : Bool := h != 0 && (mayV (dkK h) (dkN h rest) (dkS h rest) && (encB (dkK h) (dkN h rest) (dkS h rest) == h :: rest))
theorem dkOk_enc (h : UInt8) (rest : List UInt8) (h0 : h ≠ 0) : dkOk h rest = ((encE (dkK h) (dkN h rest) (dkS h rest) == 0) && (encT (dkK h) (dkN h rest) (dkS h rest) == h :: rest)) := by
  have e : (h != 0) = true := by rw [bne_iff_ne]; exact h0
  unfold dkOk encE encT
  rw [e]
  cases mayV (dkK h) (dkN h rest) (dkS h rest) <;> simp
/-- What is told of a text. -/
def dkRet (ok : Bool) (k n : Int) (s : List UInt8) : Ending := .returned (.tuple (if ok then #[.agg #[.int .i64 k, .int .i64 n, .string (str s)], .int .i64 0] else #[.agg #[.int .i64 0, .int .i64 0, .string (str [])], .int .i64 2]))

set_option maxRecDepth 100000 in
theorem dec_short (A : Option Addr) (n c : Nat) (l : List UInt8) (w : World) (hr : RB w A n c l) (h : n ≠ 9) (hn : n ≤ 1099511627776) :
    Calls Try.prog 46 #[.slice A n c] w fun e w' => e = dkRet false 0 0 [] ∧ Below w.heap.size w w' := by
  have hne : ((n : Int) != 9) = true := by rw [bne_iff_ne]; omega
  go_enter Try.func46, Try.ntmps46
  go_wp2
  refine bodyPost_ret (v := .tuple #[.agg #[.int .i64 0, .int .i64 0, .string (str [])], .int .i64 2]) (by simp [results, Try.results46, go_sem, str]) rfl ⟨rfl, (by repeat (first | exact Below.refl _ _ | assumption | apply below_drewN' | apply Below.drew | refine Below.alloc ?_ (by first | omega | (simp; done) | (simp; omega)) _ | refine Below.setCell ?_ (by first | omega | (simp; done) | (simp; omega)) _))⟩

set_option maxHeartbeats 600000 in
set_option maxRecDepth 100000 in
theorem dec_zero (g o c : Nat) (rest : List UInt8) (w : World) (hr : RB w (some ⟨g, o, none⟩) 9 c (0 :: rest)) :
    Calls Try.prog 46 #[.slice (some ⟨g, o, none⟩) 9 c] w fun e w' => e = dkRet false 0 0 [] ∧ Below w.heap.size w w' := by
  obtain ⟨_, _, e, hc⟩ := hr.at_ (by omega)
  injection e with e
  injection e with e1 e2
  subst e1; subst e2
  have hc0 : w.cell? ⟨g, o, none⟩ = some (.int .u8 0) := hc 0 0 rfl
  have hlt := World.block_lt_of_cell? w _ hc0
  clear hc
  go_enter Try.func46, Try.ntmps46
  go_wp2
  refine bodyPost_ret (v := .tuple #[.agg #[.int .i64 0, .int .i64 0, .string (str [])], .int .i64 2]) (by simp [results, Try.results46, go_sem, str]) rfl ⟨rfl, (by repeat (first | exact Below.refl _ _ | assumption | apply below_drewN' | apply Below.drew | refine Below.alloc ?_ (by first | omega | (simp; done) | (simp; omega)) _ | refine Below.setCell ?_ (by first | omega | (simp; done) | (simp; omega)) _))⟩

set_option maxHeartbeats 600000 in
set_option maxRecDepth 100000 in
theorem dec_int (g o c : Nat) (rest : List UInt8) (w : World) (hr : RB w (some ⟨g, o, none⟩) 9 c (1 :: rest)) :
    Calls Try.prog 46 #[.slice (some ⟨g, o, none⟩) 9 c] w fun e w' => e = dkRet (dkOk 1 rest) 1 (wrap64 (numB rest)) [] ∧ Below w.heap.size w w' := by
  obtain ⟨_, _, e, hc⟩ := hr.at_ (by omega)
  injection e with e
  injection e with e1 e2
  subst e1; subst e2
  have hc0 : w.cell? ⟨g, o, none⟩ = some (.int .u8 (1)) := hc 0 1 rfl
  have hlt := World.block_lt_of_cell? w _ hc0
  have hcap := hr.cap
  have hmax := hr.max
  unfold maxLen at hmax
  have hrl : rest.length = 8 := by have := hr.len; simpa using this
  have hb0 : Below w.heap.size w (w.alloc (.cells #[.int .i64 0, .int .i64 0, .string { data := #[] }] 51)) := (by repeat (first | exact Below.refl _ _ | assumption | apply below_drewN' | apply Below.drew | refine Below.alloc ?_ (by first | omega | (simp; done) | (simp; omega)) _ | refine Below.setCell ?_ (by first | omega | (simp; done) | (simp; omega)) _))
  have hR0 := Blk.new w #[.int .i64 0, .int .i64 0, .string { data := #[] }] 51
  have hrd := hr.drop 1 (by omega)
  have hrd0 := hrd.alloc (.cells #[.int .i64 0, .int .i64 0, .string { data := #[] }] 51)
  have hcv := hrd0.conv
  rw [List.drop_succ_cons, List.drop_zero] at hcv
  clear hc hrd hrd0
  have HO := dkOk_enc 1 rest (by decide)
  have HE := fun w => enc_any 1 (wrap64 (numB rest)) [] w
  simp only [dkK, dkN, dkS, if_true] at HO
  generalize encT 1 (wrap64 (numB rest)) [] = T at *
  generalize encE 1 (wrap64 (numB rest)) [] = E at *
  go_enter Try.func46, Try.ntmps46
  go_wp2_with fail
  refine (val_number rest _ (by omega)).mono ?_
  rintro e w1 ⟨rfl, hb1⟩
  have hR1 := hR0.below hb1 hR0.lt
  have b1 := hb0.next hb1 (Nat.le_refl _)
  have q1 := hR1.lt
  have hc1 := (b1.cell (p := ⟨g, o, none⟩) hlt).trans hc0
  have hg1 : g < w1.heap.size := by have := b1.size; omega
  go_wp2_with fail
  refine (HE _).mono ?_
  rintro e w4 ⟨v4, rfl, ho4, hb4⟩
  have hR4 := (hR1.alloc (.cells #[.int .i64 (1), .int .i64 (wrap64 (numB rest)), .string (ByteArray.mk #[])] 51)).below hb4 (by simp; omega)
  have hV4 := (Blk.new w1 #[.int .i64 (1), .int .i64 (wrap64 (numB rest)), .string (ByteArray.mk #[])] 51).below hb4 (by simp)
  have b4 := (b1.alloc (by omega) (.cells #[.int .i64 (1), .int .i64 (wrap64 (numB rest)), .string (ByteArray.mk #[])] 51)).trans (hb4.mono (by simp; omega))
  have q4 := hR4.lt
  have q5 := hV4.lt
  obtain ⟨A4, c4, rfl, _, _⟩ := ho4.form
  have hr4 := ho4.reads
  clear ho4
  generalize T.length = n4 at *
  have hrb4 := hr.below b4
  have f0 := hR4.fz 0
  have f1 := hR4.fz 1
  have f2 := hR4.fz 2
  have r0 := hR4.cell 0 (v := .int .i64 0) rfl
  have r1 := hR4.cell 1 (v := .int .i64 0) rfl
  have r2 := hR4.cell 2 (v := .string { data := #[] }) rfl
  have v0 := hV4.cell 0 (v := .int .i64 (1)) rfl
  have v1 := hV4.cell 1 (v := .int .i64 (wrap64 (numB rest))) rfl
  have v2 := hV4.cell 2 (v := .string (ByteArray.mk #[])) rfl
  clear HE hb4 hb1 hR0 hR1 b1 hb0 hV4
  by_cases hE : E = 0
  · subst hE
    by_cases hT : T = 1 :: rest
    · subst hT
      have hok := Lib.hid (show dkOk (1) rest = true by rw [HO]; simp)
      have HB := Lib.hid (bytes_equal A4 (some ⟨g, o, none⟩) _ c4 9 c _ _ w4 hr4 hrb4)
      rw [beq_self_eq_true] at HB
      have hF := ((hR4.set 0 (.int .i64 (1))).set 1 (.int .i64 (wrap64 (numB rest)))).set 2 (.string (ByteArray.mk #[]))
      have bF : Below w.heap.size w (((w4.setCell ⟨w.heap.size, 0, none⟩ (.int .i64 (1))).setCell ⟨w.heap.size, 1, none⟩ (.int .i64 (wrap64 (numB rest)))).setCell ⟨w.heap.size, 2, none⟩ (.string (ByteArray.mk #[]))) := (by repeat (first | exact Below.refl _ _ | assumption | apply below_drewN' | apply Below.drew | refine Below.alloc ?_ (by first | omega | (simp; done) | (simp; omega)) _ | refine Below.setCell ?_ (by first | omega | (simp; done) | (simp; omega)) _))
      clear HO hr4 hrb4 hR4
      go_wp2_with (go_at_call 47; refine HB.out.mono ?_; rintro e w5 ⟨rfl, rfl⟩)
      generalize ((w4.setCell ⟨w.heap.size, 0, none⟩ (.int .i64 (1))).setCell ⟨w.heap.size, 1, none⟩ (.int .i64 (wrap64 (numB rest)))).setCell ⟨w.heap.size, 2, none⟩ (.string (ByteArray.mk #[])) = WF at *
      have k0 := hF.cell 0 (v := .int .i64 (1)) rfl
      have k1 := hF.cell 1 (v := .int .i64 (wrap64 (numB rest))) rfl
      have k2 := hF.cell 2 (v := .string (ByteArray.mk #[])) rfl
      refine bodyPost_ret (v := .tuple #[.agg #[.int .i64 (1), .int .i64 (wrap64 (numB rest)), .string (ByteArray.mk #[])], .int .i64 0]) (by simp [results, Try.results46, go_sem, k0, k1, k2]) rfl ⟨?_, bF⟩
      rw [hok.out]; rfl
    · have hne : (T == 1 :: rest) = false := by rw [beq_eq_false_iff_ne]; exact hT
      have hok := Lib.hid (show dkOk (1) rest = false by rw [HO, hne]; simp)
      have HB := Lib.hid (bytes_equal A4 (some ⟨g, o, none⟩) _ c4 9 c _ _ w4 hr4 hrb4)
      rw [hne] at HB
      clear HO hr4 hrb4 hT hne
      go_wp2_with (go_at_call 47; refine HB.out.mono ?_; rintro e w5 ⟨rfl, rfl⟩)
      have hF := ((hR4.set 0 (.int .i64 0)).set 1 (.int .i64 0)).set 2 (.string { data := #[] })
      have bF : Below w.heap.size w (((w4.setCell ⟨w.heap.size, 0, none⟩ (.int .i64 0)).setCell ⟨w.heap.size, 1, none⟩ (.int .i64 0)).setCell ⟨w.heap.size, 2, none⟩ (.string { data := #[] })) := (by repeat (first | exact Below.refl _ _ | assumption | apply below_drewN' | apply Below.drew | refine Below.alloc ?_ (by first | omega | (simp; done) | (simp; omega)) _ | refine Below.setCell ?_ (by first | omega | (simp; done) | (simp; omega)) _))
      generalize ((w4.setCell ⟨w.heap.size, 0, none⟩ (.int .i64 0)).setCell ⟨w.heap.size, 1, none⟩ (.int .i64 0)).setCell ⟨w.heap.size, 2, none⟩ (.string { data := #[] }) = WF at *
      have k0 := hF.cell 0 (v := .int .i64 0) rfl
      have k1 := hF.cell 1 (v := .int .i64 0) rfl
      have k2 := hF.cell 2 (v := .string { data := #[] }) rfl
      refine bodyPost_ret (v := .tuple #[.agg #[.int .i64 0, .int .i64 0, .string { data := #[] }], .int .i64 2]) (by simp [results, Try.results46, go_sem, k0, k1, k2]) rfl ⟨?_, bF⟩
      rw [hok.out]; rfl
  · have hne : (E != 0) = true := by rw [bne_iff_ne]; exact hE
    have hok := Lib.hid (show dkOk (1) rest = false by rw [HO]; simp [hE])
    clear HO hr4 hrb4
    · go_wp2
      have hF := ((hR4.set 0 (.int .i64 0)).set 1 (.int .i64 0)).set 2 (.string { data := #[] })
      have bF : Below w.heap.size w (((w4.setCell ⟨w.heap.size, 0, none⟩ (.int .i64 0)).setCell ⟨w.heap.size, 1, none⟩ (.int .i64 0)).setCell ⟨w.heap.size, 2, none⟩ (.string { data := #[] })) := (by repeat (first | exact Below.refl _ _ | assumption | apply below_drewN' | apply Below.drew | refine Below.alloc ?_ (by first | omega | (simp; done) | (simp; omega)) _ | refine Below.setCell ?_ (by first | omega | (simp; done) | (simp; omega)) _))
      generalize ((w4.setCell ⟨w.heap.size, 0, none⟩ (.int .i64 0)).setCell ⟨w.heap.size, 1, none⟩ (.int .i64 0)).setCell ⟨w.heap.size, 2, none⟩ (.string { data := #[] }) = WF at *
      have k0 := hF.cell 0 (v := .int .i64 0) rfl
      have k1 := hF.cell 1 (v := .int .i64 0) rfl
      have k2 := hF.cell 2 (v := .string { data := #[] }) rfl
      refine bodyPost_ret (v := .tuple #[.agg #[.int .i64 0, .int .i64 0, .string { data := #[] }], .int .i64 2]) (by simp [results, Try.results46, go_sem, k0, k1, k2]) rfl ⟨?_, bF⟩
      rw [hok.out]; rfl

set_option maxHeartbeats 600000 in
set_option maxRecDepth 100000 in
theorem dec_small (g o c : Nat) (h : UInt8) (rest : List UInt8) (w : World) (hr : RB w (some ⟨g, o, none⟩) 9 c (h :: rest)) (h1 : 2 ≤ h.toNat) (h2 : h.toNat ≤ 10) :
    Calls Try.prog 46 #[.slice (some ⟨g, o, none⟩) 9 c] w fun e w' => e = dkRet (dkOk h rest) 2 0 (rest.take (h.toNat - 2)) ∧ Below w.heap.size w w' := by
  obtain ⟨_, _, e, hc⟩ := hr.at_ (by omega)
  injection e with e
  injection e with e1 e2
  subst e1; subst e2
  have hc0 : w.cell? ⟨g, o, none⟩ = some (.int .u8 (h.toNat)) := hc 0 h rfl
  have hlt := World.block_lt_of_cell? w _ hc0
  have hcap := hr.cap
  have hmax := hr.max
  unfold maxLen at hmax
  have hrl : rest.length = 8 := by have := hr.len; simpa using this
  have hb0 : Below w.heap.size w (w.alloc (.cells #[.int .i64 0, .int .i64 0, .string { data := #[] }] 51)) := (by repeat (first | exact Below.refl _ _ | assumption | apply below_drewN' | apply Below.drew | refine Below.alloc ?_ (by first | omega | (simp; done) | (simp; omega)) _ | refine Below.setCell ?_ (by first | omega | (simp; done) | (simp; omega)) _))
  have hR0 := Blk.new w #[.int .i64 0, .int .i64 0, .string { data := #[] }] 51
  have hrd := hr.drop 1 (by omega)
  have hrd0 := hrd.alloc (.cells #[.int .i64 0, .int .i64 0, .string { data := #[] }] 51)
  have hcv := hrd0.conv
  rw [List.drop_succ_cons, List.drop_zero] at hcv
  clear hc hrd hrd0
  have hne1 : h ≠ 1 := fun e => by rw [e] at h1; exact absurd h1 (by decide)
  have hne0 : h ≠ 0 := fun e => by rw [e] at h1; exact absurd h1 (by decide)
  have HO := dkOk_enc h rest hne0
  have HE := fun w => enc_any 2 0 (rest.take (h.toNat - 2)) w
  have hs : rest.take (min (h.toNat - 1) 9 - 1) = rest.take (h.toNat - 2) := by rw [show min (h.toNat - 1) 9 - 1 = h.toNat - 2 by omega]
  simp only [dkK, dkN, dkS, if_neg hne1, hs] at HO
  clear hs
  have hwh : IntKind.i64.wrap (h.toNat : Int) = (h.toNat : Int) := IntWalk.i64_in _ (by omega)
  have hi1 : 2 ≤ (h.toNat : Int) := by omega
  have hi2 : (h.toNat : Int) ≤ 10 := by omega
  have hz0 : ((h.toNat : Int) == 0) = false := by rw [beq_eq_false_iff_ne]; omega
  generalize hs : rest.take (h.toNat - 2) = s at *
  generalize encT 2 0 s = T at *
  generalize encE 2 0 s = E at *
  go_enter Try.func46, Try.ntmps46
  go_wp2_with fail
  refine (val_number rest _ (by omega)).mono ?_
  rintro e w1 ⟨rfl, hb1⟩
  have hR1 := hR0.below hb1 hR0.lt
  have b1 := hb0.next hb1 (Nat.le_refl _)
  have q1 := hR1.lt
  have hc1 := (b1.cell (p := ⟨g, o, none⟩) hlt).trans hc0
  have hg1 : g < w1.heap.size := by have := b1.size; omega
  have hcj : (convert 22 9 (.slice (some ⟨g, o + 1, none⟩) (h.toNat - 1 - 1) (c - 1))).run Try.prog (w1.alloc (.cells #[.int .i64 1, .int .i64 (wrap64 (numB rest)), .string (ByteArray.mk #[])] 51)) = .ok (.string (str s)) (w1.alloc (.cells #[.int .i64 1, .int .i64 (wrap64 (numB rest)), .string (ByteArray.mk #[])] 51)) := by
    have := ((((hr.below b1).drop 1 (by omega)).take (h.toNat - 1 - 1) (by omega)).alloc (.cells #[.int .i64 1, .int .i64 (wrap64 (numB rest)), .string (ByteArray.mk #[])] 51)).conv
    rw [List.drop_succ_cons, List.drop_zero, show h.toNat - 1 - 1 = h.toNat - 2 by omega, hs] at this
    rw [show h.toNat - 1 - 1 = h.toNat - 2 by omega]
    exact this
  go_wp2_with fail
  refine (HE _).mono ?_
  rintro e w4 ⟨v4, rfl, ho4, hb4⟩
  have hR4 := (hR1.alloc (.cells #[.int .i64 (2), .int .i64 (0), .string (str s)] 51)).below hb4 (by simp; omega)
  have hV4 := (Blk.new w1 #[.int .i64 (2), .int .i64 (0), .string (str s)] 51).below hb4 (by simp)
  have b4 := (b1.alloc (by omega) (.cells #[.int .i64 (2), .int .i64 (0), .string (str s)] 51)).trans (hb4.mono (by simp; omega))
  have q4 := hR4.lt
  have q5 := hV4.lt
  obtain ⟨A4, c4, rfl, _, _⟩ := ho4.form
  have hr4 := ho4.reads
  clear ho4
  generalize T.length = n4 at *
  have hrb4 := hr.below b4
  have f0 := hR4.fz 0
  have f1 := hR4.fz 1
  have f2 := hR4.fz 2
  have r0 := hR4.cell 0 (v := .int .i64 0) rfl
  have r1 := hR4.cell 1 (v := .int .i64 0) rfl
  have r2 := hR4.cell 2 (v := .string { data := #[] }) rfl
  have v0 := hV4.cell 0 (v := .int .i64 (2)) rfl
  have v1 := hV4.cell 1 (v := .int .i64 (0)) rfl
  have v2 := hV4.cell 2 (v := .string (str s)) rfl
  clear HE hb4 hb1 hR0 hR1 b1 hb0 hV4
  by_cases hE : E = 0
  · subst hE
    by_cases hT : T = h :: rest
    · subst hT
      have hok := Lib.hid (show dkOk (h) rest = true by rw [HO]; simp)
      have HB := Lib.hid (bytes_equal A4 (some ⟨g, o, none⟩) _ c4 9 c _ _ w4 hr4 hrb4)
      rw [beq_self_eq_true] at HB
      have hF := ((hR4.set 0 (.int .i64 (2))).set 1 (.int .i64 (0))).set 2 (.string (str s))
      have bF : Below w.heap.size w (((w4.setCell ⟨w.heap.size, 0, none⟩ (.int .i64 (2))).setCell ⟨w.heap.size, 1, none⟩ (.int .i64 (0))).setCell ⟨w.heap.size, 2, none⟩ (.string (str s))) := (by repeat (first | exact Below.refl _ _ | assumption | apply below_drewN' | apply Below.drew | refine Below.alloc ?_ (by first | omega | (simp; done) | (simp; omega)) _ | refine Below.setCell ?_ (by first | omega | (simp; done) | (simp; omega)) _))
      clear HO hr4 hrb4 hR4
      go_wp2_with (go_at_call 47; refine HB.out.mono ?_; rintro e w5 ⟨rfl, rfl⟩)
      generalize ((w4.setCell ⟨w.heap.size, 0, none⟩ (.int .i64 (2))).setCell ⟨w.heap.size, 1, none⟩ (.int .i64 (0))).setCell ⟨w.heap.size, 2, none⟩ (.string (str s)) = WF at *
      have k0 := hF.cell 0 (v := .int .i64 (2)) rfl
      have k1 := hF.cell 1 (v := .int .i64 (0)) rfl
      have k2 := hF.cell 2 (v := .string (str s)) rfl
      refine bodyPost_ret (v := .tuple #[.agg #[.int .i64 (2), .int .i64 (0), .string (str s)], .int .i64 0]) (by simp [results, Try.results46, go_sem, k0, k1, k2]) rfl ⟨?_, bF⟩
      rw [hok.out]; rfl
    · have hne : (T == h :: rest) = false := by rw [beq_eq_false_iff_ne]; exact hT
      have hok := Lib.hid (show dkOk (h) rest = false by rw [HO, hne]; simp)
      have HB := Lib.hid (bytes_equal A4 (some ⟨g, o, none⟩) _ c4 9 c _ _ w4 hr4 hrb4)
      rw [hne] at HB
      clear HO hr4 hrb4 hT hne
      go_wp2_with (go_at_call 47; refine HB.out.mono ?_; rintro e w5 ⟨rfl, rfl⟩)
      have hF := ((hR4.set 0 (.int .i64 0)).set 1 (.int .i64 0)).set 2 (.string { data := #[] })
      have bF : Below w.heap.size w (((w4.setCell ⟨w.heap.size, 0, none⟩ (.int .i64 0)).setCell ⟨w.heap.size, 1, none⟩ (.int .i64 0)).setCell ⟨w.heap.size, 2, none⟩ (.string { data := #[] })) := (by repeat (first | exact Below.refl _ _ | assumption | apply below_drewN' | apply Below.drew | refine Below.alloc ?_ (by first | omega | (simp; done) | (simp; omega)) _ | refine Below.setCell ?_ (by first | omega | (simp; done) | (simp; omega)) _))
      generalize ((w4.setCell ⟨w.heap.size, 0, none⟩ (.int .i64 0)).setCell ⟨w.heap.size, 1, none⟩ (.int .i64 0)).setCell ⟨w.heap.size, 2, none⟩ (.string { data := #[] }) = WF at *
      have k0 := hF.cell 0 (v := .int .i64 0) rfl
      have k1 := hF.cell 1 (v := .int .i64 0) rfl
      have k2 := hF.cell 2 (v := .string { data := #[] }) rfl
      refine bodyPost_ret (v := .tuple #[.agg #[.int .i64 0, .int .i64 0, .string { data := #[] }], .int .i64 2]) (by simp [results, Try.results46, go_sem, k0, k1, k2]) rfl ⟨?_, bF⟩
      rw [hok.out]; rfl
  · have hne : (E != 0) = true := by rw [bne_iff_ne]; exact hE
    have hok := Lib.hid (show dkOk (h) rest = false by rw [HO]; simp [hE])
    clear HO hr4 hrb4
    · go_wp2
      have hF := ((hR4.set 0 (.int .i64 0)).set 1 (.int .i64 0)).set 2 (.string { data := #[] })
      have bF : Below w.heap.size w (((w4.setCell ⟨w.heap.size, 0, none⟩ (.int .i64 0)).setCell ⟨w.heap.size, 1, none⟩ (.int .i64 0)).setCell ⟨w.heap.size, 2, none⟩ (.string { data := #[] })) := (by repeat (first | exact Below.refl _ _ | assumption | apply below_drewN' | apply Below.drew | refine Below.alloc ?_ (by first | omega | (simp; done) | (simp; omega)) _ | refine Below.setCell ?_ (by first | omega | (simp; done) | (simp; omega)) _))
      generalize ((w4.setCell ⟨w.heap.size, 0, none⟩ (.int .i64 0)).setCell ⟨w.heap.size, 1, none⟩ (.int .i64 0)).setCell ⟨w.heap.size, 2, none⟩ (.string { data := #[] }) = WF at *
      have k0 := hF.cell 0 (v := .int .i64 0) rfl
      have k1 := hF.cell 1 (v := .int .i64 0) rfl
      have k2 := hF.cell 2 (v := .string { data := #[] }) rfl
      refine bodyPost_ret (v := .tuple #[.agg #[.int .i64 0, .int .i64 0, .string { data := #[] }], .int .i64 2]) (by simp [results, Try.results46, go_sem, k0, k1, k2]) rfl ⟨?_, bF⟩
      rw [hok.out]; rfl

set_option maxHeartbeats 600000 in
set_option maxRecDepth 100000 in
theorem dec_big (g o c : Nat) (h : UInt8) (rest : List UInt8) (w : World) (hr : RB w (some ⟨g, o, none⟩) 9 c (h :: rest)) (h2 : 10 < h.toNat) :
    Calls Try.prog 46 #[.slice (some ⟨g, o, none⟩) 9 c] w fun e w' => e = dkRet (dkOk h rest) 2 0 rest ∧ Below w.heap.size w w' := by
  obtain ⟨_, _, e, hc⟩ := hr.at_ (by omega)
  injection e with e
  injection e with e1 e2
  subst e1; subst e2
  have hc0 : w.cell? ⟨g, o, none⟩ = some (.int .u8 (h.toNat)) := hc 0 h rfl
  have hlt := World.block_lt_of_cell? w _ hc0
  have hcap := hr.cap
  have hmax := hr.max
  unfold maxLen at hmax
  have hrl : rest.length = 8 := by have := hr.len; simpa using this
  have hb0 : Below w.heap.size w (w.alloc (.cells #[.int .i64 0, .int .i64 0, .string { data := #[] }] 51)) := (by repeat (first | exact Below.refl _ _ | assumption | apply below_drewN' | apply Below.drew | refine Below.alloc ?_ (by first | omega | (simp; done) | (simp; omega)) _ | refine Below.setCell ?_ (by first | omega | (simp; done) | (simp; omega)) _))
  have hR0 := Blk.new w #[.int .i64 0, .int .i64 0, .string { data := #[] }] 51
  have hrd := hr.drop 1 (by omega)
  have hrd0 := hrd.alloc (.cells #[.int .i64 0, .int .i64 0, .string { data := #[] }] 51)
  have hcv := hrd0.conv
  rw [List.drop_succ_cons, List.drop_zero] at hcv
  clear hc hrd hrd0
  have hne1 : h ≠ 1 := fun e => by rw [e] at h2; exact absurd h2 (by decide)
  have hne0 : h ≠ 0 := fun e => by rw [e] at h2; exact absurd h2 (by decide)
  have HO := dkOk_enc h rest hne0
  have HE := fun w => enc_any 2 0 rest w
  have hs : rest.take (min (h.toNat - 1) 9 - 1) = rest := by rw [show min (h.toNat - 1) 9 - 1 = 8 by omega, List.take_of_length_le (by omega)]
  simp only [dkK, dkN, dkS, if_neg hne1, hs] at HO
  clear hs
  have hwh : IntKind.i64.wrap (h.toNat : Int) = (h.toNat : Int) := IntWalk.i64_in _ (by have := h.toNat_lt; omega)
  have hi2 : 10 < (h.toNat : Int) := by omega
  have hi3 : (h.toNat : Int) < 256 := by have := h.toNat_lt; omega
  have hz0 : ((h.toNat : Int) == 0) = false := by rw [beq_eq_false_iff_ne]; omega
  generalize encT 2 0 rest = T at *
  generalize encE 2 0 rest = E at *
  go_enter Try.func46, Try.ntmps46
  go_wp2_with fail
  refine (val_number rest _ (by omega)).mono ?_
  rintro e w1 ⟨rfl, hb1⟩
  have hR1 := hR0.below hb1 hR0.lt
  have b1 := hb0.next hb1 (Nat.le_refl _)
  have q1 := hR1.lt
  have hc1 := (b1.cell (p := ⟨g, o, none⟩) hlt).trans hc0
  have hg1 : g < w1.heap.size := by have := b1.size; omega
  have hcj : (convert 22 9 (.slice (some ⟨g, o + 1, none⟩) 8 (c - 1))).run Try.prog (w1.alloc (.cells #[.int .i64 1, .int .i64 (wrap64 (numB rest)), .string (ByteArray.mk #[])] 51)) = .ok (.string (str rest)) (w1.alloc (.cells #[.int .i64 1, .int .i64 (wrap64 (numB rest)), .string (ByteArray.mk #[])] 51)) := by
    have := (((hr.below b1).drop 1 (by omega)).alloc (.cells #[.int .i64 1, .int .i64 (wrap64 (numB rest)), .string (ByteArray.mk #[])] 51)).conv
    rw [List.drop_succ_cons, List.drop_zero] at this
    exact this
  go_wp2_with fail
  refine (HE _).mono ?_
  rintro e w4 ⟨v4, rfl, ho4, hb4⟩
  have hR4 := (hR1.alloc (.cells #[.int .i64 (2), .int .i64 (0), .string (str rest)] 51)).below hb4 (by simp; omega)
  have hV4 := (Blk.new w1 #[.int .i64 (2), .int .i64 (0), .string (str rest)] 51).below hb4 (by simp)
  have b4 := (b1.alloc (by omega) (.cells #[.int .i64 (2), .int .i64 (0), .string (str rest)] 51)).trans (hb4.mono (by simp; omega))
  have q4 := hR4.lt
  have q5 := hV4.lt
  obtain ⟨A4, c4, rfl, _, _⟩ := ho4.form
  have hr4 := ho4.reads
  clear ho4
  generalize T.length = n4 at *
  have hrb4 := hr.below b4
  have f0 := hR4.fz 0
  have f1 := hR4.fz 1
  have f2 := hR4.fz 2
  have r0 := hR4.cell 0 (v := .int .i64 0) rfl
  have r1 := hR4.cell 1 (v := .int .i64 0) rfl
  have r2 := hR4.cell 2 (v := .string { data := #[] }) rfl
  have v0 := hV4.cell 0 (v := .int .i64 (2)) rfl
  have v1 := hV4.cell 1 (v := .int .i64 (0)) rfl
  have v2 := hV4.cell 2 (v := .string (str rest)) rfl
  clear HE hb4 hb1 hR0 hR1 b1 hb0 hV4
  by_cases hE : E = 0
  · subst hE
    by_cases hT : T = h :: rest
    · subst hT
      have hok := Lib.hid (show dkOk (h) rest = true by rw [HO]; simp)
      have HB := Lib.hid (bytes_equal A4 (some ⟨g, o, none⟩) _ c4 9 c _ _ w4 hr4 hrb4)
      rw [beq_self_eq_true] at HB
      have hF := ((hR4.set 0 (.int .i64 (2))).set 1 (.int .i64 (0))).set 2 (.string (str rest))
      have bF : Below w.heap.size w (((w4.setCell ⟨w.heap.size, 0, none⟩ (.int .i64 (2))).setCell ⟨w.heap.size, 1, none⟩ (.int .i64 (0))).setCell ⟨w.heap.size, 2, none⟩ (.string (str rest))) := (by repeat (first | exact Below.refl _ _ | assumption | apply below_drewN' | apply Below.drew | refine Below.alloc ?_ (by first | omega | (simp; done) | (simp; omega)) _ | refine Below.setCell ?_ (by first | omega | (simp; done) | (simp; omega)) _))
      clear HO hr4 hrb4 hR4
      go_wp2_with (go_at_call 47; refine HB.out.mono ?_; rintro e w5 ⟨rfl, rfl⟩)
      generalize ((w4.setCell ⟨w.heap.size, 0, none⟩ (.int .i64 (2))).setCell ⟨w.heap.size, 1, none⟩ (.int .i64 (0))).setCell ⟨w.heap.size, 2, none⟩ (.string (str rest)) = WF at *
      have k0 := hF.cell 0 (v := .int .i64 (2)) rfl
      have k1 := hF.cell 1 (v := .int .i64 (0)) rfl
      have k2 := hF.cell 2 (v := .string (str rest)) rfl
      refine bodyPost_ret (v := .tuple #[.agg #[.int .i64 (2), .int .i64 (0), .string (str rest)], .int .i64 0]) (by simp [results, Try.results46, go_sem, k0, k1, k2]) rfl ⟨?_, bF⟩
      rw [hok.out]; rfl
    · have hne : (T == h :: rest) = false := by rw [beq_eq_false_iff_ne]; exact hT
      have hok := Lib.hid (show dkOk (h) rest = false by rw [HO, hne]; simp)
      have HB := Lib.hid (bytes_equal A4 (some ⟨g, o, none⟩) _ c4 9 c _ _ w4 hr4 hrb4)
      rw [hne] at HB
      clear HO hr4 hrb4 hT hne
      go_wp2_with (go_at_call 47; refine HB.out.mono ?_; rintro e w5 ⟨rfl, rfl⟩)
      have hF := ((hR4.set 0 (.int .i64 0)).set 1 (.int .i64 0)).set 2 (.string { data := #[] })
      have bF : Below w.heap.size w (((w4.setCell ⟨w.heap.size, 0, none⟩ (.int .i64 0)).setCell ⟨w.heap.size, 1, none⟩ (.int .i64 0)).setCell ⟨w.heap.size, 2, none⟩ (.string { data := #[] })) := (by repeat (first | exact Below.refl _ _ | assumption | apply below_drewN' | apply Below.drew | refine Below.alloc ?_ (by first | omega | (simp; done) | (simp; omega)) _ | refine Below.setCell ?_ (by first | omega | (simp; done) | (simp; omega)) _))
      generalize ((w4.setCell ⟨w.heap.size, 0, none⟩ (.int .i64 0)).setCell ⟨w.heap.size, 1, none⟩ (.int .i64 0)).setCell ⟨w.heap.size, 2, none⟩ (.string { data := #[] }) = WF at *
      have k0 := hF.cell 0 (v := .int .i64 0) rfl
      have k1 := hF.cell 1 (v := .int .i64 0) rfl
      have k2 := hF.cell 2 (v := .string { data := #[] }) rfl
      refine bodyPost_ret (v := .tuple #[.agg #[.int .i64 0, .int .i64 0, .string { data := #[] }], .int .i64 2]) (by simp [results, Try.results46, go_sem, k0, k1, k2]) rfl ⟨?_, bF⟩
      rw [hok.out]; rfl
  · have hne : (E != 0) = true := by rw [bne_iff_ne]; exact hE
    have hok := Lib.hid (show dkOk (h) rest = false by rw [HO]; simp [hE])
    clear HO hr4 hrb4
    · go_wp2
      have hF := ((hR4.set 0 (.int .i64 0)).set 1 (.int .i64 0)).set 2 (.string { data := #[] })
      have bF : Below w.heap.size w (((w4.setCell ⟨w.heap.size, 0, none⟩ (.int .i64 0)).setCell ⟨w.heap.size, 1, none⟩ (.int .i64 0)).setCell ⟨w.heap.size, 2, none⟩ (.string { data := #[] })) := (by repeat (first | exact Below.refl _ _ | assumption | apply below_drewN' | apply Below.drew | refine Below.alloc ?_ (by first | omega | (simp; done) | (simp; omega)) _ | refine Below.setCell ?_ (by first | omega | (simp; done) | (simp; omega)) _))
      generalize ((w4.setCell ⟨w.heap.size, 0, none⟩ (.int .i64 0)).setCell ⟨w.heap.size, 1, none⟩ (.int .i64 0)).setCell ⟨w.heap.size, 2, none⟩ (.string { data := #[] }) = WF at *
      have k0 := hF.cell 0 (v := .int .i64 0) rfl
      have k1 := hF.cell 1 (v := .int .i64 0) rfl
      have k2 := hF.cell 2 (v := .string { data := #[] }) rfl
      refine bodyPost_ret (v := .tuple #[.agg #[.int .i64 0, .int .i64 0, .string { data := #[] }], .int .i64 2]) (by simp [results, Try.results46, go_sem, k0, k1, k2]) rfl ⟨?_, bF⟩
      rw [hok.out]; rfl
end Go.Proofs.Ytfldmejjepakeaa
/- Contracts of values: the document's Decode. -/
namespace Go.Proofs.Ytfldmejjepakeaa
open Go.ChangeShapes Go.WideShapes Go.ChangeAt Go.RowKit
open Go.ChangeMaps (open_string shut_string)
set_option linter.unusedVariables false
set_option linter.unusedSimpArgs false
set_option maxRecDepth 100000

theorem dkOk_T (h : UInt8) (rest : List UInt8) (h0 : h ≠ 0) : dkOk h rest = (encT (dkK h) (dkN h rest) (dkS h rest) == h :: rest) := by
  have e : (h != 0) = true := by rw [bne_iff_ne]; exact h0
  unfold dkOk encT
  rw [e]
  cases mayV (dkK h) (dkN h rest) (dkS h rest) <;> simp
theorem dkOk_big (h : UInt8) (rest : List UInt8) (hl : rest.length = 8) (h2 : 10 < h.toNat) : dkOk h rest = false := by
  have hne1 : h ≠ 1 := fun e => by rw [e] at h2; exact absurd h2 (by decide)
  have hs : rest.take (min (h.toNat - 1) 9 - 1) = rest := by rw [show min (h.toNat - 1) 9 - 1 = 8 by omega, List.take_of_length_le (by omega)]
  have : (encB 2 0 rest == h :: rest) = false := by
    rw [beq_eq_false_iff_ne]
    intro e
    unfold encB at e
    rw [if_neg (by decide), hl] at e
    injection e with e _
    rw [← e] at h2
    exact absurd h2 (by decide)
  unfold dkOk
  simp only [dkK, dkN, dkS, if_neg hne1, hs, this, Bool.and_false]

set_option maxRecDepth 100000 in
theorem rdec_short (A : Option Addr) (n c : Nat) (l : List UInt8) (w : World) (hr : RB w A n c l) (h : n ≠ 9) (hn : n ≤ 1099511627776) :
    Calls Try.prog 48 #[.slice A n c] w fun e w' => e = dkRet false 0 0 [] ∧ Below w.heap.size w w' := by
  have hne : ((n : Int) != 9) = true := by rw [bne_iff_ne]; omega
  go_enter Try.func48, Try.ntmps48
  go_wp2
  refine bodyPost_ret (v := .tuple #[.agg #[.int .i64 0, .int .i64 0, .string (str [])], .int .i64 2]) (by simp [results, Try.results48, go_sem, str]) rfl ⟨rfl, (by repeat (first | exact Below.refl _ _ | assumption | apply below_drewN' | apply Below.drew | refine Below.alloc ?_ (by first | omega | (simp; done) | (simp; omega)) _ | refine Below.setCell ?_ (by first | omega | (simp; done) | (simp; omega)) _))⟩

set_option maxHeartbeats 600000 in
set_option maxRecDepth 100000 in
theorem rdec_out (g o c : Nat) (h : UInt8) (rest : List UInt8) (w : World) (hr : RB w (some ⟨g, o, none⟩) 9 c (h :: rest)) (hz : h.toNat = 0 ∨ 10 < h.toNat) :
    Calls Try.prog 48 #[.slice (some ⟨g, o, none⟩) 9 c] w fun e w' => e = dkRet false 0 0 [] ∧ Below w.heap.size w w' := by
  obtain ⟨_, _, e, hc⟩ := hr.at_ (by omega)
  injection e with e
  injection e with e1 e2
  subst e1; subst e2
  have hc0 : w.cell? ⟨g, o, none⟩ = some (.int .u8 h.toNat) := hc 0 h rfl
  have hlt := World.block_lt_of_cell? w _ hc0
  clear hc
  rcases hz with hz | hz
  · rw [hz] at hc0
    go_enter Try.func48, Try.ntmps48
    go_wp2
    refine bodyPost_ret (v := .tuple #[.agg #[.int .i64 0, .int .i64 0, .string (str [])], .int .i64 2]) (by simp [results, Try.results48, go_sem, str]) rfl ⟨rfl, (by repeat (first | exact Below.refl _ _ | assumption | apply below_drewN' | apply Below.drew | refine Below.alloc ?_ (by first | omega | (simp; done) | (simp; omega)) _ | refine Below.setCell ?_ (by first | omega | (simp; done) | (simp; omega)) _))⟩
  · have h1 : 10 < (h.toNat : Int) := by omega
    go_enter Try.func48, Try.ntmps48
    go_wp2
    refine bodyPost_ret (v := .tuple #[.agg #[.int .i64 0, .int .i64 0, .string (str [])], .int .i64 2]) (by simp [results, Try.results48, go_sem, str]) rfl ⟨rfl, (by repeat (first | exact Below.refl _ _ | assumption | apply below_drewN' | apply Below.drew | refine Below.alloc ?_ (by first | omega | (simp; done) | (simp; omega)) _ | refine Below.setCell ?_ (by first | omega | (simp; done) | (simp; omega)) _))⟩


set_option maxHeartbeats 600000 in
set_option maxRecDepth 100000 in
theorem rdec_int (g o c : Nat) (rest : List UInt8) (w : World) (hr : RB w (some ⟨g, o, none⟩) 9 c (1 :: rest)) :
    Calls Try.prog 48 #[.slice (some ⟨g, o, none⟩) 9 c] w fun e w' => e = dkRet (dkOk 1 rest) 1 (wrap64 (numB rest)) [] ∧ Below w.heap.size w w' := by
  obtain ⟨_, _, e, hc⟩ := hr.at_ (by omega)
  injection e with e
  injection e with e1 e2
  subst e1; subst e2
  have hc0 : w.cell? ⟨g, o, none⟩ = some (.int .u8 (1)) := hc 0 1 rfl
  have hlt := World.block_lt_of_cell? w _ hc0
  have hcap := hr.cap
  have hmax := hr.max
  unfold maxLen at hmax
  have hrl : rest.length = 8 := by have := hr.len; simpa using this
  have hb0 : Below w.heap.size w (w.alloc (.cells #[.int .i64 0, .int .i64 0, .string { data := #[] }] 51)) := (by repeat (first | exact Below.refl _ _ | assumption | apply below_drewN' | apply Below.drew | refine Below.alloc ?_ (by first | omega | (simp; done) | (simp; omega)) _ | refine Below.setCell ?_ (by first | omega | (simp; done) | (simp; omega)) _))
  have hR0 := Blk.new w #[.int .i64 0, .int .i64 0, .string { data := #[] }] 51
  have hrd := hr.drop 1 (by omega)
  have hrd0 := hrd.alloc (.cells #[.int .i64 0, .int .i64 0, .string { data := #[] }] 51)
  rw [List.drop_succ_cons, List.drop_zero] at hrd0
  clear hc hrd
  have HO := dkOk_T 1 rest (by decide)
  have HE := fun w => renc_any 1 (wrap64 (numB rest)) [] w
  simp only [dkK, dkN, dkS, if_true] at HO
  generalize encT 1 (wrap64 (numB rest)) [] = T at *
  generalize encE 1 (wrap64 (numB rest)) [] = E at *
  go_enter Try.func48, Try.ntmps48
  go_wp2_with fail
  have hWs : (w.alloc (.cells #[.int .i64 0, .int .i64 0, .string { data := #[] }] 51)).heap.size = w.heap.size + 1 := World.size_alloc _ _
  have HN := ref_number (some ⟨g, o + 1, none⟩) (c - 1) rest _ (by rw [hrl]; exact hrd0) (by omega)
  rw [hrl] at HN
  have hR1 := hR0
  have b1 := hb0
  clear hR0 hb0 hrd0
  generalize w.alloc (.cells #[.int .i64 0, .int .i64 0, .string { data := #[] }] 51) = w1 at *
  have HWs := Lib.hid hWs
  clear hWs
  refine HN.mono ?_
  rintro e w2 ⟨rfl, rfl⟩
  clear HN
  have q1 := hR1.lt
  have hc1 := (b1.cell (p := ⟨g, o, none⟩) hlt).trans hc0
  have hg1 : g < w1.heap.size := by have := b1.size; omega
  go_wp2_with fail
  refine (HE _).mono ?_
  rintro e w4 ⟨v4, rfl, ho4, hb4⟩
  have hR4 := (hR1.alloc (.cells #[.int .i64 (1), .int .i64 (wrap64 (numB rest)), .string (ByteArray.mk #[])] 51)).below hb4 (by simp; omega)
  have hV4 := (Blk.new w1 #[.int .i64 (1), .int .i64 (wrap64 (numB rest)), .string (ByteArray.mk #[])] 51).below hb4 (by simp)
  have b4 := (b1.alloc (by omega) (.cells #[.int .i64 (1), .int .i64 (wrap64 (numB rest)), .string (ByteArray.mk #[])] 51)).trans (hb4.mono (by simp; omega))
  have q4 := hR4.lt
  have q5 := hV4.lt
  obtain ⟨A4, c4, rfl, _, _⟩ := ho4.form
  have hr4 := ho4.reads
  clear ho4
  generalize T.length = n4 at *
  have hrb4 := hr.below b4
  have f0 := hR4.fz 0
  have f1 := hR4.fz 1
  have f2 := hR4.fz 2
  have r0 := hR4.cell 0 (v := .int .i64 0) rfl
  have r1 := hR4.cell 1 (v := .int .i64 0) rfl
  have r2 := hR4.cell 2 (v := .string { data := #[] }) rfl
  have v0 := hV4.cell 0 (v := .int .i64 (1)) rfl
  have v1 := hV4.cell 1 (v := .int .i64 (wrap64 (numB rest))) rfl
  have v2 := hV4.cell 2 (v := .string (ByteArray.mk #[])) rfl
  clear HE hb4 hR1 b1 hV4
  by_cases hT : T = 1 :: rest
  · subst hT
    have hok := Lib.hid (show dkOk (1) rest = true by rw [HO]; simp)
    have HB := Lib.hid (ref_Bytes A4 (some ⟨g, o, none⟩) _ c4 9 c _ _ w4 hr4 hrb4)
    rw [beq_self_eq_true] at HB
    have hF := ((hR4.set 0 (.int .i64 (1))).set 1 (.int .i64 (wrap64 (numB rest)))).set 2 (.string (ByteArray.mk #[]))
    have bF : Below w.heap.size w (((w4.setCell ⟨w.heap.size, 0, none⟩ (.int .i64 (1))).setCell ⟨w.heap.size, 1, none⟩ (.int .i64 (wrap64 (numB rest)))).setCell ⟨w.heap.size, 2, none⟩ (.string (ByteArray.mk #[]))) := (by repeat (first | exact Below.refl _ _ | assumption | apply below_drewN' | apply Below.drew | refine Below.alloc ?_ (by first | omega | (simp; done) | (simp; omega)) _ | refine Below.setCell ?_ (by first | omega | (simp; done) | (simp; omega)) _))
    clear HO hr4 hrb4 hR4
    go_wp2_with (go_at_call 20; refine HB.out.mono ?_; rintro e w5 ⟨rfl, rfl⟩)
    generalize ((w4.setCell ⟨w.heap.size, 0, none⟩ (.int .i64 (1))).setCell ⟨w.heap.size, 1, none⟩ (.int .i64 (wrap64 (numB rest)))).setCell ⟨w.heap.size, 2, none⟩ (.string (ByteArray.mk #[])) = WF at *
    have k0 := hF.cell 0 (v := .int .i64 (1)) rfl
    have k1 := hF.cell 1 (v := .int .i64 (wrap64 (numB rest))) rfl
    have k2 := hF.cell 2 (v := .string (ByteArray.mk #[])) rfl
    refine bodyPost_ret (v := .tuple #[.agg #[.int .i64 (1), .int .i64 (wrap64 (numB rest)), .string (ByteArray.mk #[])], .int .i64 0]) (by simp [results, Try.results48, go_sem, k0, k1, k2]) rfl ⟨?_, bF⟩
    rw [hok.out]; rfl
  · have hne : (T == 1 :: rest) = false := by rw [beq_eq_false_iff_ne]; exact hT
    have hok := Lib.hid (show dkOk (1) rest = false by rw [HO, hne])
    have HB := Lib.hid (ref_Bytes A4 (some ⟨g, o, none⟩) _ c4 9 c _ _ w4 hr4 hrb4)
    rw [hne] at HB
    clear HO hr4 hrb4 hT hne
    go_wp2_with (go_at_call 20; refine HB.out.mono ?_; rintro e w5 ⟨rfl, rfl⟩)
    have hF := ((hR4.set 0 (.int .i64 0)).set 1 (.int .i64 0)).set 2 (.string { data := #[] })
    have bF : Below w.heap.size w (((w4.setCell ⟨w.heap.size, 0, none⟩ (.int .i64 0)).setCell ⟨w.heap.size, 1, none⟩ (.int .i64 0)).setCell ⟨w.heap.size, 2, none⟩ (.string { data := #[] })) := (by repeat (first | exact Below.refl _ _ | assumption | apply below_drewN' | apply Below.drew | refine Below.alloc ?_ (by first | omega | (simp; done) | (simp; omega)) _ | refine Below.setCell ?_ (by first | omega | (simp; done) | (simp; omega)) _))
    generalize ((w4.setCell ⟨w.heap.size, 0, none⟩ (.int .i64 0)).setCell ⟨w.heap.size, 1, none⟩ (.int .i64 0)).setCell ⟨w.heap.size, 2, none⟩ (.string { data := #[] }) = WF at *
    have k0 := hF.cell 0 (v := .int .i64 0) rfl
    have k1 := hF.cell 1 (v := .int .i64 0) rfl
    have k2 := hF.cell 2 (v := .string { data := #[] }) rfl
    refine bodyPost_ret (v := .tuple #[.agg #[.int .i64 0, .int .i64 0, .string { data := #[] }], .int .i64 2]) (by simp [results, Try.results48, go_sem, k0, k1, k2]) rfl ⟨?_, bF⟩
    rw [hok.out]; rfl

set_option maxHeartbeats 600000 in
set_option maxRecDepth 100000 in
theorem rdec_small (g o c : Nat) (h : UInt8) (rest : List UInt8) (w : World) (hr : RB w (some ⟨g, o, none⟩) 9 c (h :: rest)) (h1 : 2 ≤ h.toNat) (h2 : h.toNat ≤ 10) :
    Calls Try.prog 48 #[.slice (some ⟨g, o, none⟩) 9 c] w fun e w' => e = dkRet (dkOk h rest) 2 0 (rest.take (h.toNat - 2)) ∧ Below w.heap.size w w' := by
  obtain ⟨_, _, e, hc⟩ := hr.at_ (by omega)
  injection e with e
  injection e with e1 e2
  subst e1; subst e2
  have hc0 : w.cell? ⟨g, o, none⟩ = some (.int .u8 (h.toNat)) := hc 0 h rfl
  have hlt := World.block_lt_of_cell? w _ hc0
  have hcap := hr.cap
  have hmax := hr.max
  unfold maxLen at hmax
  have hrl : rest.length = 8 := by have := hr.len; simpa using this
  have hb0 : Below w.heap.size w (w.alloc (.cells #[.int .i64 0, .int .i64 0, .string { data := #[] }] 51)) := (by repeat (first | exact Below.refl _ _ | assumption | apply below_drewN' | apply Below.drew | refine Below.alloc ?_ (by first | omega | (simp; done) | (simp; omega)) _ | refine Below.setCell ?_ (by first | omega | (simp; done) | (simp; omega)) _))
  have hR0 := Blk.new w #[.int .i64 0, .int .i64 0, .string { data := #[] }] 51
  have hrd := hr.drop 1 (by omega)
  have hrd0 := hrd.alloc (.cells #[.int .i64 0, .int .i64 0, .string { data := #[] }] 51)
  rw [List.drop_succ_cons, List.drop_zero] at hrd0
  clear hc hrd
  have hne1 : h ≠ 1 := fun e => by rw [e] at h1; exact absurd h1 (by decide)
  have hne0 : h ≠ 0 := fun e => by rw [e] at h1; exact absurd h1 (by decide)
  have HO := dkOk_T h rest hne0
  have HE := fun w => renc_any 2 0 (rest.take (h.toNat - 2)) w
  have hs : rest.take (min (h.toNat - 1) 9 - 1) = rest.take (h.toNat - 2) := by rw [show min (h.toNat - 1) 9 - 1 = h.toNat - 2 by omega]
  simp only [dkK, dkN, dkS, if_neg hne1, hs] at HO
  clear hs
  have hwh : IntKind.u8.wrap ((h.toNat : Int) - 1) = (h.toNat : Int) - 1 := by rw [IntKind.wrap_u8]; omega
  have hi1 : 2 ≤ (h.toNat : Int) := by omega
  have hi2 : (h.toNat : Int) ≤ 10 := by omega
  generalize hs : rest.take (h.toNat - 2) = s at *
  generalize encT 2 0 s = T at *
  generalize encE 2 0 s = E at *
  go_enter Try.func48, Try.ntmps48
  go_wp2_with fail
  have hWs : (w.alloc (.cells #[.int .i64 0, .int .i64 0, .string { data := #[] }] 51)).heap.size = w.heap.size + 1 := World.size_alloc _ _
  have HN := ref_number (some ⟨g, o + 1, none⟩) (c - 1) rest _ (by rw [hrl]; exact hrd0) (by omega)
  rw [hrl] at HN
  have hR1 := hR0
  have b1 := hb0
  clear hR0 hb0 hrd0
  generalize w.alloc (.cells #[.int .i64 0, .int .i64 0, .string { data := #[] }] 51) = w1 at *
  have HWs := Lib.hid hWs
  clear hWs
  refine HN.mono ?_
  rintro e w2 ⟨rfl, rfl⟩
  clear HN
  have q1 := hR1.lt
  have hc1 := (b1.cell (p := ⟨g, o, none⟩) hlt).trans hc0
  have hg1 : g < w1.heap.size := by have := b1.size; omega
  have hcj : (convert 22 9 (.slice (some ⟨g, o + 1, none⟩) (h.toNat - 1 - 1) (c - 1))).run Try.prog (w1.alloc (.cells #[.int .i64 1, .int .i64 (wrap64 (numB rest)), .string (ByteArray.mk #[])] 51)) = .ok (.string (str s)) (w1.alloc (.cells #[.int .i64 1, .int .i64 (wrap64 (numB rest)), .string (ByteArray.mk #[])] 51)) := by
    have := ((((hr.below b1).drop 1 (by omega)).take (h.toNat - 1 - 1) (by omega)).alloc (.cells #[.int .i64 1, .int .i64 (wrap64 (numB rest)), .string (ByteArray.mk #[])] 51)).conv
    rw [List.drop_succ_cons, List.drop_zero, show h.toNat - 1 - 1 = h.toNat - 2 by omega, hs] at this
    rw [show h.toNat - 1 - 1 = h.toNat - 2 by omega]
    exact this
  go_wp2_with fail
  refine (HE _).mono ?_
  rintro e w4 ⟨v4, rfl, ho4, hb4⟩
  have hR4 := (hR1.alloc (.cells #[.int .i64 (2), .int .i64 (0), .string (str s)] 51)).below hb4 (by simp; omega)
  have hV4 := (Blk.new w1 #[.int .i64 (2), .int .i64 (0), .string (str s)] 51).below hb4 (by simp)
  have b4 := (b1.alloc (by omega) (.cells #[.int .i64 (2), .int .i64 (0), .string (str s)] 51)).trans (hb4.mono (by simp; omega))
  have q4 := hR4.lt
  have q5 := hV4.lt
  obtain ⟨A4, c4, rfl, _, _⟩ := ho4.form
  have hr4 := ho4.reads
  clear ho4
  generalize T.length = n4 at *
  have hrb4 := hr.below b4
  have f0 := hR4.fz 0
  have f1 := hR4.fz 1
  have f2 := hR4.fz 2
  have r0 := hR4.cell 0 (v := .int .i64 0) rfl
  have r1 := hR4.cell 1 (v := .int .i64 0) rfl
  have r2 := hR4.cell 2 (v := .string { data := #[] }) rfl
  have v0 := hV4.cell 0 (v := .int .i64 (2)) rfl
  have v1 := hV4.cell 1 (v := .int .i64 (0)) rfl
  have v2 := hV4.cell 2 (v := .string (str s)) rfl
  clear HE hb4 hR1 b1 hV4
  by_cases hT : T = h :: rest
  · subst hT
    have hok := Lib.hid (show dkOk (h) rest = true by rw [HO]; simp)
    have HB := Lib.hid (ref_Bytes A4 (some ⟨g, o, none⟩) _ c4 9 c _ _ w4 hr4 hrb4)
    rw [beq_self_eq_true] at HB
    have hF := ((hR4.set 0 (.int .i64 (2))).set 1 (.int .i64 (0))).set 2 (.string (str s))
    have bF : Below w.heap.size w (((w4.setCell ⟨w.heap.size, 0, none⟩ (.int .i64 (2))).setCell ⟨w.heap.size, 1, none⟩ (.int .i64 (0))).setCell ⟨w.heap.size, 2, none⟩ (.string (str s))) := (by repeat (first | exact Below.refl _ _ | assumption | apply below_drewN' | apply Below.drew | refine Below.alloc ?_ (by first | omega | (simp; done) | (simp; omega)) _ | refine Below.setCell ?_ (by first | omega | (simp; done) | (simp; omega)) _))
    clear HO hr4 hrb4 hR4
    go_wp2_with (go_at_call 20; refine HB.out.mono ?_; rintro e w5 ⟨rfl, rfl⟩)
    generalize ((w4.setCell ⟨w.heap.size, 0, none⟩ (.int .i64 (2))).setCell ⟨w.heap.size, 1, none⟩ (.int .i64 (0))).setCell ⟨w.heap.size, 2, none⟩ (.string (str s)) = WF at *
    have k0 := hF.cell 0 (v := .int .i64 (2)) rfl
    have k1 := hF.cell 1 (v := .int .i64 (0)) rfl
    have k2 := hF.cell 2 (v := .string (str s)) rfl
    refine bodyPost_ret (v := .tuple #[.agg #[.int .i64 (2), .int .i64 (0), .string (str s)], .int .i64 0]) (by simp [results, Try.results48, go_sem, k0, k1, k2]) rfl ⟨?_, bF⟩
    rw [hok.out]; rfl
  · have hne : (T == h :: rest) = false := by rw [beq_eq_false_iff_ne]; exact hT
    have hok := Lib.hid (show dkOk (h) rest = false by rw [HO, hne])
    have HB := Lib.hid (ref_Bytes A4 (some ⟨g, o, none⟩) _ c4 9 c _ _ w4 hr4 hrb4)
    rw [hne] at HB
    clear HO hr4 hrb4 hT hne
    go_wp2_with (go_at_call 20; refine HB.out.mono ?_; rintro e w5 ⟨rfl, rfl⟩)
    have hF := ((hR4.set 0 (.int .i64 0)).set 1 (.int .i64 0)).set 2 (.string { data := #[] })
    have bF : Below w.heap.size w (((w4.setCell ⟨w.heap.size, 0, none⟩ (.int .i64 0)).setCell ⟨w.heap.size, 1, none⟩ (.int .i64 0)).setCell ⟨w.heap.size, 2, none⟩ (.string { data := #[] })) := (by repeat (first | exact Below.refl _ _ | assumption | apply below_drewN' | apply Below.drew | refine Below.alloc ?_ (by first | omega | (simp; done) | (simp; omega)) _ | refine Below.setCell ?_ (by first | omega | (simp; done) | (simp; omega)) _))
    generalize ((w4.setCell ⟨w.heap.size, 0, none⟩ (.int .i64 0)).setCell ⟨w.heap.size, 1, none⟩ (.int .i64 0)).setCell ⟨w.heap.size, 2, none⟩ (.string { data := #[] }) = WF at *
    have k0 := hF.cell 0 (v := .int .i64 0) rfl
    have k1 := hF.cell 1 (v := .int .i64 0) rfl
    have k2 := hF.cell 2 (v := .string { data := #[] }) rfl
    refine bodyPost_ret (v := .tuple #[.agg #[.int .i64 0, .int .i64 0, .string { data := #[] }], .int .i64 2]) (by simp [results, Try.results48, go_sem, k0, k1, k2]) rfl ⟨?_, bF⟩
    rw [hok.out]; rfl

/-- What a text reads as. -/
def dkL (l : List UInt8) : Ending :=
  if l.length = 9 then dkRet (dkOk (l.getD 0 0) (l.drop 1)) (dkK (l.getD 0 0)) (dkN (l.getD 0 0) (l.drop 1)) (dkS (l.getD 0 0) (l.drop 1)) else dkRet false 0 0 []
theorem dkRet_no (k n k' n' : Int) (s s' : List UInt8) : dkRet false k n s = dkRet false k' n' s' := rfl
theorem dkOk_zero (rest : List UInt8) : dkOk 0 rest = false := by unfold dkOk; simp
theorem nine_shape (l : List UInt8) (h : l.length = 9) : ∃ a rest, l = a :: rest ∧ rest.length = 8 := by
  match l, h with
  | a :: rest, h => exact ⟨a, rest, rfl, by simpa using h⟩
theorem dkL_shape (a : UInt8) (rest : List UInt8) (h : rest.length = 8) : dkL (a :: rest) = dkRet (dkOk a rest) (dkK a) (dkN a rest) (dkS a rest) := by
  unfold dkL
  rw [if_pos (by simp [h])]
  rfl
theorem dec_any (A : Option Addr) (n c : Nat) (l : List UInt8) (w : World) (hr : RB w A n c l) (hn : n ≤ 1099511627776) :
    Calls Try.prog 46 #[.slice A n c] w fun e w' => e = dkL l ∧ Below w.heap.size w w' := by
  have hlen := hr.len
  by_cases h : n = 9
  · subst h
    obtain ⟨g, o, rfl, _⟩ := hr.at_ (by omega)
    obtain ⟨a, rest, rfl, hm⟩ := nine_shape l hlen
    rw [dkL_shape a rest hm]
    by_cases h0 : a = 0
    · subst h0
      rw [dkOk_zero, dkRet_no _ _ 0 0 _ []]
      exact dec_zero g o c rest w hr
    · by_cases h1 : a = 1
      · subst h1
        have := dec_int g o c rest w hr
        simpa [dkK, dkN, dkS] using this
      · have a0 : a.toNat ≠ 0 := fun e => h0 (UInt8.toNat_inj.1 (by rw [e]; rfl))
        have a1 : a.toNat ≠ 1 := fun e => h1 (UInt8.toNat_inj.1 (by rw [e]; rfl))
        simp only [dkK, dkN, dkS, if_neg h1]
        by_cases h2 : a.toNat ≤ 10
        · rw [show min (a.toNat - 1) 9 - 1 = a.toNat - 2 by omega]
          exact dec_small g o c a rest w hr (by omega) h2
        · rw [show min (a.toNat - 1) 9 - 1 = 8 by omega, List.take_of_length_le (by omega)]
          exact dec_big g o c a rest w hr (by omega)
  · have : dkL l = dkRet false 0 0 [] := by unfold dkL; rw [if_neg (by omega)]
    rw [this]
    exact dec_short A n c l w hr h hn
theorem rdec_any (A : Option Addr) (n c : Nat) (l : List UInt8) (w : World) (hr : RB w A n c l) (hn : n ≤ 1099511627776) :
    Calls Try.prog 48 #[.slice A n c] w fun e w' => e = dkL l ∧ Below w.heap.size w w' := by
  have hlen := hr.len
  by_cases h : n = 9
  · subst h
    obtain ⟨g, o, rfl, _⟩ := hr.at_ (by omega)
    obtain ⟨a, rest, rfl, hm⟩ := nine_shape l hlen
    rw [dkL_shape a rest hm]
    by_cases h0 : a = 0
    · subst h0
      rw [dkOk_zero, dkRet_no _ _ 0 0 _ []]
      exact rdec_out g o c 0 rest w hr (.inl rfl)
    · by_cases h1 : a = 1
      · subst h1
        have := rdec_int g o c rest w hr
        simpa [dkK, dkN, dkS] using this
      · have a0 : a.toNat ≠ 0 := fun e => h0 (UInt8.toNat_inj.1 (by rw [e]; rfl))
        have a1 : a.toNat ≠ 1 := fun e => h1 (UInt8.toNat_inj.1 (by rw [e]; rfl))
        by_cases h2 : a.toNat ≤ 10
        · simp only [dkK, dkN, dkS, if_neg h1]
          rw [show min (a.toNat - 1) 9 - 1 = a.toNat - 2 by omega]
          exact rdec_small g o c a rest w hr (by omega) h2
        · rw [dkOk_big a rest hm (by omega), dkRet_no _ _ 0 0 _ []]
          exact rdec_out g o c a rest w hr (.inr (by omega))
  · have : dkL l = dkRet false 0 0 [] := by unfold dkL; rw [if_neg (by omega)]
    rw [this]
    exact rdec_short A n c l w hr h hn
end Go.Proofs.Ytfldmejjepakeaa
/- Slices of values of the call's own; a row's text, read (pure). -/
namespace Go.Proofs.Ytfldmejjepakeaa
open Go.ChangeShapes Go.WideShapes Go.ChangeAt Go.RowKit
open Go.ChangeMaps (open_string shut_string)
set_option linter.unusedVariables false
set_option linter.unusedSimpArgs false
set_option maxRecDepth 100000
open Go.Deep

def cell3 (v : ValR) : List Value := [.int .i64 v.k, .int .i64 v.n, .string (str v.s)]
def cellsV (V : List ValR) : List Value := V.flatMap cell3
theorem cellsV_cons (v : ValR) (V : List ValR) : cellsV (v :: V) = .int .i64 v.k :: .int .i64 v.n :: .string (str v.s) :: cellsV V := rfl
theorem cellsV_len (V : List ValR) : (cellsV V).length = V.length * 3 := by
  induction V with
  | nil => rfl
  | cons v V ih => rw [cellsV_cons]; simp only [List.length_cons, ih]; omega
theorem cellsV_app (V M : List ValR) : cellsV (V ++ M) = cellsV V ++ cellsV M := by simp [cellsV]
theorem cellsV_at {V : List ValR} : ∀ {i : Nat} {v : ValR}, V[i]? = some v → (cellsV V)[i * 3]? = some (.int .i64 v.k) ∧ (cellsV V)[i * 3 + 1]? = some (.int .i64 v.n) ∧ (cellsV V)[i * 3 + 2]? = some (.string (str v.s)) := by
  induction V with
  | nil => intro i v h; simp at h
  | cons u V ih =>
    intro i v h
    cases i with
    | zero =>
      simp at h
      subst h
      exact ⟨rfl, rfl, rfl⟩
    | succ i =>
      obtain ⟨h0, h1, h2⟩ := ih (i := i) (v := v) (by simpa using h)
      rw [cellsV_cons]
      refine ⟨?_, ?_, ?_⟩
      · rw [show (i + 1) * 3 = i * 3 + 1 + 1 + 1 by omega]; simpa using h0
      · rw [show (i + 1) * 3 + 1 = i * 3 + 1 + 1 + 1 + 1 by omega]; simpa using h1
      · rw [show (i + 1) * 3 + 2 = i * 3 + 2 + 1 + 1 + 1 by omega]; simpa using h2
theorem cellsV_inv {V : List ValR} : ∀ {j : Nat} {u : Value}, (cellsV V)[j]? = some u → ∃ i v, V[i]? = some v ∧ ((j = i * 3 ∧ u = .int .i64 v.k) ∨ (j = i * 3 + 1 ∧ u = .int .i64 v.n) ∨ (j = i * 3 + 2 ∧ u = .string (str v.s))) := by
  induction V with
  | nil => intro j u h; simp [cellsV] at h
  | cons w V ih =>
    intro j u h
    rw [cellsV_cons] at h
    match j with
    | 0 => simp at h; exact ⟨0, w, rfl, .inl ⟨rfl, h.symm⟩⟩
    | 1 => simp at h; exact ⟨0, w, rfl, .inr (.inl ⟨rfl, h.symm⟩)⟩
    | 2 => simp at h; exact ⟨0, w, rfl, .inr (.inr ⟨rfl, h.symm⟩)⟩
    | j + 3 =>
      obtain ⟨i, v, hv, hh⟩ := ih (j := j) (u := u) (by simpa using h)
      exact ⟨i + 1, v, by simpa using hv, by
        rcases hh with ⟨a, b⟩ | ⟨a, b⟩ | ⟨a, b⟩
        · exact .inl ⟨by omega, b⟩
        · exact .inr (.inl ⟨by omega, b⟩)
        · exact .inr (.inr ⟨by omega, b⟩)⟩
theorem RV.cells {w : World} {g o n c : Nat} {V : List ValR} (h : RV w (some ⟨g, o, none⟩) n c V) : ∀ j u, (cellsV V)[j]? = some u → w.cell? ((⟨g, o, none⟩ : Addr).add j) = some u := by
  intro j u hu
  obtain ⟨i, v, hv, hh⟩ := cellsV_inv hu
  have hn := (List.getElem?_eq_some_iff.1 hv).1
  rw [h.len] at hn
  obtain ⟨g', o', e, hc⟩ := h.at_ (by omega)
  injection e with e
  injection e with e1 e2
  subst e1 e2
  obtain ⟨c0, c1, c2⟩ := hc i v hv
  rw [Addr.add_lit]
  rcases hh with ⟨rfl, rfl⟩ | ⟨rfl, rfl⟩ | ⟨rfl, rfl⟩
  · exact c0
  · rw [← Nat.add_assoc]; exact c1
  · rw [← Nat.add_assoc]; exact c2
theorem RV.of_cells {w : World} {g o n c : Nat} {V : List ValR} (hl : V.length = n) (hc : n ≤ c) (hm : c ≤ maxLen) (h : ∀ j u, (cellsV V)[j]? = some u → w.cell? ⟨g, o + j, none⟩ = some u) : RV w (some ⟨g, o, none⟩) n c V := by
  refine ⟨hl, hc, hm, fun h => (by cases h), fun _ => ⟨g, o, rfl, fun i v hv => ?_⟩⟩
  obtain ⟨h0, h1, h2⟩ := cellsV_at hv
  exact ⟨h _ _ h0, by rw [Nat.add_assoc]; exact h _ _ h1, by rw [Nat.add_assoc]; exact h _ _ h2⟩
/-- A slice of new memory that reads as values. -/
def VO (w : World) (B : Nat) (v : Value) (V : List ValR) : Prop := w.ownsRow B 51 3 v V.length (cellsV V)
namespace VO
variable {w w' : World} {B : Nat} {v : Value} {V : List ValR}
theorem nil (w : World) (B : Nat) : VO w B (.slice none 0 0) [] := World.ownsRow_nil w B _ 3
theorem empty (w : World) (hB : B ≤ w.heap.size) : VO (w.alloc (.cells #[] 51)) B (.slice (some ⟨w.heap.size, 0, none⟩) 0 0) [] :=
  ⟨rfl, .inr ⟨w.heap.size, 0, #[], rfl, hB, Blk.new w #[] 51, Nat.le_refl _, by decide, rfl, rfl⟩⟩
theorem lt (h : VO w B v V) : ∀ k, v.ownBlock = some k → B ≤ k ∧ k < w.heap.size := World.ownsRow.lt h
theorem rv (h : VO w B v V) (n : Nat) (hn : V.length = n) : ∃ A c, v = .slice A n c ∧ RV w A n c V := by
  subst hn
  obtain ⟨hl, ho⟩ := h
  rcases ho with ⟨rfl, h0⟩ | ⟨g, cap, cur, rfl, hg, hheap, hnc, hcm, hcs, htake⟩
  · obtain rfl : V = [] := List.eq_nil_of_length_eq_zero h0
    exact ⟨none, 0, rfl, RV.none_ w⟩
  · refine ⟨some ⟨g, 0, none⟩, cap, rfl, RV.of_cells rfl hnc hcm fun j u hu => ?_⟩
    rw [← htake, List.getElem?_take] at hu
    split at hu
    · rw [Nat.zero_add]
      simp [World.cell?, hheap]
      rw [← Array.getElem?_toList]
      exact hu
    · cases hu
theorem kept {S : Nat → Prop} (h : VO w B v V) (hk : Keeps S w w') (hS : ∀ k, v.ownBlock = some k → ¬ S k) : VO w' B v V := by
  refine ⟨h.1, ?_⟩
  rcases h.2 with hn | ⟨g, cap, cur, rfl, hb, hg, rest⟩
  · exact .inl hn
  · exact .inr ⟨g, cap, cur, rfl, hb, (hk.block g (Array.getElem?_eq_some_iff.1 hg).1 (hS g rfl)).trans hg, rest⟩
theorem below (h : VO w B v V) (hb : Below w.heap.size w w') : VO w' B v V := h.kept (S := fun _ => False) (Keeps.of_below hb) (fun _ _ => id)
theorem mono {B' : Nat} (h : VO w B v V) (hB : B' ≤ B) : VO w B' v V := by
  refine ⟨h.1, ?_⟩
  rcases h.2 with hn | ⟨g, cap, cur, rfl, hb, hg, rest⟩
  · exact .inl hn
  · exact .inr ⟨g, cap, cur, rfl, by omega, hg, rest⟩
theorem drew (h : VO w B v V) : VO w.drew B v V := h
theorem set (h : VO w B v V) {p : Addr} (hp : ∀ k, v.ownBlock = some k → k ≠ p.block) (u : Value) : VO (w.setCell p u) B v V :=
  h.kept (S := fun k => k = p.block) ((Keeps.refl (fun k => k = p.block) _).setCell (.inl rfl) u) (fun k hk e => hp k hk e)
theorem alloc (h : VO w B v V) (o : Obj) : VO (w.alloc o) B v V := World.ownsRow.alloc h o
end VO
theorem cellsV_one (V : List ValR) : ∀ u ∈ cellsV V, u.oneCell' = true := by
  intro u hu
  obtain ⟨j, hj⟩ := List.mem_iff_getElem?.1 hu
  obtain ⟨i, v, _, ⟨_, rfl⟩ | ⟨_, rfl⟩ | ⟨_, rfl⟩⟩ := cellsV_inv hj <;> rfl
theorem info_val : (Try.prog.info? 51).map (fun i => (i.zero, i.size, i.bytes)) = some (some (.agg #[.int .i64 0, .int .i64 0, .string (str [])]), 3, 32) := by kernel_rfl
theorem run_appv (ty : TypeId) (w : World) (B : Nat) (v : Value) (V M : List ValR) (h : VO w B v V) (hB : B ≤ w.heap.size) (g o m c : Nat) (hr : RV w (some ⟨g, o, none⟩) m c M) (hsz : V.length + m ≤ 100000) :
    ∃ v' w', (Builtin.append_ #[24, 24] ty #[v, .slice (some ⟨g, o, none⟩) m c]).run Try.prog w = .ok v' w' ∧ VO w' B v' (V ++ M) ∧ Keeps (fun k => v.ownBlock = some k) w w' := by
  obtain ⟨i0, hi, hz0, hz1, hz2⟩ := info_parts info_val
  have hm := hr.len
  obtain ⟨v', w', hrun, h1, h2, _, h4⟩ := run_append_own_at (P := Try.prog) w B 24 ty 51 i0 _ 3 32 Try.underlying24 hi hz0 hz1 hz2 rfl (by decide) v V.length (cellsV V) h ⟨g, o, none⟩ m c (cellsV M) (by rw [cellsV_len, hm])
    hr.cells (cellsV_one M) (by unfold maxLen; omega) (by omega) hB
  refine ⟨v', w', hrun, ?_, ⟨h2.os, h2.tape, h2.output, h2.size, fun k hk hn => h2.block k hk (fun e => hn e.symm)⟩⟩
  unfold VO
  rw [cellsV_app, List.length_append, hm]
  exact h1
theorem wpList_appv {ops : Array Oper} {o : Oper} {a : Act} {w : World} {rest : List Oper} {Q : Exit → Act → World → Prop} (hgd : o.guard = none) (s x : Operand) (hop : o.op = Op.call { callee := Callee.builtin Builtin.append, args := #[s, x], argTypes := #[24, 24] })
    (B : Nat) (v : Value) (V M : List ValR) (g of m c : Nat) (hs : a.eval s = v) (hx : a.eval x = .slice (some ⟨g, of, none⟩) m c) (h : VO w B v V) (hr : RV w (some ⟨g, of, none⟩) m c M) (hsz : V.length + m ≤ 100000) (hB : B ≤ w.heap.size)
    (hk : ∀ v' w', VO w' B v' (V ++ M) → Keeps (fun k => v.ownBlock = some k) w w' → wpList Try.prog ops Q rest (a.put o.dst v') w') : wpList Try.prog ops Q (o :: rest) a w := by
  refine wpList_plain hgd fun K hK => ?_
  obtain ⟨v', w', hrun, h1, h3⟩ := run_appv o.type w B v V M h hB g of m c hr hsz
  unfold Oper.wp execOp
  simp only [hop, resolve, invoke, builtin, Sem.run_bind, Sem.run_pure, Result.andThen_ok, List.map_toArray, List.map_cons, List.map_nil, hs, hx, hrun]
  exact hK _ _ (hk v' w' h1 h3)
/-- One value, built. -/
theorem RV.one {w : World} {g t : Nat} {v : ValR} (h : Blk w g #[.int .i64 v.k, .int .i64 v.n, .string (str v.s)] t) : RV w (some ⟨g, 0, none⟩) 1 1 [v] :=
  RV.of_cells rfl (Nat.le_refl _) (by unfold maxLen; omega) fun j u hu => by rw [Nat.zero_add]; exact h.cell j (by rw [← Array.getElem?_toList]; exact hu)

/-- A piece of nine bytes as a value. -/
def dkV (l : List UInt8) : Option ValR := if l.length = 9 ∧ dkOk (l.getD 0 0) (l.drop 1) = true then some ⟨dkK (l.getD 0 0), dkN (l.getD 0 0) (l.drop 1), dkS (l.getD 0 0) (l.drop 1)⟩ else none
theorem dkV_cases (l : List UInt8) : (dkV l = none ∧ dkL l = dkRet false 0 0 []) ∨ ∃ v, dkV l = some v ∧ dkL l = dkRet true v.k v.n v.s := by
  unfold dkV dkL
  by_cases h : l.length = 9
  · rw [if_pos h]
    cases hd : dkOk (l.getD 0 0) (l.drop 1) with
    | false => exact .inl ⟨if_neg (fun hh => absurd hh.2 (by decide)), dkRet_no _ _ _ _ _ _⟩
    | true => exact .inr ⟨_, if_pos ⟨h, rfl⟩, rfl⟩
  · rw [if_neg h]
    exact .inl ⟨if_neg (fun hh => h hh.1), rfl⟩
theorem dkV_zero (l : List UInt8) (h : l.getD 0 0 = 0) : dkV l = none := by
  unfold dkV
  rw [if_neg]
  intro hh
  have := hh.2
  rw [h, dkOk_zero] at this
  cases this
/-- The values that bytes begin with. -/
def prsV : Nat → List UInt8 → List ValR
  | 0, _ => []
  | k + 1, l => match dkV (l.take 9) with
    | some v => v :: prsV k (l.drop 9)
    | none => []
theorem prsV_len (k : Nat) : ∀ l, (prsV k l).length ≤ k := by
  induction k with
  | zero => intro l; exact Nat.le_refl _
  | succ k ih =>
    intro l
    unfold prsV
    split
    · have := ih (l.drop 9); simp only [List.length_cons]; omega
    · simp
theorem prsV_some {k : Nat} {l : List UInt8} {v : ValR} (h : dkV (l.take 9) = some v) : prsV (k + 1) l = v :: prsV k (l.drop 9) := by
  show (match dkV (l.take 9) with | some v => v :: prsV k (l.drop 9) | none => []) = _
  rw [h]
theorem prsV_none {k : Nat} {l : List UInt8} (h : dkV (l.take 9) = none) : prsV k l = [] := by
  cases k with
  | zero => rfl
  | succ k =>
    show (match dkV (l.take 9) with | some v => v :: prsV k (l.drop 9) | none => []) = _
    rw [h]
def rowP (b : List UInt8) : RowR := ⟨((b.getD 0 0).toNat : Int) - 1, prsV 4 (b.drop 1)⟩
/-- What Decode tells. -/
def decR (b : List UInt8) : RowR × Int := if b.length = 37 ∧ rowE (rowP b) = 0 ∧ rowB (rowP b) = b then (rowP b, 0) else (⟨0, []⟩, 2)
theorem decR_yes {b : List UInt8} (h : b.length = 37) (h0 : rowE (rowP b) = 0) (h1 : rowB (rowP b) = b) : decR b = (rowP b, 0) := if_pos ⟨h, h0, h1⟩
theorem decR_no {b : List UInt8} (h : ¬ (b.length = 37 ∧ rowE (rowP b) = 0 ∧ rowB (rowP b) = b)) : decR b = (⟨0, []⟩, 2) := if_neg h
theorem decR_short {b : List UInt8} (h : b.length ≠ 37) : decR b = (⟨0, []⟩, 2) := decR_no (fun hh => h hh.1)
theorem decR_fell {b : List UInt8} {e : Int} (he : rowE (rowP b) = e) (h : e ≠ 0) : decR b = (⟨0, []⟩, 2) := decR_no (fun hh => h (he ▸ hh.2.1))
/-- Behind a row's values a text is zero. -/
theorem rowB_zero {r : RowR} (h : rowE r = 0) (h4 : r.V.length < 4) : (rowB r)[1 + 9 * r.V.length]? = some 0 := by
  obtain ⟨h1, h2⟩ := rowE_zero h
  unfold rowB zr
  rw [show 1 + 9 * r.V.length = 9 * r.V.length + 1 by omega, List.getElem?_cons_succ, List.getElem?_append_right (by rw [bytesV_len _ h2]; exact Nat.le_refl _), bytesV_len _ h2, Nat.sub_self, List.getElem?_replicate, if_pos (by omega)]
/-- A piece that is no value, its first byte not zero: no text. -/
theorem decR_piece {b : List UInt8} {V : List ValR} {k : Nat} {y : UInt8} (hk : k < 4) (hV : prsV 4 (b.drop 1) = V) (hl : V.length = k) (hy : b[1 + 9 * k]? = some y) (h0 : y ≠ 0) : decR b = (⟨0, []⟩, 2) := by
  refine decR_no fun hh => ?_
  have e : (rowP b).V.length = k := by show (prsV 4 (b.drop 1)).length = k; rw [hV, hl]
  have := rowB_zero hh.2.1 (by omega)
  rw [hh.2.2, e, hy] at this
  injection this with this
  exact h0 this
end Go.Proofs.Ytfldmejjepakeaa
/- Parts of a slice of bytes; the document's CopyBytes. -/
namespace Go.Proofs.Ytfldmejjepakeaa
open Go.ChangeShapes Go.WideShapes Go.ChangeAt Go.RowKit
open Go.ChangeMaps (open_string shut_string)
set_option linter.unusedVariables false
set_option linter.unusedSimpArgs false
set_option maxRecDepth 100000

theorem under_bytes : Try.prog.underlying 22 = some (.slice (Try.prog.elem 22)) := by rw [show Try.prog.elem 22 = 5 from by kernel_rfl]; exact Try.underlying22
theorem run_sizeU8 (w : World) : (sizeOf (Try.prog.elem 22)).run Try.prog w = .ok 1 w := by rw [show Try.prog.elem 22 = 5 from by kernel_rfl]; rfl
/-- A part of a slice of bytes. -/
theorem RB.cut {w : World} {A : Option Addr} {n c : Nat} {l : List UInt8} (h : RB w A n c l) (lo hi : Nat) (h1 : lo ≤ hi) (h2 : hi ≤ n) : RB w (if c = lo then A else A.map (·.add lo)) (hi - lo) (c - lo) ((l.take hi).drop lo) := by
  have hl := h.len
  have hc := h.cap
  have hm := h.max
  refine ⟨by simp; omega, by omega, by omega, ?_, fun hn => ?_⟩
  · intro hA
    by_cases e : c = lo
    · omega
    · rw [if_neg e] at hA
      cases A with
      | none => have := h.nil rfl; omega
      | some a => cases hA
  · obtain ⟨g, o, e, hx⟩ := h.at_ (by omega)
    subst e
    rw [if_neg (by omega)]
    refine ⟨g, o + lo, by rw [Option.map_some, Addr.add_lit], fun i p hp => ?_⟩
    rw [List.getElem?_drop, List.getElem?_take] at hp
    have hlt : lo + i < hi := by
      by_cases hh : lo + i < hi
      · exact hh
      · rw [if_neg hh] at hp; cases hp
    rw [if_pos hlt] at hp
    rw [Nat.add_assoc]
    exact hx (lo + i) p hp
theorem run_cut (A : Option Addr) (n c lo hi : Nat) (x y : Int) (hx : x = lo) (hy : y = hi) (w : World) (h1 : lo ≤ hi) (h2 : hi ≤ c) : (Instr.slice 22 (.slice A n c) (some (.int .i64 x)) (some (.int .i64 y)) none).run Try.prog w = .ok (.slice (if c = lo then A else A.map (·.add lo)) (hi - lo) (c - lo)) w := by
  subst hx hy
  have := run_slice_lh (P := Try.prog) w 22 A n c under_bytes .i64 .i64 lo hi (by omega) (by omega) (by omega)
  rw [this, run_sizeU8]
  simp only [Result.andThen_ok, sliced, Int.toNat_natCast, Nat.mul_one]
theorem OB.empty (w : World) {B : Nat} (hB : B ≤ w.heap.size) : OB (w.alloc (.cells #[] 5)) B (.slice (some ⟨w.heap.size, 0, none⟩) 0 0) [] :=
  ⟨rfl, .inr ⟨w.heap.size, 0, #[], rfl, hB, Blk.new w #[] 5, Nat.le_refl _, by decide, rfl, rfl⟩⟩
theorem ref_copy (A : Option Addr) (m c : Nat) (l : List UInt8) (w : World) (h : RB w A m c l) (hm : m ≤ 1000000) :
    Calls Try.prog 70 #[.slice A m c] w fun e w' => ∃ v, e = .returned v ∧ OB w' w.heap.size v l ∧ Below w.heap.size w w' := by
  have hl := h.len
  have b0 : Below w.heap.size w (w.alloc (.cells #[] 5)) := (by repeat (first | exact Below.refl _ _ | assumption | apply below_drewN' | apply Below.drew | refine Below.alloc ?_ (by first | omega | (simp; done) | (simp; omega)) _ | refine Below.setCell ?_ (by first | omega | (simp; done) | (simp; omega)) _))
  go_enter Try.func70, Try.ntmps70
  go_wp2_with (refine wpList_app rfl (.tmp 3) (.tmp 4) rfl w.heap.size (.slice (some ⟨w.heap.size, 0, none⟩) 0 0) [] l A m c rfl rfl (OB.empty w (Nat.le_refl _)) (h.alloc _) (by simp; omega) (by simp) ?_; intro v2 w2 ha; obtain ⟨A2, c2, rfl, _⟩ := OB.sl ha.own m (by simp [hl]))
  go_ret
  exact ⟨_, rfl, ha.own, b0.keeps ha.keeps (fun i hi e => by simp [Value.ownBlock] at e; omega) (by simp)⟩
end Go.Proofs.Ytfldmejjepakeaa
/- The document's DecodeRow. -/
namespace Go.Proofs.Ytfldmejjepakeaa
open Go.ChangeShapes Go.WideShapes Go.ChangeAt Go.RowKit
open Go.ChangeMaps (open_string shut_string)
set_option linter.unusedVariables false
set_option linter.unusedSimpArgs false
set_option maxRecDepth 100000
open Go.Deep

set_option maxHeartbeats 8000000 in
theorem ref_decR (A : Option Addr) (n c : Nat) (b : List UInt8) (w : World) (h : RB w A n c b) (hn : n ≤ 100000) :
    Calls Try.prog 15 #[.slice A n c] w fun e w' => ∃ A' n' c', e = .returned (.tuple #[.agg #[.int .i64 (decR b).1.t, .slice A' n' c'], .int .i64 (decR b).2]) ∧ RV w' A' n' c' (decR b).1.V ∧ Below w.heap.size w w' := by
  have hbn := h.len
  have hnc := h.cap
  have hX0 := Blk.new w #[.int .i64 0, .slice none 0 0] 26
  have bl0 : Below w.heap.size w (w.alloc (.cells #[.int .i64 0, .slice none 0 0] 26)) := (by repeat (first | exact Below.refl _ _ | assumption | apply below_drewN' | apply Below.drew | refine Below.alloc ?_ (by first | omega | (simp; done) | (simp; omega)) _ | refine Below.setCell ?_ (by first | omega | (simp; done) | (simp; omega)) _))
  by_cases h37 : n = 37
  rotate_left
  · have hd := Lib.hid (decR_short (b := b) (by omega))
    have hne : ((n : Int) != 37) = true := by rw [bne_iff_ne]; omega
    go_enter Try.func15, Try.ntmps15
    go_wp2
    refine bodyPost_ret (v := .tuple #[.agg #[.int .i64 0, .slice none 0 0], .int .i64 2]) (by simp [results, Try.results15, go_sem]) rfl ?_
    rw [hd.out]
    exact ⟨none, 0, 0, rfl, RV.none_ _, (by repeat (first | exact Below.refl _ _ | assumption | apply below_drewN' | apply Below.drew | refine Below.alloc ?_ (by first | omega | (simp; done) | (simp; omega)) _ | refine Below.setCell ?_ (by first | omega | (simp; done) | (simp; omega)) _))⟩
  subst h37
  obtain ⟨x, hx⟩ : ∃ x, b[0]? = some x := ⟨_, List.getElem?_eq_getElem (by omega)⟩
  obtain ⟨g, o, rfl, hc⟩ := h.at_ (by omega)
  have hcx : w.cell? ⟨g, o, none⟩ = some (.int .u8 x.toNat) := hc 0 x hx
  have hgw := World.block_lt_of_cell? w _ hcx
  have hxl := UInt8.toNat_lt x
  have hwx : IntKind.i64.wrap (x.toNat : Int) = (x.toNat : Int) := IntWalk.i64_in _ (by omega)
  obtain ⟨t, ht⟩ : ∃ t, t = (x.toNat : Int) - 1 := ⟨_, rfl⟩
  have hwt : IntKind.i64.wrap ((x.toNat : Int) - 1) = t := by rw [ht]; exact IntWalk.i64_in _ (by omega)
  have hP := Lib.hid (show ∀ V, prsV 4 (b.drop 1) = V → rowP b = ⟨t, V⟩ from fun V hV => by unfold rowP; rw [hV, ht, List.getD_eq_getElem?_getD, hx]; rfl)
  have hcH := Lib.hid hc
  replace ht := Lib.hid ht
  clear hc hx hxl
  have hY0 := Blk.new2 w (.cells #[.int .i64 0, .slice none 0 0] 26) #[.int .i64 t, .slice none 0 0] 26
  go_enter Try.func15, Try.ntmps15
  go_wp2
  go_loopw [5] (fun i wr => ∃ (k : Nat) (v : Value) (V : List ValR), k ≤ 4 ∧ i = .int .i64 k ∧ Blk wr w.heap.size #[.int .i64 0, .slice none 0 0] 26 ∧ Blk wr (w.heap.size + 1) #[.int .i64 t, v] 26 ∧ VO wr (w.heap.size + 2) v V ∧ Hid (V.length = k) ∧ Hid (V ++ prsV (4 - k) (b.drop (1 + 9 * k)) = prsV 4 (b.drop 1)) ∧ Below w.heap.size w wr) (fun i _ => 4 - (intOf i).toNat)
  case atStart => exact ⟨0, _, [], by omega, rfl, hX0.alloc _, hY0, VO.nil _ _, Lib.hid rfl, Lib.hid rfl, (by repeat (first | exact Below.refl _ _ | assumption | apply below_drewN' | apply Below.drew | refine Below.alloc ?_ (by first | omega | (simp; done) | (simp; omega)) _ | refine Below.setCell ?_ (by first | omega | (simp; done) | (simp; omega)) _))⟩
  case round =>
    clear bl0 hX0 hY0
    obtain ⟨k, v, V, hk, rfl, hX, hY, hO, hVl, hps, bl⟩ := hrel
    obtain ⟨A', c', rfl, hRV⟩ := hO.rv k hVl.out
    have y0 := hY.cell 0 (v := .int .i64 t) rfl
    have y1 := hY.cell 1 (v := .slice A' k c') rfl
    have hsz := hY.lt
    obtain ⟨m, hm⟩ : ∃ m, 9 * k = m := ⟨_, rfl⟩
    obtain ⟨a, ha⟩ : ∃ a, 1 + m = a := ⟨_, rfl⟩
    obtain ⟨z, hz⟩ : ∃ z, a + 9 = z := ⟨_, rfl⟩
    have hq0 : 9 * (k : Int) = (m : Int) := by omega
    have hq1 : 1 + (m : Int) = (a : Int) := by omega
    have hq2 : 10 + (m : Int) = (z : Int) := by omega
    have hw0 : IntKind.i64.wrap (9 * (k : Int)) = (m : Int) := by rw [hq0]; exact IntWalk.i64_in _ (by omega)
    have hw1 : IntKind.i64.wrap (1 + (m : Int)) = (a : Int) := by rw [hq1]; exact IntWalk.i64_in _ (by omega)
    have hw2 : IntKind.i64.wrap (10 + (m : Int)) = (z : Int) := by rw [hq2]; exact IntWalk.i64_in _ (by omega)
    have hw3 : IntKind.i64.wrap (m : Int) = (m : Int) := IntWalk.i64_in _ (by omega)
    have hw4 : IntKind.i64.wrap (a : Int) = (a : Int) := IntWalk.i64_in _ (by omega)
    have hw5 : IntKind.i64.wrap (z : Int) = (z : Int) := IntWalk.i64_in _ (by omega)
    rw [hm, ha] at hps
    by_cases hk4 : k < 4
    · have haz : a < 37 := by omega
      obtain ⟨y, hy⟩ : ∃ y, b[a]? = some y := ⟨_, List.getElem?_eq_getElem (by omega)⟩
      have hcy : wr.cell? ⟨g, o + a, none⟩ = some (.int .u8 y.toNat) := (bl.cell (p := ⟨g, o + a, none⟩) hgw).trans (hcH.out a y hy)
      have hyH := Lib.hid hy
      have hdr : (b.drop a).take 9 = (b.take z).drop a := by rw [List.drop_take, show z - a = 9 by omega]
      obtain ⟨d, hdd⟩ : ∃ d, (b.drop a).take 9 = d := ⟨_, rfl⟩
      by_cases hy0 : y = 0
      · have hy1 : ¬ (0 < (y.toNat : Int)) := by rw [hy0]; decide
        have hVe : Hid (prsV 4 (b.drop 1) = V) := Lib.hid (by rw [← hps.out, prsV_none, List.append_nil]; rw [hdd]; refine dkV_zero d ?_; rw [← hdd, List.getD_eq_getElem?_getD, List.getElem?_take, if_pos (by omega), List.getElem?_drop, Nat.add_zero, hy, hy0]; rfl)
        replace hdd := Lib.hid hdd
        replace hm := Lib.hid hm
        replace ha := Lib.hid ha
        replace hz := Lib.hid hz
        clear hdr hy hy0
        have hPe := Lib.hid (hP.out V hVe.out)
        have HE := Lib.hid (fun w (h : RV w A' k c' V) => ref_encodeR t A' k c' V w h)
        obtain ⟨E, hE⟩ : ∃ E, rowE ⟨t, V⟩ = E := ⟨_, rfl⟩
        obtain ⟨T, hT⟩ : ∃ T, rowT ⟨t, V⟩ = T := ⟨_, rfl⟩
        obtain ⟨tl, htl⟩ : ∃ tl, T.length = tl := ⟨_, rfl⟩
        obtain ⟨q, hq⟩ : ∃ q, (T == b) = q := ⟨_, rfl⟩
        have hres := Lib.hid (show E = 0 → q = true → decR b = (⟨t, V⟩, 0) from fun h0 h1 => by
          have hb : rowB ⟨t, V⟩ = b := by
            rw [← hq, ← hT] at h1
            unfold rowT at h1
            rw [if_pos (hE.trans h0)] at h1
            simpa using h1
          have := decR_yes (b := b) hbn (by rw [hPe.out, hE, h0]) (by rw [hPe.out]; exact hb)
          rw [this, hPe.out])
        have hres2 := Lib.hid (show ¬ (E = 0 ∧ q = true) → decR b = (⟨0, []⟩, 2) from fun hh => decR_no fun h3 => hh (by
          rw [hPe.out] at h3
          refine ⟨hE.symm.trans h3.2.1, ?_⟩
          rw [← hq, ← hT]
          unfold rowT
          rw [if_pos h3.2.1, h3.2.2]
          simp))
        rw [hE, hT] at HE
        replace htl := Lib.hid htl
        replace hq := Lib.hid hq
        clear hE hT hps hPe hVe
        go_wp2_with fail
        refine (HE.out _ hRV).mono ?_
        rintro e w5 ⟨v5, rfl, hv5, e5⟩
        obtain ⟨A5, c5, rfl, hR5⟩ := hv5.sl tl htl.out
        replace bl := Below.next bl e5 (Nat.le_refl _)
        replace hX := hX.below e5 hX.lt
        replace hY := hY.below e5 hY.lt
        replace hO := hO.below e5
        have hlt0 := hX.lt
        have hlt1 := hY.lt
        have xf0 := hX.fz 0
        have xf1 := hX.fz 1
        have x0 := hX.cell 0 (v := .int .i64 0) rfl
        have x1 := hX.cell 1 (v := .slice none 0 0) rfl
        have z0 := hY.cell 0 (v := .int .i64 t) rfl
        have z1 := hY.cell 1 (v := .slice A' k c') rfl
        clear y0 y1 hRV hsz
        by_cases e0 : E = 0
        rotate_left
        · have f0 : (E != 0) = true := by rw [bne_iff_ne]; exact e0
          have hd := Lib.hid (hres2.out (fun hh => e0 hh.1))
          go_wp2
          have hF := ((hX.set 0 (.int .i64 0)).set 1 (.slice none 0 0))
          have bF : Below w.heap.size w ((w5.setCell ⟨w.heap.size, 0, none⟩ (.int .i64 0)).setCell ⟨w.heap.size, 1, none⟩ (.slice none 0 0)) := (bl.setCell (p := ⟨w.heap.size, 0, none⟩) (Nat.le_refl _) _).setCell (p := ⟨w.heap.size, 1, none⟩) (Nat.le_refl _) _
          generalize (w5.setCell ⟨w.heap.size, 0, none⟩ (.int .i64 0)).setCell ⟨w.heap.size, 1, none⟩ (.slice none 0 0) = WF at *
          have f0 := hF.cell 0 (v := .int .i64 0) rfl
          have f1 := hF.cell 1 (v := .slice none 0 0) rfl
          refine bodyPost_ret (v := .tuple #[.agg #[.int .i64 0, .slice none 0 0], .int .i64 2]) (by simp [results, Try.results15, go_sem, f0, f1]) rfl ?_
          rw [hd.out]
          exact ⟨none, 0, 0, rfl, RV.none_ _, bF⟩
        subst e0
        have HB := Lib.hid (fun w (h : RB w A5 tl c5 T) (h' : RB w (some ⟨g, o, none⟩) 37 c b) => ref_Bytes A5 (some ⟨g, o, none⟩) tl c5 37 c T b w h h')
        rw [hq.out] at HB
        go_wp2_with fail
        refine (HB.out _ hR5 (h.below bl)).mono ?_
        rintro e w6 ⟨rfl, rfl⟩
        cases q with
        | true =>
          have hd := Lib.hid (hres.out (by first | exact rfl | trivial) (by first | exact rfl | trivial))
          go_wp2
          have hF := ((hX.set 0 (.int .i64 t)).set 1 (.slice A' k c'))
          have bF : Below w.heap.size w ((w5.setCell ⟨w.heap.size, 0, none⟩ (.int .i64 t)).setCell ⟨w.heap.size, 1, none⟩ (.slice A' k c')) := (bl.setCell (p := ⟨w.heap.size, 0, none⟩) (Nat.le_refl _) _).setCell (p := ⟨w.heap.size, 1, none⟩) (Nat.le_refl _) _
          have hO6 : VO ((w5.setCell ⟨w.heap.size, 0, none⟩ (.int .i64 t)).setCell ⟨w.heap.size, 1, none⟩ (.slice A' k c')) (w.heap.size + 2) (.slice A' k c') V := (hO.set (p := ⟨w.heap.size, 0, none⟩) (fun j hj e => by have := (hO.lt j hj).1; simp at e; omega) _).set (p := ⟨w.heap.size, 1, none⟩) (fun j hj e => by have := (hO.lt j hj).1; simp at e; omega) _
          generalize (w5.setCell ⟨w.heap.size, 0, none⟩ (.int .i64 t)).setCell ⟨w.heap.size, 1, none⟩ (.slice A' k c') = WF at *
          have f0 := hF.cell 0 (v := .int .i64 t) rfl
          have f1 := hF.cell 1 (v := .slice A' k c') rfl
          refine bodyPost_ret (v := .tuple #[.agg #[.int .i64 t, .slice A' k c'], .int .i64 0]) (by simp [results, Try.results15, go_sem, f0, f1]) rfl ?_
          rw [hd.out]
          obtain ⟨A9, c9, e9, hR9⟩ := hO6.rv k hVl.out
          injection e9 with e1 _ e3
          subst e1 e3
          exact ⟨A', k, c', rfl, hR9, bF⟩
        | false =>
          have hd := Lib.hid (hres2.out (fun hh => by cases hh.2))
          go_wp2
          have hF := ((hX.set 0 (.int .i64 0)).set 1 (.slice none 0 0))
          have bF : Below w.heap.size w ((w5.setCell ⟨w.heap.size, 0, none⟩ (.int .i64 0)).setCell ⟨w.heap.size, 1, none⟩ (.slice none 0 0)) := (bl.setCell (p := ⟨w.heap.size, 0, none⟩) (Nat.le_refl _) _).setCell (p := ⟨w.heap.size, 1, none⟩) (Nat.le_refl _) _
          generalize (w5.setCell ⟨w.heap.size, 0, none⟩ (.int .i64 0)).setCell ⟨w.heap.size, 1, none⟩ (.slice none 0 0) = WF at *
          have f0 := hF.cell 0 (v := .int .i64 0) rfl
          have f1 := hF.cell 1 (v := .slice none 0 0) rfl
          refine bodyPost_ret (v := .tuple #[.agg #[.int .i64 0, .slice none 0 0], .int .i64 2]) (by simp [results, Try.results15, go_sem, f0, f1]) rfl ?_
          rw [hd.out]
          exact ⟨none, 0, 0, rfl, RV.none_ _, bF⟩
      have hy1 : 0 < (y.toNat : Int) := by
        rcases Nat.eq_zero_or_pos y.toNat with e | e
        · exact absurd (UInt8.toNat_inj.1 (by rw [e]; rfl)) hy0
        · omega
      have hcut := (h.below bl).cut a z (by omega) (by omega)
      rw [← hdr, hdd, show z - a = 9 by omega] at hcut
      have hsl := fun w => run_cut (some ⟨g, o, none⟩) 37 c a z (a : Int) (z : Int) rfl rfl w (by omega) (by omega)
      rw [show z - a = 9 by omega] at hsl
      generalize (if c = a then (some ⟨g, o, none⟩ : Option Addr) else (some (⟨g, o, none⟩ : Addr)).map (·.add a)) = A4 at *
      generalize c - a = c4 at *
      have HD := Lib.hid (fun w (h : RB w A4 9 c4 d) => rdec_any A4 9 c4 d w h (by omega))
      have hyn := Lib.hid hy0
      replace hdd := Lib.hid hdd
      replace hm := Lib.hid hm
      replace ha := Lib.hid ha
      replace hz := Lib.hid hz
      clear hdr hy hy0 hRV
      go_wp2_with fail
      refine (HD.out _ hcut).mono ?_
      rintro e w4 ⟨rfl, b4⟩
      replace bl := Below.next bl b4 (Nat.le_refl _)
      replace hX := hX.below b4 hX.lt
      replace hY := hY.below b4 hY.lt
      replace hO := hO.below b4
      have hsz4 := hY.lt
      have z0 := hY.cell 0 (v := .int .i64 t) rfl
      have z1 := hY.cell 1 (v := .slice A' k c') rfl
      have hlt0 := hX.lt
      have xf0 := hX.fz 0
      have xf1 := hX.fz 1
      have x0 := hX.cell 0 (v := .int .i64 0) rfl
      have x1 := hX.cell 1 (v := .slice none 0 0) rfl
      clear y0 y1 hcy hcut hsl
      rcases dkV_cases d with ⟨hv, hq⟩ | ⟨p, hv, hq⟩
      · have hd : Hid (decR b = (⟨0, []⟩, 2)) := Lib.hid (decR_piece (k := k) (V := V) (y := y) hk4 (by rw [← hps.out, show 4 - k = (4 - k) by rfl, prsV_none (by rw [hdd.out]; exact hv), List.append_nil]) hVl.out (by rw [show 1 + 9 * k = a by have := hm.out; have := ha.out; omega]; exact hyH.out) hyn.out)
        rw [show dkL d = .returned (.tuple #[.agg #[.int .i64 0, .int .i64 0, .string (str [])], .int .i64 2]) from hq]
        clear hv hq
        go_wp2
        have hF0 := ((hX.set 0 (.int .i64 0)).set 1 (.slice none 0 0))
        have bF0 : Below w.heap.size w ((w4.setCell ⟨w.heap.size, 0, none⟩ (.int .i64 0)).setCell ⟨w.heap.size, 1, none⟩ (.slice none 0 0)) := (bl.setCell (p := ⟨w.heap.size, 0, none⟩) (Nat.le_refl _) _).setCell (p := ⟨w.heap.size, 1, none⟩) (Nat.le_refl _) _
        have hF := hF0.alloc (.cells #[.int .i64 0, .int .i64 0, .string (str [])] 51)
        have bF := bF0.alloc bF0.size (.cells #[.int .i64 0, .int .i64 0, .string (str [])] 51)
        generalize ((w4.setCell ⟨w.heap.size, 0, none⟩ (.int .i64 0)).setCell ⟨w.heap.size, 1, none⟩ (.slice none 0 0)).alloc (.cells #[.int .i64 0, .int .i64 0, .string (str [])] 51) = WF at *
        have f0 := hF.cell 0 (v := .int .i64 0) rfl
        have f1 := hF.cell 1 (v := .slice none 0 0) rfl
        refine bodyPost_ret (v := .tuple #[.agg #[.int .i64 0, .slice none 0 0], .int .i64 2]) (by simp [results, Try.results15, go_sem, f0, f1]) rfl ?_
        rw [hd.out]
        exact ⟨none, 0, 0, rfl, RV.none_ _, bF⟩
      · rw [show dkL d = .returned (.tuple #[.agg #[.int .i64 p.k, .int .i64 p.n, .string (str p.s)], .int .i64 0]) from hq]
        have hnx : Hid ((V ++ [p]) ++ prsV (4 - (k + 1)) (b.drop (1 + 9 * (k + 1))) = prsV 4 (b.drop 1)) := Lib.hid (by
          rw [← hps.out, show 4 - k = (4 - (k + 1)) + 1 by omega, prsV_some (v := p) (by rw [hdd.out]; exact hv), List.drop_drop, List.append_assoc, show a + 9 = 1 + 9 * (k + 1) by have := hm.out; have := ha.out; omega]
          rfl)
        clear hv hq
        go_wp2_with (refine wpList_appv rfl (.tmp 49) (.tmp 51) rfl (w.heap.size + 2) (.slice A' k c') V [p] (w4.heap.size + 1) 0 1 1 rfl rfl ((hO.alloc _).alloc _) (RV.one (v := p) (Blk.new2 _ _ _ _)) (by have := hVl.out; omega) (by simp; omega) ?_; intro v6 w6 ho6 hk6; obtain ⟨A6, c6, rfl, hR6⟩ := ho6.rv (k + 1) (by rw [List.length_append, hVl.out]; rfl); have hrl := Lib.hid (fun (j : Nat) e => (hO.lt j e).1); have hY6 := ((hY.alloc _).alloc _).keeps hk6 (fun e => by have := hrl.out _ e; omega); have hX6 := ((hX.alloc _).alloc _).keeps hk6 (fun e => by have := hrl.out _ e; omega); have bl6 : Below w.heap.size w w6 := (Below.keeps ((bl.alloc bl.size _).alloc (by simp; have := bl.size; omega) _) hk6 (fun i hi e => by have := hrl.out _ e; omega) (Nat.le_refl _)); have q1 := hY6.cell 1 (v := .slice A' k c') rfl; have qf := hY6.fz 1; have ql := hY6.lt; clear hR6)
        go_roundw
        case rel =>
          exact ⟨k + 1, _, V ++ [p], by omega, by go_num, hX6.other (p := ⟨w.heap.size + 1, 1, none⟩) (by simp) _, hY6.set 1 _, ho6.set (p := ⟨w.heap.size + 1, 1, none⟩) (fun j hj e => by have := (ho6.lt j hj).1; simp at e; omega) _, Lib.hid (by rw [List.length_append, hVl.out]; rfl), hnx, bl6.setCell (p := ⟨w.heap.size + 1, 1, none⟩) (Nat.le_succ _) _⟩
        case measure => simp [intOf]; omega
    · have hVe : Hid (prsV 4 (b.drop 1) = V) := Lib.hid (by rw [← hps.out, show 4 - k = 0 by omega]; exact List.append_nil V)
      have hPe := Lib.hid (hP.out V hVe.out)
      have HE := Lib.hid (fun w (h : RV w A' k c' V) => ref_encodeR t A' k c' V w h)
      obtain ⟨E, hE⟩ : ∃ E, rowE ⟨t, V⟩ = E := ⟨_, rfl⟩
      obtain ⟨T, hT⟩ : ∃ T, rowT ⟨t, V⟩ = T := ⟨_, rfl⟩
      obtain ⟨tl, htl⟩ : ∃ tl, T.length = tl := ⟨_, rfl⟩
      obtain ⟨q, hq⟩ : ∃ q, (T == b) = q := ⟨_, rfl⟩
      have hres := Lib.hid (show E = 0 → q = true → decR b = (⟨t, V⟩, 0) from fun h0 h1 => by
        have hb : rowB ⟨t, V⟩ = b := by
          rw [← hq, ← hT] at h1
          unfold rowT at h1
          rw [if_pos (hE.trans h0)] at h1
          simpa using h1
        have := decR_yes (b := b) hbn (by rw [hPe.out, hE, h0]) (by rw [hPe.out]; exact hb)
        rw [this, hPe.out])
      have hres2 := Lib.hid (show ¬ (E = 0 ∧ q = true) → decR b = (⟨0, []⟩, 2) from fun hh => decR_no fun h3 => hh (by
        rw [hPe.out] at h3
        refine ⟨hE.symm.trans h3.2.1, ?_⟩
        rw [← hq, ← hT]
        unfold rowT
        rw [if_pos h3.2.1, h3.2.2]
        simp))
      rw [hE, hT] at HE
      replace htl := Lib.hid htl
      replace hq := Lib.hid hq
      clear hE hT hps hPe hVe
      go_wp2_with fail
      refine (HE.out _ hRV).mono ?_
      rintro e w5 ⟨v5, rfl, hv5, e5⟩
      obtain ⟨A5, c5, rfl, hR5⟩ := hv5.sl tl htl.out
      replace bl := Below.next bl e5 (Nat.le_refl _)
      replace hX := hX.below e5 hX.lt
      replace hY := hY.below e5 hY.lt
      replace hO := hO.below e5
      have hlt0 := hX.lt
      have hlt1 := hY.lt
      have xf0 := hX.fz 0
      have xf1 := hX.fz 1
      have x0 := hX.cell 0 (v := .int .i64 0) rfl
      have x1 := hX.cell 1 (v := .slice none 0 0) rfl
      have z0 := hY.cell 0 (v := .int .i64 t) rfl
      have z1 := hY.cell 1 (v := .slice A' k c') rfl
      clear y0 y1 hRV hsz
      by_cases e0 : E = 0
      rotate_left
      · have f0 : (E != 0) = true := by rw [bne_iff_ne]; exact e0
        have hd := Lib.hid (hres2.out (fun hh => e0 hh.1))
        go_wp2
        have hF := ((hX.set 0 (.int .i64 0)).set 1 (.slice none 0 0))
        have bF : Below w.heap.size w ((w5.setCell ⟨w.heap.size, 0, none⟩ (.int .i64 0)).setCell ⟨w.heap.size, 1, none⟩ (.slice none 0 0)) := (bl.setCell (p := ⟨w.heap.size, 0, none⟩) (Nat.le_refl _) _).setCell (p := ⟨w.heap.size, 1, none⟩) (Nat.le_refl _) _
        generalize (w5.setCell ⟨w.heap.size, 0, none⟩ (.int .i64 0)).setCell ⟨w.heap.size, 1, none⟩ (.slice none 0 0) = WF at *
        have f0 := hF.cell 0 (v := .int .i64 0) rfl
        have f1 := hF.cell 1 (v := .slice none 0 0) rfl
        refine bodyPost_ret (v := .tuple #[.agg #[.int .i64 0, .slice none 0 0], .int .i64 2]) (by simp [results, Try.results15, go_sem, f0, f1]) rfl ?_
        rw [hd.out]
        exact ⟨none, 0, 0, rfl, RV.none_ _, bF⟩
      subst e0
      have HB := Lib.hid (fun w (h : RB w A5 tl c5 T) (h' : RB w (some ⟨g, o, none⟩) 37 c b) => ref_Bytes A5 (some ⟨g, o, none⟩) tl c5 37 c T b w h h')
      rw [hq.out] at HB
      go_wp2_with fail
      refine (HB.out _ hR5 (h.below bl)).mono ?_
      rintro e w6 ⟨rfl, rfl⟩
      cases q with
      | true =>
        have hd := Lib.hid (hres.out (by first | exact rfl | trivial) (by first | exact rfl | trivial))
        go_wp2
        have hF := ((hX.set 0 (.int .i64 t)).set 1 (.slice A' k c'))
        have bF : Below w.heap.size w ((w5.setCell ⟨w.heap.size, 0, none⟩ (.int .i64 t)).setCell ⟨w.heap.size, 1, none⟩ (.slice A' k c')) := (bl.setCell (p := ⟨w.heap.size, 0, none⟩) (Nat.le_refl _) _).setCell (p := ⟨w.heap.size, 1, none⟩) (Nat.le_refl _) _
        have hO6 : VO ((w5.setCell ⟨w.heap.size, 0, none⟩ (.int .i64 t)).setCell ⟨w.heap.size, 1, none⟩ (.slice A' k c')) (w.heap.size + 2) (.slice A' k c') V := (hO.set (p := ⟨w.heap.size, 0, none⟩) (fun j hj e => by have := (hO.lt j hj).1; simp at e; omega) _).set (p := ⟨w.heap.size, 1, none⟩) (fun j hj e => by have := (hO.lt j hj).1; simp at e; omega) _
        generalize (w5.setCell ⟨w.heap.size, 0, none⟩ (.int .i64 t)).setCell ⟨w.heap.size, 1, none⟩ (.slice A' k c') = WF at *
        have f0 := hF.cell 0 (v := .int .i64 t) rfl
        have f1 := hF.cell 1 (v := .slice A' k c') rfl
        refine bodyPost_ret (v := .tuple #[.agg #[.int .i64 t, .slice A' k c'], .int .i64 0]) (by simp [results, Try.results15, go_sem, f0, f1]) rfl ?_
        rw [hd.out]
        obtain ⟨A9, c9, e9, hR9⟩ := hO6.rv k hVl.out
        injection e9 with e1 _ e3
        subst e1 e3
        exact ⟨A', k, c', rfl, hR9, bF⟩
      | false =>
        have hd := Lib.hid (hres2.out (fun hh => by cases hh.2))
        go_wp2
        have hF := ((hX.set 0 (.int .i64 0)).set 1 (.slice none 0 0))
        have bF : Below w.heap.size w ((w5.setCell ⟨w.heap.size, 0, none⟩ (.int .i64 0)).setCell ⟨w.heap.size, 1, none⟩ (.slice none 0 0)) := (bl.setCell (p := ⟨w.heap.size, 0, none⟩) (Nat.le_refl _) _).setCell (p := ⟨w.heap.size, 1, none⟩) (Nat.le_refl _) _
        generalize (w5.setCell ⟨w.heap.size, 0, none⟩ (.int .i64 0)).setCell ⟨w.heap.size, 1, none⟩ (.slice none 0 0) = WF at *
        have f0 := hF.cell 0 (v := .int .i64 0) rfl
        have f1 := hF.cell 1 (v := .slice none 0 0) rfl
        refine bodyPost_ret (v := .tuple #[.agg #[.int .i64 0, .slice none 0 0], .int .i64 2]) (by simp [results, Try.results15, go_sem, f0, f1]) rfl ?_
        rw [hd.out]
        exact ⟨none, 0, 0, rfl, RV.none_ _, bF⟩
end Go.Proofs.Ytfldmejjepakeaa
/- slices.Chunk of a row's bytes. -/
namespace Go.Proofs.Ytfldmejjepakeaa
open Go.ChangeShapes Go.WideShapes Go.ChangeAt Go.RowKit
open Go.ChangeMaps (open_string shut_string)
set_option linter.unusedVariables false
set_option linter.unusedSimpArgs false
set_option maxRecDepth 100000
open Go.Deep
attribute [local go_sem] Oper.semAt_some

def upF (k : Nat) : List (Fin 4) := ([0, 1, 2, 3] : List (Fin 4)).take k
theorem upF_succ {k : Nat} (h : k < 4) : upF (k + 1) = upF k ++ [⟨k, h⟩] := by
  match k, h with
  | 0, _ => rfl
  | 1, _ => rfl
  | 2, _ => rfl
  | 3, _ => rfl
theorem upF_len {k : Nat} (h : k ≤ 4) : (upF k).length = k := by
  unfold upF
  rw [List.length_take]
  simp; omega
/-- The two boxes of the iterator lie as they lay. -/
def KpB (Bs : Nat) (W W' : World) : Prop := ∀ i, i = Bs ∨ i = Bs + 1 → W'.heap[i]? = W.heap[i]?
theorem KpB.t {Bs : Nat} {A B C : World} (h : KpB Bs A B) (k : KpB Bs B C) : KpB Bs A C := fun i hi => (k i hi).trans (h i hi)
theorem KpB.refl (Bs : Nat) (A : World) : KpB Bs A A := fun _ _ => rfl
theorem KpB.blk {Bs i t : Nat} {A B : World} {cs : Array Value} (h : KpB Bs A B) (hi : i = Bs ∨ i = Bs + 1) (hb : Blk A i cs t) : Blk B i cs t := (h i hi).trans hb
def encC (g o : Nat) (x : Fin 4) : Array Value := #[.slice (some ⟨g, o + 9 * x.1, none⟩) 9 9]
set_option maxRecDepth 100000 in
set_option maxHeartbeats 4000000 in
theorem chunk1_in (F : Fence) (n : Nat) (h7 : F.fn 71) (hro : F.round = none) (hn : 1 ≤ n) (l Bs g o c : Nat) (hc36 : 36 ≤ c) (J Jx : List (Fin 4) → World → Prop) (hdr : ∀ pre W, J pre W → J pre W.drew)
    (hY : ∀ pre x W, J pre W → pre.length < 4 → YieldAt F (n - 1) Try.prog l (encC g o x) W fun e W' =>
      (e = .returned (.bool true) ∧ J (pre ++ [x]) W' ∧ KpB Bs W W') ∨ (e = .returned (.bool false) ∧ Jx (pre ++ [x]) W'))
    (W : World) (hBs : Blk W Bs #[.slice (some ⟨g, o, none⟩) 36 c] 22) (hBn : Blk W (Bs + 1) #[.int .i64 9] 3) (h0 : J [] W) :
    CallsIn F n Try.prog 71 #[.func (.yield l) #[] #[], .pointer (some ⟨Bs, 0, none⟩), .pointer (some ⟨Bs + 1, 0, none⟩)] W fun e W' => (∃ v, e = .returned v) ∧
      ((∃ ys, ys = upF 4 ∧ J ys W') ∨ (∃ pre, (∃ k, k ≤ 4 ∧ pre = upF k) ∧ Jx pre W')) := by
  refine callsIn_of_wp Try.func71 rfl h7 ?_ hro
  simp only [Try.ntmps71, List.size_toArray, List.length_cons, List.length_nil, Nat.reduceAdd, Nat.reduceSub, Array.replicate_succ, Array.replicate_zero, List.push_toArray, List.append_toArray, List.nil_append, List.cons_append]
  gi_wp2
  gi_loopw [4] (fun i wr => ∃ (k m : Nat), k ≤ 4 ∧ m = 9 * k ∧ i = .int .i64 m ∧ J (upF k) wr ∧ KpB Bs W wr)
    (fun i _ => 36 - (intOf i).toNat)
  case atStart => exact ⟨0, 0, Nat.zero_le _, rfl, rfl, h0, KpB.refl _ _⟩
  case round =>
    obtain ⟨k, m, hk, hm, rfl, hJs, hnx⟩ := hrel
    have hs : Blk wr Bs #[.slice (some ⟨g, o, none⟩) 36 c] 22 := (hnx Bs (.inl rfl)).trans hBs
    have hz : Blk wr (Bs + 1) #[.int .i64 9] 3 := (hnx (Bs + 1) (.inr rfl)).trans hBn
    have s0 := hs.cell 0 (v := .slice (some ⟨g, o, none⟩) 36 c) rfl
    have z0 := hz.cell 0 (v := .int .i64 9) rfl
    have hw0 : IntKind.i64.wrap ((m : Int) + 9) = ((m + 9 : Nat) : Int) := by rw [IntWalk.i64_in _ (by omega)]; omega
    have hmH := Lib.hid hm
    by_cases hlt : k < 4
    · obtain ⟨fn, tmps, assign, body, hy, hR⟩ := hY (upF k) ⟨k, hlt⟩ wr.drew (hdr _ _ hJs) (by rw [upF_len hk]; exact hlt)
      have hm36 : m < 36 := by omega
      have hm9 : ¬ ((36 - m : Nat) : Int) < 9 := by omega
      have hmc : m + 9 ≤ c := by omega
      unfold encC at hy
      rw [show 9 * (⟨k, hlt⟩ : Fin 4).1 = m from hm.symm] at hy
      have hsl1 : ∀ w, (Instr.slice 22 (.slice (some ⟨g, o, none⟩) 36 c) (some (.int .i64 m)) none none).run Try.prog w = .ok (.slice (if c = m then some ⟨g, o, none⟩ else (some ⟨g, o, none⟩ : Option Addr).map (·.add m)) (36 - m) (c - m)) w := by
        intro w
        rw [run_slice_l (P := Try.prog) w 22 (some ⟨g, o, none⟩) 36 c under_bytes .i64 m (by omega) (by omega), run_sizeU8]
        simp only [Result.andThen_ok, sliced, Int.toNat_natCast, Nat.mul_one]
      have hsl2 : ∀ w, (Instr.slice 22 (.slice (some ⟨g, o, none⟩) 36 c) (some (.int .i64 m)) (some (.int .i64 ((m + 9 : Nat) : Int))) (some (.int .i64 ((m + 9 : Nat) : Int)))).run Try.prog w = .ok (.slice (some ⟨g, o + m, none⟩) 9 9) w := by
        intro w
        rw [run_slice_lhm (P := Try.prog) w 22 (some ⟨g, o, none⟩) 36 c under_bytes .i64 .i64 .i64 m ((m + 9 : Nat) : Int) ((m + 9 : Nat) : Int) (by omega) (by omega) (by omega) (by omega), run_sizeU8]
        simp only [Result.andThen_ok, sliced, Int.toNat_natCast, Nat.mul_one]
        rw [show m + 9 - m = 9 by omega, if_neg (by omega), Option.map_some, Addr.add_lit]
      generalize (if c = m then some ⟨g, o, none⟩ else (some ⟨g, o, none⟩ : Option Addr).map (·.add m)) = A1 at *
      obtain ⟨q, hq⟩ : ∃ q, 36 - m = q := ⟨_, rfl⟩
      rw [hq] at hsl1 hm9
      have hm9' : ¬ (q : Int) < 9 := hm9
      replace hq := Lib.hid hq
      have hzH := Lib.hid (show Blk wr.drew (Bs + 1) #[.int .i64 9] 3 from hz)
      clear hs hz hBs hBn hm
      gi_wp2
      gi_region
      all_goals gi_wp2
      all_goals (
        refine hR.mono ?_
        rintro e W3 (⟨rfl, hJ3, hk3⟩ | ⟨rfl, hJx3⟩)
        · have z3 := (hk3.blk (.inr rfl) hzH.out).cell 0 (v := .int .i64 9) rfl
          have hn3 : KpB Bs W W3 := hnx.t hk3
          gi_wp2
          go_roundw
          case rel => exact ⟨k + 1, m + 9, by omega, by have := hmH.out; omega, by go_num, by rw [upF_succ hlt]; exact hJ3, hn3⟩
          case measure => simp [intOf]; omega
        · gi_wp2
          refine bodyPost_ret (results_none rfl _ _ _) rfl ?_
          exact ⟨⟨_, rfl⟩, .inr ⟨_, ⟨k + 1, by omega, (upF_succ hlt).symm⟩, hJx3⟩⟩)
    · have hk4 : k = 4 := by omega
      subst hk4
      have hm36 : m = 36 := by omega
      subst hm36
      clear hm
      gi_wp2
      go_end0
      exact ⟨⟨_, rfl⟩, .inl hJs⟩
end Go.Proofs.Ytfldmejjepakeaa
