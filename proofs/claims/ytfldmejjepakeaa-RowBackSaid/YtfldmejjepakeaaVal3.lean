/- Contracts of values: number, filled (bytes of a string). -/
import Derived.Test.YtfldmejjepakeaaVal2
import Derived.Lib.AppendZerosOnto
import Derived.Laws.IdiomCopy
namespace Go.Proofs.Ytfldmejjepakeaa
open Go.ChangeShapes Go.WideShapes Go.ChangeAt Go.RowKit
open Go.ChangeMaps (open_string shut_string)
set_option linter.unusedVariables false
set_option linter.unusedSimpArgs false
set_option maxRecDepth 100000

/-- '[]byte(s)'. -/
theorem conv_str (w : World) (l : List UInt8) : (convert 9 22 (.string (str l))).run Try.prog w = .ok (.slice (some ⟨w.heap.size, 0, none⟩) l.length (grownCap w l.length 0 5)) (Lib.bytesWorld w 5 (str l)) := by
  have := Lib.run_convert_string_bytes (P := Try.prog) w 9 22 5 (str l) Try.underlying9 Try.underlying22 Try.underlying5
  rw [str_size] at this
  exact this
theorem bytesWorld_below (w : World) (l : List UInt8) : Below w.heap.size w (Lib.bytesWorld w 5 (str l)) :=
  ⟨rfl, rfl, rfl, by rw [Lib.bytesWorld_size]; omega, fun k hk => Lib.bytesWorld_at_old w _ _ k hk⟩
theorem bytesWorld_cell (w : World) (l : List UInt8) (i : Nat) (b : UInt8) (hb : l[i]? = some b) : (Lib.bytesWorld w 5 (str l)).cell? ⟨w.heap.size, i, none⟩ = some (bv b) := by
  have hi : i < l.length := (List.getElem?_eq_some_iff.1 hb).1
  rw [Lib.bytesWorld_cell w _ (str l) i (by rw [str_size]; exact hi), str_toList, List.getD, hb]
  rfl
theorem grown_fit (w : World) (n : Nat) (hn : n ≤ 1099511627776) : n ≤ grownCap w n 0 5 ∧ grownCap w n 0 5 ≤ maxLen := ⟨grownCap_ge w n 0 _, grownCap_le_maxLen w n 0 _ (by unfold maxLen; omega)⟩
theorem bytesWorld_rb (w : World) (l : List UInt8) (hn : l.length ≤ 1099511627776) : RB (Lib.bytesWorld w 5 (str l)) (some ⟨w.heap.size, 0, none⟩) l.length (grownCap w l.length 0 5) l :=
  ⟨rfl, (grown_fit w _ hn).1, (grown_fit w _ hn).2, fun h => (by cases h), fun _ => ⟨_, _, rfl, fun i b hb => (by rw [Nat.zero_add]; exact bytesWorld_cell w l i b hb)⟩⟩

theorem bytesCells_eq (w : World) (l : List UInt8) : Lib.bytesCells w 5 (str l) = (l.map bv).toArray ++ Array.replicate (grownCap w l.length 0 5 - l.length) (.int .u8 0) := by
  unfold Lib.bytesCells
  rw [str_size]
  congr 1
  apply Array.toList_inj.1
  simp [str, bv]
theorem bytesWorld_all (w : World) (l : List UInt8) (j : Nat) (hj : j < grownCap w l.length 0 5) (hl : l.length ≤ j) : (Lib.bytesWorld w 5 (str l)).cell? ⟨w.heap.size, j, none⟩ = some (.int .u8 0) := by
  have key : (Lib.bytesWorld w 5 (str l)).cell? ⟨w.heap.size, j, none⟩ = (Lib.bytesCells w 5 (str l))[j]? := by simp [World.cell?, Lib.bytesWorld_at_new]
  rw [key, bytesCells_eq, Array.getElem?_append_right (by simp; exact hl), Array.getElem?_replicate, if_pos (by simp; omega)]
theorem bytesWorld_fz (w : World) (l : List UInt8) (j : Nat) (hj : j < grownCap w l.length 0 5) : (Lib.bytesWorld w 5 (str l)).frozen? ⟨w.heap.size, j, none⟩ = false := by
  have e : (str l).data.size = l.length := by simp [str]
  have e2 := str_size l
  have e3 : (Lib.bytesCells w 5 (str l)).size = grownCap w l.length 0 5 := by
    have := grownCap_ge w l.length 0 5
    simp [Lib.bytesCells, e, e2]; omega
  simp only [World.frozen?, Lib.bytesWorld_at_new, e3, Bool.and_eq_false_iff, decide_eq_false_iff_not]
  left
  omega

theorem below_setCells {B b : Nat} {a : World} (vs : List Value) : ∀ (o : Nat) {w : World}, Below B a w → B ≤ b → Below B a (w.setCells b o vs) := by
  induction vs with
  | nil => intro o w h _; exact h
  | cons v r ih => intro o w h hB; exact ih _ (h.setCell (p := ⟨b, o, none⟩) hB v) hB
theorem zeroCells_one (z : Value) (n : Nat) : Builtin.zeroCells #[z] n = (List.replicate n z).toArray := by
  apply Array.ext
  · simp [Builtin.zeroCells]
  · intro i h1 h2
    simp [Builtin.zeroCells, Nat.mod_one]

theorem filled_run (ty : TypeId) (w : World) (l : List UInt8) (hl : l.length ≤ 8) :
    ∃ v w', (Builtin.append_ #[22, 3] ty #[.slice (some ⟨w.heap.size, 0, none⟩) l.length (grownCap w l.length 0 5), .int .i64 (8 - (l.length : Int))]).run Try.prog (Lib.bytesWorld w 5 (str l)) = .ok v w' ∧ Fr w' w.heap.size v (fill l 8) ∧ Below w.heap.size w w' := by
  obtain ⟨i0, hi, hz0, hz1, hz2⟩ := info_parts info_u8
  obtain ⟨k, hk⟩ : ∃ k : Nat, l.length + k = 8 := ⟨8 - l.length, by omega⟩
  have hk2 : (8 - (l.length : Int)) = ((k : Nat) : Int) := by omega
  rw [hk2]
  have hfill : fill l 8 = l ++ List.replicate k 0 := by unfold fill; rw [List.take_of_length_le hl]; congr 2; omega
  have hfl : (fill l 8).length = 8 := fill_length l 8
  have hb := bytesWorld_below w l
  have hg := grown_fit w l.length (by omega)
  generalize hC : grownCap w l.length 0 5 = C at *
  by_cases hfit : l.length + k ≤ C
  · have hst := run_storeCells_cells (P := Try.prog) w.heap.size l.length (List.replicate k (Value.int .u8 0)) 0 (Lib.bytesWorld w 5 (str l))
      (fun j hj => by rw [bytesWorld_all w l (l.length + 0 + j) (by simp at hj; omega) (by omega)]; rfl)
      (fun j hj => bytesWorld_fz w l _ (by simp at hj; omega)) (fun v hv => by rw [List.eq_of_mem_replicate hv]; rfl)
    have hadd : (⟨w.heap.size, 0, none⟩ : Addr).add l.length = ⟨w.heap.size, l.length, none⟩ := by rw [Addr.add_lit, Nat.zero_add]
    have hpos : ¬ ((k : Int) < 0) := by omega
    have h48 : ¬ (281474976710656 < (k : Int)) := by omega
    have hw : IntKind.i64.wrap (k : Int) = k := by rw [IntKind.wrap_i64]; omega
    have hcells : (Value.int IntKind.u8 0).cells = #[Value.int .u8 0] := rfl
    rw [Nat.add_zero] at hst
    refine ⟨.slice (some ⟨w.heap.size, 0, none⟩) 8 C, (Lib.bytesWorld w 5 (str l)).setCells w.heap.size l.length (List.replicate k (Value.int .u8 0)), ?_, ?_, below_setCells _ _ hb (Nat.le_refl _)⟩
    · rcases Nat.eq_zero_or_pos k with rfl | hk0
      · have hw0 : IntKind.i64.wrap 0 = 0 := rfl
        have hle : l.length ≤ C := hg.1
        simp [hw0, hle, Builtin.append_, run_underlying Try.underlying22, run_underlying Try.underlying3, sizeOf, typeInfo, zeroValue, hi, hz0, hz1, hz2, asInt, asIntOf, hfit, hadd, storeCells, World.setCells]
        omega
      · have hk1 : ¬ (k = 0) := by omega
        simp [hcells, Builtin.append_, run_underlying Try.underlying22, run_underlying Try.underlying3, sizeOf, typeInfo, zeroValue, hi, hz0, hz1, hz2, asInt, asIntOf, hw, hpos, h48, hk1, hfit, hadd, zeroCells_one, hst]
        omega
    · refine ⟨some ⟨w.heap.size, 0, none⟩, C, by rw [hfl], ?_, fun _ a ha => by injection ha with ha; rw [← ha]; exact Nat.le_refl _⟩
      refine ⟨rfl, by rw [hfl]; omega, hg.2, fun h => (by cases h), fun _ => ⟨_, _, rfl, fun i b hb2 => ?_⟩⟩
      rw [Nat.zero_add]
      have hi8 : i < 8 := by have := (List.getElem?_eq_some_iff.1 hb2).1; omega
      rw [hfill] at hb2
      by_cases hil : i < l.length
      · rw [World.cell?_setCells_out _ _ _ _ _ (fun _ _ => .inl hil)]
        rw [List.getElem?_append_left hil] at hb2
        exact bytesWorld_cell w l i b hb2
      · rw [List.getElem?_append_right (by omega), List.getElem?_replicate, if_pos (by omega)] at hb2
        injection hb2 with hb2
        subst hb2
        have := World.cell?_setCells_in w.heap.size (List.replicate k (Value.int IntKind.u8 0)) l.length (Lib.bytesWorld w 5 (str l)) (fun j hj => by rw [bytesWorld_all w l (l.length + j) (by simp at hj; omega) (by omega)]; rfl) (i - l.length) (by simp; omega)
        rw [show l.length + (i - l.length) = i from by omega] at this
        rw [this]
        simp [bv]
  · have hk0 : 0 < k := by omega
    have hold : (Builtin.firstCells i0.size l.length (.slice (some ⟨w.heap.size, 0, none⟩) l.length C)).run Try.prog (Lib.bytesWorld w 5 (str l)).drew = .ok (l.map bv).toArray (Lib.bytesWorld w 5 (str l)).drew := by
      have hrd : ∀ j v, (l.map bv)[j]? = some v → (Lib.bytesWorld w 5 (str l)).drew.cell? ((⟨w.heap.size, 0, none⟩ : Addr).add j) = some v := by
        intro j v hv
        rw [List.getElem?_map] at hv
        cases hb3 : l[j]? with
        | none => rw [hb3] at hv; cases hv
        | some b =>
          rw [hb3] at hv
          injection hv with hv
          subst hv
          have e : (⟨w.heap.size, 0, none⟩ : Addr).add j = ⟨w.heap.size, j, none⟩ := by rw [Addr.add_lit, Nat.zero_add]
          have h3 := bytesWorld_cell w l j b hb3
          rw [e]
          exact h3
      have := run_loadCells_list (P := Try.prog) (Lib.bytesWorld w 5 (str l)).drew ⟨w.heap.size, 0, none⟩ (l.map bv) hrd
      simpa [Builtin.firstCells, hz1] using this
    have hnc : Builtin.nextslicecap (l.length + k) C * i0.bytes ≤ 281474976710656 := by
      rw [hz2, hk, Nat.mul_one]
      unfold Builtin.nextslicecap
      by_cases h2 : 8 > 2 * C
      · rw [if_pos h2]; omega
      · rw [if_neg h2, if_pos (by omega)]; omega
    have hg2 := Lib.run_append_grow_zeros (P := Try.prog) (Lib.bytesWorld w 5 (str l)) 22 3 ty 5 i0 (.int .u8 0) .i64 .i64 Try.underlying22 Try.underlying3 hi hz0 (some ⟨w.heap.size, 0, none⟩) l.length C (l.map bv) hold k hk0 (by omega) (by omega) (by omega) (by rw [hz2]; omega) hnc
    refine ⟨_, _, hg2, ?_, (hb.drew).alloc hb.size _⟩
    have hge := grownCap_ge (Lib.bytesWorld w 5 (str l)) (l.length + k) C 5
    have hgm := grownCap_le_maxLen (Lib.bytesWorld w 5 (str l)) (l.length + k) C 5 (by unfold maxLen; omega)
    refine ⟨some ⟨(Lib.bytesWorld w 5 (str l)).heap.size, 0, none⟩, grownCap (Lib.bytesWorld w 5 (str l)) (l.length + k) C 5, by rw [hfl, hk], ?_, fun _ a ha => by injection ha with ha; rw [← ha]; exact hb.size⟩
    refine ⟨rfl, by rw [hfl]; omega, hgm, fun h => (by cases h), fun _ => ⟨_, _, rfl, fun i b hb2 => ?_⟩⟩
    rw [Nat.zero_add]
    have hi8 : i < 8 := by have := (List.getElem?_eq_some_iff.1 hb2).1; omega
    have hcells : (Value.int IntKind.u8 0).cells = #[Value.int .u8 0] := rfl
    have hnew := heap_alloc_new (Lib.bytesWorld w 5 (str l)).drew (.cells ((l.map bv).toArray ++ Builtin.zeroCells (Value.int IntKind.u8 0).cells k ++ Builtin.zeroCells (Value.int IntKind.u8 0).cells (grownCap (Lib.bytesWorld w 5 (str l)) (l.length + k) C 5 - (l.length + k))) 5)
    have hd : (Lib.bytesWorld w 5 (str l)).drew.heap.size = (Lib.bytesWorld w 5 (str l)).heap.size := rfl
    rw [hd] at hnew
    simp only [World.cell?, hnew]
    rw [hcells, zeroCells_one, Array.getElem?_append_left (by simp; omega)]
    rw [hfill] at hb2
    have : ((l.map bv).toArray ++ (List.replicate k (Value.int IntKind.u8 0)).toArray) = ((l ++ List.replicate k 0).map bv).toArray := by simp [bv]
    rw [this, List.getElem?_toArray, List.getElem?_map, hb2]
    rfl

theorem val_filled (l : List UInt8) (w : World) (hl : l.length ≤ 8) :
    Calls Try.prog 76 #[.string (str l)] w fun e w' => ∃ v, e = .returned v ∧ Fr w' w.heap.size v (fill l 8) ∧ Below w.heap.size w w' := by
  have hz := str_size l
  have hc := fun w => conv_str w l
  obtain ⟨v, w', hr, hf, hb⟩ := filled_run 22 w l hl
  go_enter Try.func76, Try.ntmps76
  go_wp2_with (at_builtin; refine Lib.wpList_append_run _ rfl _ _ _ _ rfl _ _ rfl rfl _ _ hr ?_)
  go_ret
  exact ⟨_, rfl, hf, hb⟩

/-- number of eight bytes at most. -/
theorem val_number (l : List UInt8) (w : World) (h8 : l.length ≤ 8) :
    Calls Try.prog 72 #[.string (str l)] w fun e w' => e = .returned (.int .u64 (numB l)) ∧ Below w.heap.size w w' := by
  have hz := str_size l
  have hc := fun w => conv_str w l
  have h := bytesWorld_rb w l (by omega)
  have hb := bytesWorld_below w l
  go_enter Try.func72, Try.ntmps72
  go_wp2
  obtain ⟨W, hW⟩ : ∃ W, W = Lib.bytesWorld w 5 (str l) := ⟨_, rfl⟩
  rw [← hW] at h hb
  rw [← hW]
  clear hW hc hz
  generalize grownCap w l.length 0 5 = C at *
  go_loop [3, 5, 9] (fun n _ i => ∃ j : Nat, j ≤ l.length ∧ i = .int .i64 j ∧ n = .int .u64 (numB (l.take j))) (fun _ _ i => l.length - (intOf i).toNat)
  case atStart => exact ⟨0, by omega, rfl, rfl⟩
  case round =>
    obtain ⟨j, hj, rfl, rfl⟩ := hrel
    by_cases hlt : j < l.length
    · obtain ⟨g, o, ho, hc⟩ := h.at_ (by omega)
      injection ho with ho
      injection ho with ho1 ho2
      subst ho1; subst ho2
      have hcell := hc j l[j] (List.getElem?_eq_getElem hlt)
      rw [Nat.zero_add] at hcell
      obtain ⟨b, hb⟩ : ∃ b, l[j] = b := ⟨_, rfl⟩
      rw [hb] at hcell
      have htk : l.take (j + 1) = l.take j ++ [b] := by rw [List.take_succ_eq_append_getElem hlt, hb]
      have Hn := Lib.hid (numB_snoc (l.take j) b)
      rw [← htk] at Hn
      have n0 := numB_nonneg (l.take j)
      clear htk hb hc
      unfold bv at hcell
      have bl := b.toNat_lt
      have n1 := numB_lt (l.take j)
      have hlen : (l.take j).length = j := by rw [List.length_take]; omega
      have p2 : (256 : Int) ^ (l.take j).length ≤ 72057594037927936 := by rw [hlen]; exact pow256 j (by omega)
      have Ho := Lib.hid (or_byte64 (numB (l.take j)) b n0 (by omega))
      clear n1 p2 hlen
      go_wp2
      exact ⟨⟨j + 1, by omega, by go_num, by rw [Ho.out, Hn.out]⟩, by simp [intOf]; omega⟩
    · obtain hjl : j = l.length := by omega
      have hd : l.take j = l := List.take_of_length_le (by omega)
      rw [hd, hjl]
      clear hd hjl hj
      go_wp2
      go_ret
      exact ⟨rfl, hb⟩
end Go.Proofs.Ytfldmejjepakeaa
