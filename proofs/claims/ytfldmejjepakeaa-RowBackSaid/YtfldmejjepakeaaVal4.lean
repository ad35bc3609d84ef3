/- Contracts of values: Encode. -/
import Derived.Test.YtfldmejjepakeaaVal3
import Derived.Test.YtfldmejjepakeaaPlain5
import Derived.Deep.RegionHeld3
namespace Go.Proofs.Ytfldmejjepakeaa
open Go.ChangeShapes Go.WideShapes Go.ChangeAt Go.RowKit
open Go.ChangeMaps (open_string shut_string)
set_option linter.unusedVariables false
set_option linter.unusedSimpArgs false
set_option maxRecDepth 100000

/-- Words of 64 bits. -/
def u64 (n : Int) : Int := IntKind.u64.wrap n
theorem u64_range (n : Int) : 0 ≤ u64 n ∧ u64 n < 18446744073709551616 := by unfold u64; rw [IntKind.wrap_u64]; omega

/-- The text of a value that may be. -/
def encB (k n : Int) (l : List UInt8) : List UInt8 := if k = 1 then 1 :: be 8 (u64 n) else UInt8.ofNat (2 + l.length) :: fill l 8
def encE (k n : Int) (l : List UInt8) : Int := if mayV k n l then 0 else 12
theorem encB_length (k n : Int) (l : List UInt8) : (encB k n l).length = 9 := by
  unfold encB; split <;> simp [be_length, fill_length]

theorem may_is_v (k n : Int) (l : List UInt8) (b : Bool) (w : World) (h : mayV k n l = b) : Calls Try.prog 65 #[.agg #[.int .i64 (k), .int .i64 (n), .string (str (l))]] w fun e w' => e = .returned (.bool b) ∧ Below w.heap.size w w' := by
  have := val_may k n l w
  rw [h] at this
  exact this

set_option maxRecDepth 100000 in
theorem enc_no (k n : Int) (l : List UInt8) (w : World) (hm : mayV k n l = false) :
    Calls Try.prog 50 #[.agg #[.int .i64 (k), .int .i64 (n), .string (str (l))]] w fun e w' => e = .returned (.tuple #[.slice none 0 0, .int .i64 12]) ∧ Below w.heap.size w w' := by
  go_enter Try.func50, Try.ntmps50
  go_wp2_with (go_at_call 65; refine (may_is_v _ _ _ _ _ hm).mono ?_; rintro e w1 ⟨rfl, hb⟩)
  go_ret2
  exact ⟨rfl, ((Below.refl w.heap.size w).alloc (Nat.le_refl _) _).trans (hb.mono (by simp))⟩

set_option maxHeartbeats 1000000 in
set_option maxRecDepth 100000 in
theorem enc_int (n : Int) (l : List UInt8) (w : World) (hm : mayV 1 n l = true) :
    Calls Try.prog 50 #[.agg #[.int .i64 (1), .int .i64 (n), .string (str (l))]] w fun e w' => ∃ v, e = .returned (.tuple #[v, .int .i64 0]) ∧ OB w' w.heap.size v (encB 1 n l) ∧ Below w.heap.size w w' := by
  have hbx := Blk.new w #[.int .i64 (1), .int .i64 (n), .string (str (l))] 51
  have hbl : Below w.heap.size w (w.alloc (.cells #[.int .i64 (1), .int .i64 (n), .string (str (l))] 51)) := (by repeat (first | exact Below.refl _ _ | assumption | apply below_drewN' | apply Below.drew | refine Below.alloc ?_ (by first | omega | (simp; done) | (simp; omega)) _ | refine Below.setCell ?_ (by first | omega | (simp; done) | (simp; omega)) _))
  have hu := u64_range n
  go_enter Try.func50, Try.ntmps50
  go_wp2_with fail
  refine (may_is_v _ _ _ _ _ hm).mono ?_
  rintro e w1 ⟨rfl, hb⟩
  have hb1 := hbx.below hb (by simp)
  have c0 := hb1.cell 0 (v := .int .i64 1) rfl
  have c1 := hb1.cell 1 (v := .int .i64 n) rfl
  have hbl1 := hbl.trans (hb.mono (by simp))
  have hlt1 := hb1.lt
  have hq : IntKind.u64.wrap n = u64 n := rfl
  go_wp2_with fail
  refine (val_eight (u64 n) _ hu.1 hu.2).mono ?_
  rintro e w2 ⟨rfl, hb2, hbe2⟩
  simp only [World.size_alloc] at hb2 hbe2
  have hob : OB w2 w.heap.size (.slice (some ⟨w1.heap.size, 0, none⟩) 1 1) [1] :=
    OB.of_row (l := [1]) ((Blk.new w1 (bcells [1]) 5).below hbe2 (by simp)) (by unfold maxLen; simp) (by omega)
  have hrb := RB.of_row hb2 (by rw [be_length]; unfold maxLen; omega)
  have hbl2 := (hbl1.alloc (by omega) (.cells #[.int .u8 1] 5)).trans (hbe2.mono (by omega))
  have hsz := hbl2.size
  rw [be_length] at hrb
  go_wp2_with (refine wpList_app rfl (.tmp 12) (.tmp 16) rfl w.heap.size (.slice (some ⟨w1.heap.size, 0, none⟩) 1 1) [1] (be 8 (u64 n)) _ 8 8 rfl rfl hob hrb (by simp) (by omega) ?_; intro v3 w3 ha; obtain ⟨A3, c3, rfl, _, _⟩ := ha.own.form)
  go_ret2
  exact ⟨_, rfl, ha.own, hbl2.keeps ha.keeps (fun i hi e => by simp [Value.ownBlock] at e; omega) (Nat.le_refl _)⟩

set_option maxHeartbeats 1000000 in
set_option maxRecDepth 100000 in
theorem enc_text (n : Int) (l : List UInt8) (w : World) (hm : mayV 2 n l = true) :
    Calls Try.prog 50 #[.agg #[.int .i64 (2), .int .i64 (n), .string (str (l))]] w fun e w' => ∃ v, e = .returned (.tuple #[v, .int .i64 0]) ∧ OB w' w.heap.size v (encB 2 n l) ∧ Below w.heap.size w w' := by
  have hl : l.length ≤ 8 := by simp [mayV] at hm; exact hm.2
  have hz := str_size l
  have hbx := Blk.new w #[.int .i64 (2), .int .i64 (n), .string (str (l))] 51
  have hbl : Below w.heap.size w (w.alloc (.cells #[.int .i64 (2), .int .i64 (n), .string (str (l))] 51)) := (by repeat (first | exact Below.refl _ _ | assumption | apply below_drewN' | apply Below.drew | refine Below.alloc ?_ (by first | omega | (simp; done) | (simp; omega)) _ | refine Below.setCell ?_ (by first | omega | (simp; done) | (simp; omega)) _))
  go_enter Try.func50, Try.ntmps50
  go_wp2_with fail
  refine (may_is_v _ _ _ _ _ hm).mono ?_
  rintro e w1 ⟨rfl, hb⟩
  have hb1 := hbx.below hb (by simp)
  have c0 := hb1.cell 0 (v := .int .i64 2) rfl
  have c2 := hb1.cell 2 (v := .string (str l)) rfl
  have hbl1 := hbl.trans (hb.mono (by simp))
  have hlt1 := hb1.lt
  have B9 := (Below.refl w1.heap.size w1).drew
  obtain ⟨x, hx⟩ : ∃ x, x = UInt8.ofNat (2 + l.length) := ⟨_, rfl⟩
  have hx8 : IntKind.u8.wrap (IntKind.i64.wrap (2 + (l.length : Int))) = (x.toNat : Int) := by
    rw [hx, UInt8.toNat_ofNat', IntKind.wrap_u8, IntKind.wrap_i64]; omega
  have HE : Hid (encB 2 n l = [x] ++ fill l 8) := by rw [hx]; rfl
  have hfl := fill_length l 8
  clear hx hb hbx hbl hb1 hm
  go_wp2_with fail
  go_region_held3 (fun w' => Below w1.heap.size w1 w' ∧ w'.cell? ⟨w.heap.size, 2, none⟩ = some (.string (str l)))
    (first | exact ⟨by assumption, by assumption⟩ | (refine ⟨(by repeat (first | exact Below.refl _ _ | assumption | apply below_drewN' | apply Below.drew | refine Below.alloc ?_ (by first | omega | (simp; done) | (simp; omega)) _ | refine Below.setCell ?_ (by first | omega | (simp; done) | (simp; omega)) _)), ?_⟩; go_keep))
    (first
      | (go_at_call 76; refine (val_filled l _ hl).mono ?_; rintro e w2 ⟨v, rfl, ⟨A, c, rfl, hrb, hA⟩, hb⟩;
         have B2 := Below.next' hb (by assumption : Below w1.heap.size w1 _ ∧ _).1 (Nat.le_refl _); have d2 := (B2.cell (p := ⟨w.heap.size, 2, none⟩) hlt1).trans c2; rw [hfl] at hrb; have z2 := B2.size;
         try (have hob : OB w2 w.heap.size (.slice (some ⟨w1.heap.size, 0, none⟩) 1 1) [x] := OB.of_row (l := [x]) ((Blk.new w1 (bcells [x]) 5).drew.below hb (by simp)) (by unfold maxLen; simp) (by omega)))
      | (refine step_app rfl (.tmp 23) (.tmp 26) rfl w.heap.size (.slice (some ⟨w1.heap.size, 0, none⟩) 1 1) [x] (fill l 8) A 8 c rfl rfl hob hrb (by simp) (by have := B2.size; omega) ?_; intro v3 w3 ha; obtain ⟨A3, c3, rfl, _, _⟩ := ha.own.form; have B3 := B2.keeps ha.keeps (fun i hi e => by simp [Value.ownBlock] at e; omega) (Nat.le_refl _); have d3 := (B3.cell (p := ⟨w.heap.size, 2, none⟩) hlt1).trans c2)
      | (refine step_app rfl (.tmp 23) (.tmp 26) rfl w.heap.size (.slice (some ⟨w2.heap.size, 0, none⟩) 1 1) [x] (fill l 8) A 8 c rfl rfl (OB.of_row (l := [x]) (Blk.new w2 (bcells [x]) 5) (by unfold maxLen; simp) (by have := B2.size; omega)) (hrb.alloc _) (by simp) (by have := B2.size; simp; omega) ?_; intro v3 w3 ha; obtain ⟨A3, c3, rfl, _, _⟩ := ha.own.form; have B3 := (B2.alloc B2.size _).keeps ha.keeps (fun i hi e => by simp [Value.ownBlock] at e; have := B2.size; omega) (Nat.le_refl _); have d3 := (B3.cell (p := ⟨w.heap.size, 2, none⟩) hlt1).trans c2)
      )
  all_goals (go_wp2; go_ret2; refine ⟨_, rfl, ?_, hbl1.trans (B3.mono (by omega))⟩; have hown := ha.own; rw [show ([x] ++ fill l 8).length = 9 by simp [hfl]] at hown; rw [HE.out]; exact hown)
end Go.Proofs.Ytfldmejjepakeaa
