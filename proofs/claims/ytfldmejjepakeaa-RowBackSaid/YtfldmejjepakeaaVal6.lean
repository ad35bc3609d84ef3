/- Contracts of values: Encode whole, Key. -/
import Derived.Test.YtfldmejjepakeaaVal5
namespace Go.Proofs.Ytfldmejjepakeaa
open Go.ChangeShapes Go.WideShapes Go.ChangeAt Go.RowKit
open Go.ChangeMaps (open_string shut_string)
set_option linter.unusedVariables false
set_option linter.unusedSimpArgs false
set_option maxRecDepth 100000

set_option maxHeartbeats 1000000 in
set_option maxRecDepth 100000 in
theorem renc_int (n : Int) (l : List UInt8) (w : World) (hm : mayV 1 n l = true) :
    Calls Try.prog 61 #[.agg #[.int .i64 (1), .int .i64 (n), .string (str (l))]] w fun e w' => ∃ v, e = .returned (.tuple #[v, .int .i64 0]) ∧ OB w' w.heap.size v (encB 1 n l) ∧ Below w.heap.size w w' := by
  have hbx := Blk.new w #[.int .i64 (1), .int .i64 (n), .string (str (l))] 51
  have hbl : Below w.heap.size w (w.alloc (.cells #[.int .i64 (1), .int .i64 (n), .string (str (l))] 51)) := (by repeat (first | exact Below.refl _ _ | assumption | apply below_drewN' | apply Below.drew | refine Below.alloc ?_ (by first | omega | (simp; done) | (simp; omega)) _ | refine Below.setCell ?_ (by first | omega | (simp; done) | (simp; omega)) _))
  have hu := u64_range n
  go_enter Try.func61, Try.ntmps61
  go_wp2_with fail
  refine (refmay_is _ _ _ _ _ hm).mono ?_
  rintro e w1 ⟨rfl, hb⟩
  have hb1 := hbx.below hb (by simp)
  have c0 := hb1.cell 0 (v := .int .i64 1) rfl
  have c1 := hb1.cell 1 (v := .int .i64 n) rfl
  have hbl1 := hbl.trans (hb.mono (by simp))
  have hlt1 := hb1.lt
  have hq : IntKind.u64.wrap n = u64 n := rfl
  go_wp2_with fail
  refine (ref_eight (u64 n) _ hu.1 hu.2).mono ?_
  rintro e w2 ⟨v2, rfl, hb2, hbe2⟩
  simp only [World.size_alloc] at hb2 hbe2
  obtain ⟨A2, c2, rfl, hrb⟩ := hb2.sl 8 (be_length 8 _)
  have hob : RB w2 (some ⟨w1.heap.size, 0, none⟩) 1 1 [1] := RB.of_row (l := [1]) ((Blk.new w1 (bcells [1]) 5).below hbe2 (by simp)) (by unfold maxLen; simp)
  have hbl2 := (hbl1.alloc (by omega) (.cells #[.int .u8 1] 5)).trans (hbe2.mono (by omega))
  have hsz := hbl2.size
  go_wp2_with (refine wpList_appg rfl (.tmp 12) (.tmp 16) rfl w1.heap.size 0 1 1 [1] (be 8 (u64 n)) A2 8 c2 rfl rfl hob hrb (by omega) (by omega) (by omega) ?_; intro v3 w3 ho3 hb3; obtain ⟨A3, c3, rfl, _, _⟩ := ho3.form)
  go_ret2
  exact ⟨_, rfl, ho3.mono (fun k hk => by have := (ho3.lt k hk).1; omega), hbl2.trans (hb3.mono hsz)⟩

/-- The text of a value; none, if it may not be. -/
def encT (k n : Int) (l : List UInt8) : List UInt8 := if mayV k n l then encB k n l else []
theorem may_kinds {k n : Int} {l : List UInt8} (h : mayV k n l = true) : k = 1 ∨ k = 2 := by
  simp only [mayV, Bool.or_eq_true, Bool.and_eq_true, beq_iff_eq] at h
  omega
theorem enc_any (k n : Int) (l : List UInt8) (w : World) :
    Calls Try.prog 50 #[.agg #[.int .i64 (k), .int .i64 (n), .string (str (l))]] w fun e w' => ∃ v, e = .returned (.tuple #[v, .int .i64 (encE k n l)]) ∧ OB w' w.heap.size v (encT k n l) ∧ Below w.heap.size w w' := by
  unfold encE encT
  cases hm : mayV k n l with
  | false => refine (enc_no k n l w hm).mono ?_; rintro e w' ⟨rfl, hb⟩; exact ⟨_, rfl, OB.nil _ _, hb⟩
  | true =>
    rcases may_kinds hm with rfl | rfl
    · exact enc_int n l w hm
    · exact enc_text n l w hm
theorem renc_any (k n : Int) (l : List UInt8) (w : World) :
    Calls Try.prog 61 #[.agg #[.int .i64 (k), .int .i64 (n), .string (str (l))]] w fun e w' => ∃ v, e = .returned (.tuple #[v, .int .i64 (encE k n l)]) ∧ OB w' w.heap.size v (encT k n l) ∧ Below w.heap.size w w' := by
  unfold encE encT
  cases hm : mayV k n l with
  | false => refine (renc_no k n l w hm).mono ?_; rintro e w' ⟨rfl, hb⟩; exact ⟨_, rfl, OB.nil _ _, hb⟩
  | true =>
    rcases may_kinds hm with rfl | rfl
    · exact renc_int n l w hm
    · exact renc_text n l w hm
end Go.Proofs.Ytfldmejjepakeaa
