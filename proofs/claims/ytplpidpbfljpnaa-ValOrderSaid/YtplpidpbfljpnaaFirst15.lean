/- oublaw15.first: what the chapter's examples fix. -/
import Derived.Test.YtplpidpbfljpnaaVal8
namespace Go.Proofs.Ytplpidpbfljpnaa
open Go.ChangeShapes Go.WideShapes Go.ChangeAt Go.RowKit
open Go.ChangeMaps (open_string shut_string)
set_option linter.unusedVariables false
set_option linter.unusedSimpArgs false

theorem first_enc : encT 2 0 [97] = [3, 97, 0, 0, 0, 0, 0, 0, 0] := by decide
theorem first_key : keyT 0 1 0 [] = [0, 128, 0, 0, 0, 0, 0, 0, 0, 0] := by decide +kernel
theorem first_encE : encE 2 0 [97] = 0 := by decide
theorem first_keyE : keyE 0 1 0 [] = 0 := by decide
theorem first_may : mayV 0 0 [] = false := by decide
def firstK : List UInt8 := [0, 128, 0, 0, 0, 0, 0, 0, 0, 0]
def firstB : List UInt8 := [3, 97, 0, 0, 0, 0, 0, 0, 0]

set_option maxHeartbeats 1000000 in
set_option maxRecDepth 100000 in
theorem first15_calls (w : World) : Calls Try.prog 18 #[] w fun e w' => e = .returned (.bool true) ∧ Below w.heap.size w w' := by
  have HE := Lib.hid (fun w => enc_any 2 0 [97] w)
  have HK := Lib.hid (fun w => key_any 0 1 0 [] w)
  have HM := Lib.hid (fun w => may_is_v 0 0 [] false w first_may)
  have hz : (str firstK).size = 10 := rfl
  have h1 : (str firstK)[1]'(by rw [hz]; omega) = 128 := rfl
  go_enter Try.func18, Try.ntmps18
  go_wp2_with fail
  refine (HE.out _).mono ?_
  rw [first_enc, first_encE]
  rintro e w1 ⟨v1, rfl, ho1, hb1⟩
  obtain ⟨A1, c1, rfl, hr1⟩ := ho1.sl 9 rfl
  go_wp2_with fail
  refine (HK.out _).mono ?_
  rw [first_key, first_keyE]
  rintro e w2 ⟨rfl, hb2⟩
  have hr2 := hr1.below hb2
  have b2 := hb1.next hb2 (Nat.le_refl _)
  have hrL : RB (w2.alloc (.cells #[.int .u8 3, .int .u8 97, .int .u8 0, .int .u8 0, .int .u8 0, .int .u8 0, .int .u8 0, .int .u8 0, .int .u8 0] 5)) (some ⟨w2.heap.size, 0, none⟩) 9 9 firstB := RB.of_row (l := firstB) (Blk.new w2 (bcells firstB) 5) (by unfold maxLen; decide)
  have hr3 : RB (w2.alloc (.cells #[.int .u8 3, .int .u8 97, .int .u8 0, .int .u8 0, .int .u8 0, .int .u8 0, .int .u8 0, .int .u8 0, .int .u8 0] 5)) A1 9 c1 firstB := hr2.alloc _
  have HB := Lib.hid (ref_Bytes A1 (some ⟨w2.heap.size, 0, none⟩) 9 c1 9 9 firstB firstB _ hr3 hrL)
  rw [beq_self_eq_true] at HB
  have b3 := b2.alloc b2.size (.cells #[.int .u8 3, .int .u8 97, .int .u8 0, .int .u8 0, .int .u8 0, .int .u8 0, .int .u8 0, .int .u8 0, .int .u8 0] 5)
  clear hr2 hr3 hrL
  rw [show ([0, 128, 0, 0, 0, 0, 0, 0, 0, 0] : List UInt8) = firstK from rfl]
  clear ho1 hr1
  go_wp2_with fail
  refine HB.out.mono ?_
  rintro e w3 ⟨rfl, rfl⟩
  go_wp2_with (go_at_call 19; refine (HM.out _).mono ?_; rintro e w4 ⟨rfl, hb4⟩)
  go_ret
  exact ⟨rfl, b3.trans (hb4.mono b3.size)⟩
end Go.Proofs.Ytplpidpbfljpnaa
