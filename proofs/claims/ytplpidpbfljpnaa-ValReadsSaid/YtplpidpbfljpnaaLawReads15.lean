/- The statement ValReads: any bytes as a key, as a value, or not, as the document says. -/
import Derived.Test.YtplpidpbfljpnaaFirst15
import Derived.Test.YtplpidpbfljpnaaArgs
import Derived.Test.YtplpidpbfljpnaaArgsVal
import Derived.Test.YtplpidpbfljpnaaVal13
namespace Go.Proofs.Ytplpidpbfljpnaa
open Go.ChangeShapes Go.WideShapes Go.ChangeAt Go.RowKit
open Go.ChangeMaps (open_string shut_string)
set_option linter.unusedVariables false
set_option linter.unusedSimpArgs false

theorem pkL_two (l : List UInt8) : ∃ (t k n : Int) (s : List UInt8) (er : Int), pkL l = .returned (.tuple #[.int .i64 t, .agg #[.int .i64 (k), .int .i64 (n), .string (str (s))], .int .i64 er]) := by
  unfold pkL pkRet
  split
  · split
    · exact ⟨_, _, _, _, _, rfl⟩
    · exact ⟨_, _, _, _, _, rfl⟩
  · exact ⟨0, 0, 0, [], 2, rfl⟩
theorem dkL_two (l : List UInt8) : ∃ (k n : Int) (s : List UInt8) (er : Int), dkL l = .returned (.tuple #[.agg #[.int .i64 (k), .int .i64 (n), .string (str (s))], .int .i64 er]) := by
  unfold dkL dkRet
  split
  · split
    · exact ⟨_, _, _, _, rfl⟩
    · exact ⟨_, _, _, _, rfl⟩
  · exact ⟨0, 0, [], 2, rfl⟩

set_option maxHeartbeats 2000000 in
set_option maxRecDepth 100000 in
theorem valReads_main (l : List UInt8) (A : Option Addr) (n c : Nat) (b : List UInt8) (w : World) (hr : RB w A n c b) (hl : l.length ≤ 1000) (hn : n ≤ 1000) :
    Calls Try.prog 7 #[.string (str l), .slice A n c] w fun e w' => e = .returned (.bool true) ∧ Below w.heap.size w w' := by
  have z1 := str_size l
  obtain ⟨t, k, m, s, er, hp⟩ := pkL_two l
  obtain ⟨k', m', s', er', hd⟩ := dkL_two b
  have HP := Lib.hid (fun w => parse_any l w (by omega))
  have HP' := Lib.hid (fun w => rparse_any l w (by omega))
  have HD := Lib.hid (fun w h => dec_any A n c b w h (by omega))
  have HD' := Lib.hid (fun w h => rdec_any A n c b w h (by omega))
  rw [hp] at HP HP'
  rw [hd] at HD HD'
  clear hp hd
  go_enter Try.func7, Try.ntmps7
  go_wp2_with fail
  refine (first15_calls _).mono ?_
  rintro e w1 ⟨rfl, b1⟩
  go_wp2_with fail
  refine (HP.out _).mono ?_
  rintro e w2 ⟨rfl, hb⟩
  have b2 := b1.next hb (Nat.le_refl _)
  have hX2 := Blk.new w2 #[.int .i64 (k), .int .i64 (m), .string (str (s))] 35
  have b2' := b2.alloc b2.size (.cells #[.int .i64 (k), .int .i64 (m), .string (str (s))] 35)
  clear hb b1
  go_wp2_with fail
  refine (HP'.out _).mono ?_
  rintro e w3 ⟨rfl, hb⟩
  have b3 := b2'.next hb (Nat.le_refl _)
  have hX3 := (hX2.below hb hX2.lt).alloc (.cells #[.int .i64 (k), .int .i64 (m), .string (str (s))] 35)
  have hY3 := Blk.new w3 #[.int .i64 (k), .int .i64 (m), .string (str (s))] 35
  have b3' := b3.alloc b3.size (.cells #[.int .i64 (k), .int .i64 (m), .string (str (s))] 35)
  have hr3 := hr.below b3'
  clear hb b2 b2' hX2
  go_wp2_with fail
  refine (HD.out _ hr3).mono ?_
  rintro e w4 ⟨rfl, hb⟩
  have b4 := b3'.next hb (Nat.le_refl _)
  have hX4 := (hX3.below hb hX3.lt).alloc (.cells #[.int .i64 (k'), .int .i64 (m'), .string (str (s'))] 35)
  have hY4 := (hY3.below hb hY3.lt).alloc (.cells #[.int .i64 (k'), .int .i64 (m'), .string (str (s'))] 35)
  have hU4 := Blk.new w4 #[.int .i64 (k'), .int .i64 (m'), .string (str (s'))] 35
  have b4' := b4.alloc b4.size (.cells #[.int .i64 (k'), .int .i64 (m'), .string (str (s'))] 35)
  have hr4 := hr.below b4'
  clear hb b3 b3' hX3 hY3 hr3
  go_wp2_with fail
  refine (HD'.out _ hr4).mono ?_
  rintro e w5 ⟨rfl, hb⟩
  have b5 := b4'.next hb (Nat.le_refl _)
  have hX5 := (hX4.below hb hX4.lt).alloc (.cells #[.int .i64 (k'), .int .i64 (m'), .string (str (s'))] 35)
  have hY5 := (hY4.below hb hY4.lt).alloc (.cells #[.int .i64 (k'), .int .i64 (m'), .string (str (s'))] 35)
  have hU5 := (hU4.below hb hU4.lt).alloc (.cells #[.int .i64 (k'), .int .i64 (m'), .string (str (s'))] 35)
  have hV5 := Blk.new w5 #[.int .i64 (k'), .int .i64 (m'), .string (str (s'))] 35
  have b5' := b5.alloc b5.size (.cells #[.int .i64 (k'), .int .i64 (m'), .string (str (s'))] 35)
  clear hb b4 b4' hX4 hY4 hU4 hr4
  go_wp2_with fail
  refine (first15_calls _).mono ?_
  rintro e w6 ⟨rfl, hb⟩
  have b6 := b5'.next hb (Nat.le_refl _)
  have hX6 := hX5.below hb hX5.lt
  have hY6 := hY5.below hb hY5.lt
  have hU6 := hU5.below hb hU5.lt
  have hV6 := hV5.below hb hV5.lt
  have x0 := hX6.cell 0 (v := .int .i64 k) rfl
  have x1 := hX6.cell 1 (v := .int .i64 m) rfl
  have x2 := hX6.cell 2 (v := .string (str s)) rfl
  have y0 := hY6.cell 0 (v := .int .i64 k) rfl
  have y1 := hY6.cell 1 (v := .int .i64 m) rfl
  have y2 := hY6.cell 2 (v := .string (str s)) rfl
  have u0 := hU6.cell 0 (v := .int .i64 k') rfl
  have u1 := hU6.cell 1 (v := .int .i64 m') rfl
  have u2 := hU6.cell 2 (v := .string (str s')) rfl
  have v0 := hV6.cell 0 (v := .int .i64 k') rfl
  have v1 := hV6.cell 1 (v := .int .i64 m') rfl
  have v2 := hV6.cell 2 (v := .string (str s')) rfl
  clear hX5 hY5 hU5 hV5 hX6 hY6 hU6 hV6 hb b5 b5'
  go_wp2
  go_ret
  exact ⟨rfl, b6⟩

theorem valReads_skip (l : List UInt8) (A : Option Addr) (n c : Nat) (w : World) (h : 1000 < l.length ∨ 1000 < n) :
    Calls Try.prog 7 #[.string (str l), .slice A n c] w fun e w' => e = .returned (.bool true) ∧ Below w.heap.size w w' := by
  have z1 := str_size l
  by_cases h1 : 1000 < l.length
  · go_enter Try.func7, Try.ntmps7; go_wp2_with fail; refine (first15_calls _).mono ?_; rintro e w1 ⟨rfl, b1⟩; go_wp2_with fail; refine (first15_calls _).mono ?_; rintro e w2 ⟨rfl, b2⟩; go_wp2; go_ret; exact ⟨rfl, b1.next b2 (Nat.le_refl _)⟩
  · have h2 : 1000 < n := by omega
    have h3 : l.length ≤ 1000 := by omega
    go_enter Try.func7, Try.ntmps7; go_wp2_with fail; refine (first15_calls _).mono ?_; rintro e w1 ⟨rfl, b1⟩; go_wp2_with fail; refine (first15_calls _).mono ?_; rintro e w2 ⟨rfl, b2⟩; go_wp2; go_ret; exact ⟨rfl, b1.next b2 (Nat.le_refl _)⟩
theorem valReads_all (z : ByteArray) (A : Option Addr) (n c : Nat) (b : List UInt8) (w : World) (hr : RB w A n c b) :
    Calls Try.prog 7 #[.string z, .slice A n c] w fun e w' => e = .returned (.bool true) ∧ Below w.heap.size w w' := by
  obtain ⟨l, rfl⟩ := str_of z
  by_cases h : 1000 < l.length ∨ 1000 < n
  · exact valReads_skip l A n c w h
  · exact valReads_main l A n c b w hr (by omega) (by omega)
set_option linter.unusedVariables false
namespace valReads
theorem own : ownKnob Try.prog.godebug = none := by kernel_rfl
theorem laidOut : laidOutB Try.prog = true := by kernel_rfl
set_option maxRecDepth 100000 in
theorem lifted (os : Os) (started : os.Started) (H : Type) (enc : TypeId × Value → H) :
    ReturnsInHanded {} Try.checked os 7 .any (Rows.valReadsSpec.pre6 enc Try.prog Try.f7 Rows.valReadsRow.domain false) (Rows.valReadsSpec.post enc Try.prog Try.f7 false true false false) := by
  refine returnsInHanded_of_change_sized (C := Try.checked) own started (by kernel_rfl) Try.func7
    (ChangeSpec.witness6 (enc := enc) (C := Try.checked) false ⟨#[], #[.string ByteArray.empty, .slice none 0 0], []⟩ 8 (by kernel_rfl) (by kernel_rfl) (by kernel_rfl) (by kernel_rfl)) ?_
  intro W base args ds gs before hval0 hW hcnd hsz0 _
  have hsz : (DataW.weightsEach Try.prog (Try.f7.params.toList ++ Rows.valReadsSpec.plain.varTypes Try.prog) (ds ++ gs)).all (· ≤ reachBytes) = true := hsz0
  have hval : ∀ (j : Nat) t v, Try.f7.params[j]? = some t → args[j]? = some v → Value.okWide Try.prog W .any base t v := hval0
  have hW' := hW
  obtain ⟨p, q, hA0, hV, rfl, hfz, hnd⟩ := hW
  have hA : DataW.TrodAll enc Try.prog W 0 (fun _ => true) true Try.f7.params.toList args.toList ds p := hA0
  rw [Try.params7] at hA hval hsz
  obtain ⟨v0, vs0, d0, ds0, p0, q0, hargs, rfl, rfl, h0, r0⟩ := trodAll_cons hA
  obtain ⟨v1, vs1, d1, ds1, p1, q1, rfl, rfl, rfl, h1, r1⟩ := trodAll_cons r0
  obtain ⟨rfl, rfl, rfl⟩ := trodAll_nil r1
  obtain rfl : args = #[v0, v1] := by cases args; simp_all
  obtain ⟨rfl, rfl⟩ := trodVars_none hV
  obtain ⟨a0, rfl, rfl, rfl, y0⟩ := open_string Try.underlying9 (hval 0 9 v0 rfl rfl) h0
  have k1 := h1
  have o1 := (hval 1 41 v1 rfl rfl)
  have lt1 : ∀ x ∈ p1, x.block < W.heap.size := by obtain ⟨m, hm⟩ := k1; exact DataW.trod_lt m _ _ _ hm
  obtain ⟨A1, n1, c1, l1, rfl, hr1⟩ := open_bytes o1 k1
  refine (valReads_all _ A1 n1 c1 l1 W hr1).mono fun e W' ⟨he, bel⟩ => ?_
  subst he
  exact ⟨_, rfl, _, _, _, [], _, [], hW', trodAll_mk1 (shut_bool Try.underlying4 _), (trodAll_cons_mk (shut_string Try.underlying9 y0) (trodAll_cons_mk (Below.trod laidOut (by kernel_rfl) (of_decide_eq_true (by kernel_rfl)) k1 bel lt1) trodAll_mk0)), rfl, bel.frame _, fun h => by cases h⟩
theorem over : Rows.valReadsRow.holds Try.pinned (OpenSpec.ofChange Rows.valReadsSpec) :=
  OpenClaim.holds_of_wide 7 Try.f7 rfl rfl rfl rfl rfl rfl rfl ⟨rfl, rfl, rfl, rfl, rfl⟩ rfl rfl rfl rfl rfl (by kernel_rfl) Try.func7 (by kernel_rfl)
    (of_decide_eq_true (by kernel_rfl)) (by unfold Func.isWrapper; first | (rw [if_pos (by decide +kernel)]; kernel_rfl) | (rw [if_neg (by decide +kernel)]; exact ⟨rfl, rfl⟩))
    (fun os started H enc _ => lifted os started H enc)
end valReads
/-- The statement. -/
theorem valReads_holds : Rows.ValReadsSaid := valReads.over
#print axioms valReads_holds
end Go.Proofs.Ytplpidpbfljpnaa
