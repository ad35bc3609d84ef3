/- Contracts of package nonce: the source. -/
import Derived.Test.YtplpidpbfljpnaaBase
namespace Go.Proofs.Ytplpidpbfljpnaa
open Go.ChangeShapes Go.WideShapes Go.ChangeAt Go.RowKit
open Go.ChangeMaps (open_string shut_string)
set_option linter.unusedVariables false
set_option linter.unusedSimpArgs false

def amongB (n : Int) : Bool := decide (0 ≤ n) && decide (n ≤ 1099511627776)

theorem among_calls (n : Int) (w : World) : Calls Try.prog 44 #[.int .i64 n] w fun e w' => e = .returned (.bool (amongB n)) ∧ w = w' := by
  by_cases h0 : 0 ≤ n
  · go_enter Try.func44, Try.ntmps44
    go_wp2
    go_ret
    exact ⟨by simp [amongB, h0], rfl⟩
  · go_enter Try.func44, Try.ntmps44
    go_wp2
    go_ret
    exact ⟨by simp [amongB]; omega, rfl⟩

def src (gen count most : Int) : Array Value := #[.int .i64 gen, .int .i64 count, .int .i64 most]

theorem left_calls (g : Nat) (gen count most : Int) (w : World) (hs : Blk w g (src gen count most) 32) (h0 : 0 ≤ count) (h1 : count ≤ most) (h2 : most ≤ 1099511627776) :
    Calls Try.prog 15 #[.pointer (some ⟨g, 0, none⟩)] w fun e w' => e = .returned (.int .i64 (most - count)) ∧ ∃ n, w' = w.drewN n := by
  have c1 := hs.cell 1 (v := .int .i64 count) rfl
  have c2 := hs.cell 2 (v := .int .i64 most) rfl
  go_enter Try.func15, Try.ntmps15
  go_wp2_with fail
  go_quiet (fail)
  go_wp2
  go_ret
  exact ⟨rfl, _, rfl⟩

theorem left_is (g : Nat) (gen count most r : Int) (w : World) (hs : Blk w g (src gen count most) 32) (h0 : 0 ≤ count) (h1 : count ≤ most) (h2 : most ≤ 1099511627776) (hr : r = most - count) :
    Calls Try.prog 15 #[.pointer (some ⟨g, 0, none⟩)] w fun e w' => e = .returned (.int .i64 r) ∧ ∃ n, w' = w.drewN n := by
  subst hr; exact left_calls g gen count most w hs h0 h1 h2


theorem next_none (g : Nat) (gen count : Int) (w : World) (hs : Blk w g (src gen count count) 32) (h0 : 0 ≤ count) (h2 : count ≤ 1099511627776) :
    Calls Try.prog 16 #[.pointer (some ⟨g, 0, none⟩)] w fun e w' => e = .returned (.tuple #[.agg #[.int .i64 0, .int .i64 0], .int .i64 11]) ∧ Blk w' g (src gen count count) 32 ∧ Keeps (· = g) w w' := by
  have e0 : count - count = 0 := by omega
  have HL := Lib.hid (left_calls g gen count count _ (hs.alloc (.cells #[.int .i64 0, .int .i64 0] 27)) h0 (by omega) h2)
  rw [e0] at HL
  clear e0
  have hlt := hs.lt
  go_enter Try.func16, Try.ntmps16
  go_wp2_with (go_at_call 15; refine (HL.out).mono ?_; rintro e w' ⟨rfl, n, rfl⟩)
  refine bodyPost_ret (v := .tuple #[.agg #[.int .i64 0, .int .i64 0], .int .i64 11]) (by simp [results, Try.results16, go_sem]) rfl ⟨rfl, ?_, ?_⟩
  · exact (((hs.alloc _).drewN _).other (by simp; omega) _).other (by simp; omega) _
  · exact ((((Keeps.refl _ _).alloc _).drewN _).setCell (.inr (by simp)) _).setCell (.inr (by simp)) _

theorem next_some (g : Nat) (gen count most : Int) (w : World) (hs : Blk w g (src gen count most) 32) (h0 : 0 ≤ count) (h1 : count < most) (h2 : most ≤ 1099511627776) :
    Calls Try.prog 16 #[.pointer (some ⟨g, 0, none⟩)] w fun e w' => e = .returned (.tuple #[.agg #[.int .i64 gen, .int .i64 count], .int .i64 0]) ∧ Blk w' g (src gen (count + 1) most) 32 ∧ Keeps (· = g) w w' := by
  have e0 : (most - count == 0) = false := by rw [beq_eq_false_iff_ne]; omega
  have c0 := hs.cell 0 (v := .int .i64 gen) rfl
  have c1 := hs.cell 1 (v := .int .i64 count) rfl
  have fz := hs.fz 1
  have hlt := hs.lt
  have HL := Lib.hid (left_calls g gen count most _ (hs.alloc (.cells #[.int .i64 0, .int .i64 0] 27)) h0 (by omega) h2)
  go_enter Try.func16, Try.ntmps16
  go_wp2_with (go_at_call 15; refine (HL.out).mono ?_; rintro e w' ⟨rfl, n, rfl⟩)
  refine bodyPost_ret (v := .tuple #[.agg #[.int .i64 gen, .int .i64 count], .int .i64 0]) (by simp [results, Try.results16, go_sem]) rfl ⟨rfl, ?_, ?_⟩
  · exact ((((((hs.alloc _).drewN _).set 1 _).other (by simp; omega) _).other (by simp; omega) _).alloc _)
  · exact (by repeat (first | exact Keeps.refl _ _ | assumption | apply Keeps.drewN | apply Keeps.drew | apply Keeps.alloc | refine Keeps.setCell ?_ (by first | (left; rfl) | (right; omega) | (right; simp; done) | (right; simp; omega)) _))

theorem at_some (gen count most : Int) (w : World) (hg : 1 ≤ gen) (hg2 : gen ≤ 1099511627776) (h0 : 0 ≤ count) (h1 : count ≤ most) (h2 : most ≤ 1099511627776) :
    Calls Try.prog 14 #[.int .i64 gen, .int .i64 count, .int .i64 most] w fun e w' => e = .returned (.pointer (some ⟨w.heap.size, 0, none⟩)) ∧ w.alloc (.cells (src gen count most) 32) = w' := by
  have a1 : amongB gen = true := by simp [amongB]; omega
  have a2 : amongB count = true := by simp [amongB]; omega
  have a3 : amongB most = true := by simp [amongB]; omega
  go_enter Try.func14, Try.ntmps14
  go_wp2_with (go_at_call 44; refine (among_calls _ _).mono ?_; rintro e w' ⟨rfl, rfl⟩)
  go_ret
  exact ⟨rfl, rfl⟩

def mayAt (gen count most : Int) : Bool := decide (1 ≤ gen) && amongB gen && amongB count && amongB most && decide (count ≤ most)

theorem at_none (gen count most : Int) (w : World) (h : mayAt gen count most = false) :
    Calls Try.prog 14 #[.int .i64 gen, .int .i64 count, .int .i64 most] w fun e w' => e = .returned (.pointer none) ∧ w = w' := by
  by_cases h1 : 1 ≤ gen
  · rcases ha : amongB gen with _ | _
    · go_enter Try.func14, Try.ntmps14
      go_wp2_with (go_at_call 44; refine (among_calls _ _).mono ?_; rintro e w' ⟨rfl, rfl⟩)
      go_ret
      exact ⟨rfl, rfl⟩
    · rcases hb : amongB count with _ | _
      · go_enter Try.func14, Try.ntmps14
        go_wp2_with (go_at_call 44; refine (among_calls _ _).mono ?_; rintro e w' ⟨rfl, rfl⟩)
        go_ret
        exact ⟨rfl, rfl⟩
      · rcases hc : amongB most with _ | _
        · go_enter Try.func14, Try.ntmps14
          go_wp2_with (go_at_call 44; refine (among_calls _ _).mono ?_; rintro e w' ⟨rfl, rfl⟩)
          go_ret
          exact ⟨rfl, rfl⟩
        · have hlt : most < count := by simp [mayAt, h1, ha, hb, hc] at h; exact h
          go_enter Try.func14, Try.ntmps14
          go_wp2_with (go_at_call 44; refine (among_calls _ _).mono ?_; rintro e w' ⟨rfl, rfl⟩)
          go_ret
          exact ⟨rfl, rfl⟩
  · go_enter Try.func14, Try.ntmps14
    go_wp2_with (go_at_call 44; refine (among_calls _ _).mono ?_; rintro e w' ⟨rfl, rfl⟩)
    go_ret
    exact ⟨rfl, rfl⟩

theorem from_some (gen : Int) (w : World) (hg : 1 ≤ gen) (hg2 : gen ≤ 1099511627776) :
    Calls Try.prog 31 #[.int .i64 gen] w fun e w' => e = .returned (.pointer (some ⟨w.heap.size, 0, none⟩)) ∧ w.alloc (.cells (src gen 0 1099511627776) 32) = w' := by
  go_enter Try.func31, Try.ntmps31
  go_wp2_with (go_at_call 14; refine (at_some _ _ _ _ (by omega) (by omega) (by omega) (by omega) (by omega)).mono ?_; rintro e w' ⟨rfl, rfl⟩)
  go_ret
  exact ⟨rfl, rfl⟩

theorem from_none (gen : Int) (w : World) (h : mayAt gen 0 1099511627776 = false) :
    Calls Try.prog 31 #[.int .i64 gen] w fun e w' => e = .returned (.pointer none) ∧ w = w' := by
  go_enter Try.func31, Try.ntmps31
  go_wp2_with (go_at_call 14; refine (at_none _ _ _ _ h).mono ?_; rintro e w' ⟨rfl, rfl⟩)
  go_ret
  exact ⟨rfl, rfl⟩

end Go.Proofs.Ytplpidpbfljpnaa
