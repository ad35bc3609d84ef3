/- Contracts of slab.Writer: its state, num, Num, Raw, Sealed, Len. -/
import Derived.Test.YtfldmejjepakeaaBytes
namespace Go.Proofs.Ytfldmejjepakeaa
open Go.ChangeShapes Go.WideShapes Go.ChangeAt Go.RowKit
open Go.ChangeMaps (open_string shut_string)
set_option linter.unusedVariables false
set_option linter.unusedSimpArgs false
set_option maxRecDepth 100000

/-- A writer: its block, its slice v that holds l, broken or not. -/
structure Wr (w : World) (p : Nat) (v : Value) (l : List UInt8) (br : Bool) : Prop where
  blk : Blk w p #[v, .bool br] 81
  own : OB w 0 v l
  ne : v.ownBlock ≠ some p

/-- What a call on a writer does to the world. -/
structure WStep (w w' : World) (p : Nat) (v v' : Value) : Prop where
  keeps : Keeps (fun k => k = p ∨ v.ownBlock = some k) w w'
  own : ∀ k, v'.ownBlock = some k → v.ownBlock = some k ∨ w.heap.size ≤ k

namespace WStep
variable {w w' w'' : World} {p : Nat} {v v' v'' : Value}
theorem refl (w : World) (p : Nat) (v : Value) : WStep w w p v v := ⟨Keeps.refl _ _, fun _ h => .inl h⟩
theorem trans (h : WStep w w' p v v') (k : WStep w' w'' p v' v'') : WStep w w'' p v v'' :=
  ⟨h.keeps.trans k.keeps (fun i hi => hi.elim (fun e => .inl (.inl e)) (fun e => (h.own i e).elim (fun e => .inl (.inr e)) .inr)),
    fun i hi => (k.own i hi).elim (h.own i) (fun e => .inr (Nat.le_trans h.keeps.size e))⟩
theorem drew (h : WStep w w' p v v') : WStep w w'.drew p v v' := ⟨h.keeps.drew, h.own⟩
theorem drewN (h : WStep w w' p v v') (n : Nat) : WStep w (w'.drewN n) p v v' := ⟨h.keeps.drewN n, h.own⟩
theorem alloc (h : WStep w w' p v v') (o : Obj) : WStep w (w'.alloc o) p v v' := ⟨h.keeps.alloc o, h.own⟩
theorem below (h : WStep w w' p v v') (k : Below w'.heap.size w' w'') : WStep w w'' p v v' := ⟨h.keeps.then_below k, h.own⟩
end WStep

namespace Wr
variable {w w' : World} {p : Nat} {v : Value} {l : List UInt8} {br : Bool}
theorem lt (h : Wr w p v l br) : p < w.heap.size := h.blk.lt
theorem olt (h : Wr w p v l br) : ∀ k, v.ownBlock = some k → k < w.heap.size := fun k hk => (h.own.lt k hk).2
theorem drew (h : Wr w p v l br) : Wr w.drew p v l br := ⟨h.blk, h.own, h.ne⟩
theorem drewN (h : Wr w p v l br) (n : Nat) : Wr (w.drewN n) p v l br := ⟨h.blk, h.own, h.ne⟩
theorem alloc (h : Wr w p v l br) (o : Obj) : Wr (w.alloc o) p v l br := ⟨h.blk.alloc o, h.own.alloc o, h.ne⟩
theorem kept {S : Nat → Prop} (h : Wr w p v l br) (hk : Keeps S w w') (h1 : ¬ S p) (h2 : ∀ k, v.ownBlock = some k → ¬ S k) : Wr w' p v l br :=
  ⟨h.blk.keeps hk h1, h.own.kept hk h2, h.ne⟩
theorem below (h : Wr w p v l br) (hb : Below w.heap.size w w') : Wr w' p v l br := h.kept (S := fun _ => False) (Keeps.of_below hb) id (fun _ _ => id)
theorem c0 (h : Wr w p v l br) : w.cell? ⟨p, 0, none⟩ = some v := h.blk.cell 0 rfl
theorem c1 (h : Wr w p v l br) : w.cell? ⟨p, 1, none⟩ = some (.bool br) := h.blk.cell 1 rfl
theorem fz (h : Wr w p v l br) (i : Nat) : w.frozen? ⟨p, i, none⟩ = false := h.blk.fz i
/-- broken is set. -/
theorem setBroken (h : Wr w p v l br) (b : Bool) : Wr (w.setCell ⟨p, 1, none⟩ (.bool b)) p v l b :=
  ⟨h.blk.set 1 (.bool b), h.own.kept (S := fun k => k = p) ((Keeps.refl (fun k => k = p) w).setCell (.inl rfl) _) (fun k hk e => h.ne (by rw [hk, e])), h.ne⟩
/-- The slice is set. -/
theorem setSlice {v' : Value} {l' : List UInt8} (h : Blk w p #[v, .bool br] 81) (ho : OB w 0 v' l') (hn : v'.ownBlock ≠ some p) : Wr (w.setCell ⟨p, 0, none⟩ v') p v' l' br :=
  ⟨h.set 0 v', ho.kept (S := fun k => k = p) ((Keeps.refl (fun k => k = p) w).setCell (.inl rfl) _) (fun k hk e => hn (by rw [hk, e])), hn⟩
end Wr

theorem WStep.step {w wr w1 w2 : World} {p B : Nat} {v v' v2 : Value} {l : List UInt8} (hst : WStep w wr p v v') (hk : Keeps (fun _ => False) wr w1) (ha : App w1 w2 B v' v2 l) : WStep w (w2.setCell ⟨p, 0, none⟩ v2) p v v2 := by
  refine ⟨((((hst.keeps.trans hk (fun _ => False.elim)).trans ha.keeps ?_)).setCell (.inl (.inl rfl)) _), ?_⟩
  · intro i hi
    rcases hst.own i hi with h | h
    · exact .inl (.inr h)
    · exact .inr h
  · intro i hi
    rcases ha.at_ with e | e
    · rw [e] at hi; exact hst.own i hi
    · rw [e] at hi
      injection hi with hi
      have := hst.keeps.size
      have := hk.size
      exact .inr (by omega)

theorem Wr.app {wr w1 w2 : World} {p : Nat} {v' : Value} {l' l : List UInt8} {br : Bool} {A : Option Addr} {n c : Nat} (hw : Wr wr p v' l' br) (hk : Keeps (fun _ => False) wr w1) (ha : App w1 w2 0 v' (.slice A n c) l) : Wr (w2.setCell ⟨p, 0, none⟩ (.slice A n c)) p (.slice A n c) l br := by
  refine Wr.setSlice ((hw.blk.keeps hk id).keeps ha.keeps hw.ne) ha.own ?_
  rcases ha.at_ with e | e
  · rw [e]; exact hw.ne
  · rw [e]
    intro h
    injection h with h
    have := hw.lt
    have := hk.size
    omega

/-- A number's byte number i from below. -/
def byteAt (n : Int) (i : Nat) : UInt8 := UInt8.ofNat ((n / 2 ^ (8 * i)) % 256).toNat
/-- Its k bytes, the greatest first. -/
def be : Nat → Int → List UInt8
  | 0, _ => []
  | k + 1, n => byteAt n k :: be k n
theorem be_length (k : Nat) (n : Int) : (be k n).length = k := by induction k with
  | zero => rfl
  | succ k ih => simp [be, ih]

theorem byte_of (n : Int) (i : Nat) : IntKind.u8.wrap (n / 2 ^ (8 * (i : Int)).toNat) = ((byteAt n i).toNat : Int) := by
  rw [IntKind.wrap_u8]
  unfold byteAt
  rw [show (8 * (i : Int)).toNat = 8 * i from by omega]
  have h := Int.emod_nonneg (n / 2 ^ (8 * i)) (show (256 : Int) ≠ 0 by decide)
  have h2 := Int.emod_lt_of_pos (n / 2 ^ (8 * i)) (show (0 : Int) < 256 by decide)
  generalize n / 2 ^ (8 * i) % 256 = x at *
  rw [UInt8.toNat_ofNat', Nat.mod_eq_of_lt (by omega)]
  omega

def badNum (width n : Int) : Bool := !mayW width || decide (n < -1) || decide (topW width.toNat ≤ n)

/-- A writer's bytes and broken behind num. -/
def numL (l : List UInt8) (br : Bool) (width n : Int) : List UInt8 := if br || badNum width n then l else l ++ be width.toNat n

set_option maxHeartbeats 1000000 in
set_option maxRecDepth 100000 in
theorem num_good (p : Nat) (v : Value) (l : List UInt8) (k : Nat) (n : Int) (w : World) (h : Wr w p v l false) (h1 : 1 ≤ k) (h7 : k ≤ 7) (hn : -1 ≤ n) (hn2 : n < topW k) (hl : l.length ≤ 1099511627776) :
    Calls Try.prog 78 #[.pointer (some ⟨p, 0, none⟩), .int .i64 k, .int .i64 n] w fun e w' => e = .returned (.tuple #[]) ∧ ∃ v', Wr w' p v' (l ++ be k n) false ∧ WStep w w' p v v' := by
  have hm : mayW (k : Int) = true := by simp [mayW]; omega
  obtain ⟨i0, hi, hz0, hz1, hz2⟩ := info_parts info_u8
  go_enter Try.func78, Try.ntmps78
  go_wp2_with (first | (go_at_call 77; refine (slab_may _ _).mono ?_; rintro e w' ⟨rfl, rfl⟩) | (go_at_call 83; refine (slab_top _ _ h1 h7).mono ?_; rintro e w' ⟨rfl, rfl⟩))
  go_loopw [6] (fun i wr => ∃ (j : Nat) (v' : Value) (l' : List UInt8), j ≤ k ∧ i = .int .i64 ((j : Int) - 1) ∧ Wr wr p v' l' false ∧ l'.length + j = l.length + k ∧ WStep w wr p v v' ∧ l' ++ be j n = l ++ be k n) (fun i _ => (intOf i + 1).toNat)
  case atStart => exact ⟨k, v, l, by omega, by first | rfl | (congr 1), h, by omega, WStep.refl _ _ _, rfl⟩
  case round =>
    obtain ⟨j, v', l', hj, hi6, hw, hll, hst, hbe⟩ := hrel
    have c0 := hw.c0
    have c1 := hw.c1
    have hlt := hw.lt
    rcases Nat.eq_zero_or_pos j with rfl | hj0
    · obtain rfl : u6 = .int .i64 (-1) := hi6
      go_wp2
      go_end0
      refine ⟨rfl, v', ?_, hst⟩
      rw [← hbe]
      simpa [be] using hw
    · obtain ⟨m, rfl⟩ : ∃ m, j = m + 1 := ⟨j - 1, by omega⟩
      obtain rfl : u6 = .int .i64 m := by rw [hi6]; congr 1; omega
      clear hi6
      have how : OB wr 0 v' l' := hw.own
      have hby := byte_of n m
      have wr8 : IntKind.i64.wrap (8 * (m : Int)) = 8 * (m : Int) := IntWalk.i64_in _ (by omega)
      have ge8 : (0 : Int) ≤ 8 * (m : Int) := by omega
      go_wp2_with fail
      go_region_law (refine step_app rfl (.tmp 40) (.tmp 46) rfl 0 v' l' [byteAt n m] _ 1 1 rfl rfl (how.alloc _).drew (RB.one _ (byteAt n m)).drew (by omega) (Nat.zero_le _) ?_; intro v2 w2 ha; obtain ⟨A2, c2, rfl, hc2, hm2⟩ := ha.own.form; have hb3 := (hw.blk.alloc (.cells #[bv (byteAt n m)] 5)).drew.keeps ha.keeps hw.ne; have q0 := hb3.cell 0 rfl; have q1 := hb3.fz 0)
      all_goals
        rw [List.length_append, List.length_singleton] at ha
        have hk0 : Keeps (fun _ => False) wr (wr.alloc (.cells #[bv (byteAt n m)] 5)).drew := (by repeat (first | exact Keeps.refl _ _ | assumption | apply Keeps.drewN | apply Keeps.drew | apply Keeps.alloc | refine Keeps.setCell ?_ (by first | (left; rfl) | (right; omega) | (right; simp; done) | (right; simp; omega)) _))
        have hW := hw.app hk0 ha
        have hS := hst.step hk0 ha
        have hl2 : (l' ++ [byteAt n m]).length + m = l.length + k := by rw [List.length_append, List.length_singleton]; omega
        have hb2 : l' ++ [byteAt n m] ++ be m n = l ++ be k n := by rw [← hbe, List.append_assoc]; rfl
        have e1 : ((m : Int) - 1) = ((m : Nat) : Int) - 1 := rfl
        clear hb3 q0 q1 ha hw hst hbe c0 c1 how hll hby wr8 e1
        go_wp2
        go_roundw
        case rel => exact ⟨m, _, _, by omega, rfl, hW, hl2, hS, hb2⟩
        case measure => simp [intOf]

set_option maxHeartbeats 1000000 in
set_option maxRecDepth 100000 in
theorem num_broken (p : Nat) (v : Value) (l : List UInt8) (width n : Int) (w : World) (h : Wr w p v l true) :
    Calls Try.prog 78 #[.pointer (some ⟨p, 0, none⟩), .int .i64 width, .int .i64 n] w fun e w' => e = .returned (.tuple #[]) ∧ Wr w' p v l true ∧ WStep w w' p v v := by
  have c1 := h.c1
  have f1 := h.fz 1
  have hend : ∀ w', w' = w ∨ w' = w.setCell ⟨p, 1, none⟩ (.bool true) → Wr w' p v l true ∧ WStep w w' p v v := by
    rintro w' (rfl | rfl)
    · exact ⟨h, WStep.refl _ _ _⟩
    · exact ⟨h.setBroken true, ⟨(Keeps.refl _ w).setCell (.inl (.inl rfl)) _, fun _ h => .inl h⟩⟩
  rcases hm : mayW width with _ | _
  · go_enter Try.func78, Try.ntmps78
    go_wp2_with (first | (go_at_call 77; refine (slab_may _ _).mono ?_; rintro e w' ⟨rfl, rfl⟩) | (go_at_call 83; refine (slab_top _ _ (by assumption) (by assumption)).mono ?_; rintro e w' ⟨rfl, rfl⟩))
    refine wp_loop_rounds 1 ?_
    rw [rounds_succ]
    go_wp2
    all_goals
      go_end0
      exact ⟨rfl, hend _ (by first | exact .inl rfl | exact .inr rfl)⟩
  · obtain ⟨k, rfl⟩ : ∃ k : Nat, width = k := ⟨width.toNat, by simp [mayW] at hm; omega⟩
    have h1 : 1 ≤ k := by simp [mayW] at hm; omega
    have h7 : k ≤ 7 := by simp [mayW] at hm; omega
    by_cases hn : n < -1
    case' neg => by_cases hn2 : topW k ≤ n
    all_goals
      have hge : (0 : Int) ≤ (k : Int) - 1 := by omega
      go_enter Try.func78, Try.ntmps78
      go_wp2_with (first | (go_at_call 77; refine (slab_may _ _).mono ?_; rintro e w' ⟨rfl, rfl⟩) | (go_at_call 83; refine (slab_top _ _ (by assumption) (by assumption)).mono ?_; rintro e w' ⟨rfl, rfl⟩))
      refine wp_loop_rounds 1 ?_
      rw [rounds_succ]
      go_wp2
      all_goals
        go_end0
        exact ⟨rfl, hend _ (by first | exact .inl rfl | exact .inr rfl)⟩

set_option maxHeartbeats 1000000 in
set_option maxRecDepth 100000 in
theorem num_bad (p : Nat) (v : Value) (l : List UInt8) (width n : Int) (w : World) (h : Wr w p v l false) (hb : badNum width n = true) :
    Calls Try.prog 78 #[.pointer (some ⟨p, 0, none⟩), .int .i64 width, .int .i64 n] w fun e w' => e = .returned (.tuple #[]) ∧ Wr w' p v l true ∧ WStep w w' p v v := by
  have c1 := h.c1
  have f1 := h.fz 1
  have h2 := h.setBroken true
  have h3 : WStep w (w.setCell ⟨p, 1, none⟩ (.bool true)) p v v := ⟨(Keeps.refl _ w).setCell (.inl (.inl rfl)) _, fun _ h => .inl h⟩
  rcases hm : mayW width with _ | _
  · go_enter Try.func78, Try.ntmps78
    go_wp2_with (first | (go_at_call 77; refine (slab_may _ _).mono ?_; rintro e w' ⟨rfl, rfl⟩) | (go_at_call 83; refine (slab_top _ _ (by assumption) (by assumption)).mono ?_; rintro e w' ⟨rfl, rfl⟩))
    refine wp_loop_rounds 1 ?_
    rw [rounds_succ]
    go_wp2
    all_goals
      go_end0
      exact ⟨rfl, h2, h3⟩
  · obtain ⟨k, rfl⟩ : ∃ k : Nat, width = k := ⟨width.toNat, by simp [mayW] at hm; omega⟩
    have h1 : 1 ≤ k := by simp [mayW] at hm; omega
    have h7 : k ≤ 7 := by simp [mayW] at hm; omega
    by_cases hn : n < -1
    case' neg => have hn2 : topW k ≤ n := by simp [badNum, hm] at hb; omega
    all_goals
      have hge : (0 : Int) ≤ (k : Int) - 1 := by omega
      go_enter Try.func78, Try.ntmps78
      go_wp2_with (first | (go_at_call 77; refine (slab_may _ _).mono ?_; rintro e w' ⟨rfl, rfl⟩) | (go_at_call 83; refine (slab_top _ _ (by assumption) (by assumption)).mono ?_; rintro e w' ⟨rfl, rfl⟩))
      refine wp_loop_rounds 1 ?_
      rw [rounds_succ]
      go_wp2
      all_goals
        go_end0
        exact ⟨rfl, h2, h3⟩

theorem num_any (p : Nat) (v : Value) (l : List UInt8) (br : Bool) (width n : Int) (w : World) (h : Wr w p v l br) (hl : l.length ≤ 1099511627776) :
    Calls Try.prog 78 #[.pointer (some ⟨p, 0, none⟩), .int .i64 width, .int .i64 n] w fun e w' => e = .returned (.tuple #[]) ∧ ∃ v', Wr w' p v' (numL l br width n) (br || badNum width n) ∧ WStep w w' p v v' := by
  rcases br with _ | _
  · rcases hb : badNum width n with _ | _
    · have hb2 := hb
      simp only [badNum, Bool.or_eq_false_iff, Bool.not_eq_false', decide_eq_false_iff_not] at hb2
      obtain ⟨⟨hm, hn1⟩, hn2⟩ := hb2
      obtain ⟨k, rfl⟩ : ∃ k : Nat, width = k := ⟨width.toNat, by simp [mayW] at hm; omega⟩
      have := num_good p v l k n w h (by simp [mayW] at hm; omega) (by simp [mayW] at hm; omega) (by omega) (by simpa using hn2) hl
      simpa [numL, hb] using this
    · refine (num_bad p v l width n w h hb).mono ?_
      rintro e w' ⟨rfl, h1, h2⟩
      exact ⟨rfl, v, by simpa [numL, hb] using h1, h2⟩
  · refine (num_broken p v l width n w h).mono ?_
    rintro e w' ⟨rfl, h1, h2⟩
    exact ⟨rfl, v, by simpa [numL] using h1, h2⟩

/-- num over several. -/
def numsL : List UInt8 → Bool → Int → List Int → List UInt8 × Bool
  | l, br, _, [] => (l, br)
  | l, br, width, n :: ns => numsL (numL l br width n) (br || badNum width n) width ns

theorem numL_length (l : List UInt8) (br : Bool) (width n : Int) : (numL l br width n).length ≤ l.length + 7 := by
  unfold numL
  split
  · omega
  · rename_i h
    have : mayW width = true := by
      simp only [badNum, Bool.or_eq_true, not_or, Bool.not_eq_true', Bool.not_eq_true] at h
      simpa using h.2.1.1
    simp [mayW] at this
    rw [List.length_append, be_length]
    omega

set_option maxHeartbeats 1000000 in
set_option maxRecDepth 100000 in
theorem Num_any (p : Nat) (v : Value) (l : List UInt8) (br : Bool) (width : Int) (ns : List Int) (A : Option Addr) (m c : Nat) (w : World) (h : Wr w p v l br) (hr : RI w A m c ns)
    (hsep : 0 < m → ∀ a, A = some a → a.block ≠ p ∧ v.ownBlock ≠ some a.block ∧ a.block < w.heap.size) (hl : l.length + 7 * m ≤ 1099511627776) :
    Calls Try.prog 53 #[.pointer (some ⟨p, 0, none⟩), .int .i64 width, .slice A m c] w fun e w' => e = .returned (.pointer (some ⟨p, 0, none⟩)) ∧
      ∃ v', Wr w' p v' (numsL l (br || !mayW width) width ns).1 (numsL l (br || !mayW width) width ns).2 ∧ WStep w w' p v v' := by
  have c1 := h.c1
  have f1 := h.fz 1
  have hm := hr.max
  have hmc := hr.cap
  unfold maxLen at hm
  have hlen := Lib.hid hr.len
  have h2 := h.setBroken (br || !mayW width)
  have h3 : WStep w (w.setCell ⟨p, 1, none⟩ (.bool (br || !mayW width))) p v v := ⟨(Keeps.refl _ w).setCell (.inl (.inl rfl)) _, fun _ h => .inl h⟩
  rcases br with _ | _ <;> rcases hw : mayW width with _ | _
  all_goals
    simp only [hw, Bool.not_false, Bool.not_true, Bool.or_false, Bool.or_true, Bool.false_or, Bool.true_or] at h2 h3 ⊢
    go_enter Try.func53, Try.ntmps53
    go_wp2_with (go_at_call 77; refine (slab_may _ _).mono ?_; rintro e w' ⟨rfl, rfl⟩)
    go_loopw [23] (fun i wr => ∃ (j : Nat) (v' : Value) (l' : List UInt8) (br' : Bool), j ≤ m ∧ i = .int .i64 j ∧ Wr wr p v' l' br' ∧ WStep w wr p v v' ∧ l'.length ≤ l.length + 7 * j ∧ Hid (numsL l' br' width (ns.drop j) = numsL l _ width ns)) (fun i _ => m - (intOf i).toNat)
    case atStart => exact ⟨0, v, l, _, by omega, rfl, h2, h3, by omega, rfl⟩
    case round =>
      obtain ⟨j, v', l', br', hj, rfl, hwr, hst, hll, hns⟩ := hrel
      by_cases hlt : j < m
      · obtain ⟨g, o, rfl, hc⟩ := hr.at_ (by omega)
        have hs := hsep (by omega) _ rfl
        have hjn : j < ns.length := by rw [hlen.out]; exact hlt
        have hcell : wr.cell? ⟨g, o + j, none⟩ = some (.int .i64 ns[j]) := (World.cell?_of_block (w := w) (hst.keeps.block g hs.2.2 (by rintro (h | h); exact hs.1 h; exact hs.2.1 h))).trans (hc j _ (List.getElem?_eq_getElem hjn))
        have hdrop := Lib.hid (List.drop_eq_getElem_cons hjn)
        obtain ⟨x, hx⟩ : ∃ x, x = ns[j] := ⟨_, rfl⟩
        rw [← hx] at hcell
        have Hx := Lib.hid hx
        clear hx hc
        go_wp2_with fail
        refine (num_any p v' l' br' width x _ hwr (by omega)).mono ?_
        rintro e w2 ⟨rfl, v2, hw2, hs2⟩
        have hl2 := numL_length l' br' width x
        have hst2 := hst.trans hs2
        go_wp2
        go_roundw
        case rel => exact ⟨j + 1, v2, _, _, by omega, by go_num, hw2, hst2, by omega, by have := hns.out; rw [hdrop.out, ← Hx.out] at this; exact this⟩
        case measure => simp [intOf]; omega
      · obtain rfl : j = m := by omega
        go_wp2
        go_ret
        have hd : ns.drop j = [] := List.drop_eq_nil_of_le (by rw [hlen.out]; exact Nat.le_refl _)
        have hns' := hns.out
        rw [hd] at hns'
        rw [← hns']
        exact ⟨rfl, v', hwr, hst⟩
end Go.Proofs.Ytfldmejjepakeaa
