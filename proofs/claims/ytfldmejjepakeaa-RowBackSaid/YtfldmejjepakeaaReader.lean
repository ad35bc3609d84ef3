/- Contracts of slab.Reader and of bytes.Clone. -/
import Derived.Test.YtfldmejjepakeaaBytes
import Derived.Lib.SliceRun
namespace Go.Proofs.Ytfldmejjepakeaa
open Go.ChangeShapes Go.WideShapes Go.ChangeAt Go.RowKit
open Go.ChangeMaps (open_string shut_string)
set_option linter.unusedVariables false
set_option linter.unusedSimpArgs false
set_option maxRecDepth 100000

/-- v is a slice in new memory (from block B on) that reads as l. -/
def Fr (w : World) (B : Nat) (v : Value) (l : List UInt8) : Prop := ∃ A c, v = .slice A l.length c ∧ RB w A l.length c l ∧ (0 < l.length → ∀ a, A = some a → B ≤ a.block)

theorem Fr.nil (w : World) (B : Nat) : Fr w B (.slice none 0 0) [] := ⟨none, 0, rfl, RB.none_ w, fun h => absurd h (by simp)⟩
theorem Fr.of_own {w : World} {B : Nat} {v : Value} {l : List UInt8} (h : OB w B v l) : Fr w B v l := by
  obtain ⟨A, c, rfl, _, _⟩ := h.form
  exact ⟨A, c, rfl, h.reads, fun _ a ha => (h.lt a.block (by rw [ha]; rfl)).1⟩
theorem Fr.of_row {w : World} {B g : Nat} {l : List UInt8} (h : Blk w g (bcells l) 5) (hm : l.length ≤ maxLen) (hB : B ≤ g) : Fr w B (.slice (some ⟨g, 0, none⟩) l.length l.length) l :=
  ⟨_, _, rfl, RB.of_row h hm, fun _ a ha => by injection ha with ha; rw [← ha]; exact hB⟩

theorem clone_some (A : Addr) (n c : Nat) (l : List UInt8) (w : World) (h : RB w (some A) n c l) (hn : n ≤ 70368744177664) :
    Calls Try.prog 81 #[.slice (some A) n c] w fun e w' => ∃ v, e = .returned v ∧ OB w' w.heap.size v l ∧ Below w.heap.size w w' := by
  have hq := Lib.run_eql_slice_nil (P := Try.prog) w 22 5 (some A) n c 0 0 Try.underlying22
  go_enter Try.func81, Try.ntmps81
  go_wp2_with (refine wpList_app rfl (.tmp 5) (.tmp 6) rfl w.heap.size (.slice (some ⟨w.heap.size, 0, none⟩) 0 0) [] l (some A) n c rfl rfl (OB.of_row (Blk.new w (bcells []) 5) (by unfold maxLen; simp) (Nat.le_refl _)) (h.alloc _) (by simpa using hn) (by simp) ?_; intro v2 w2 ha; have hown := ha.own; rw [List.nil_append] at hown)
  obtain ⟨A2, c2, rfl, hc2, hm2⟩ := hown.form
  have b2 : Below w.heap.size w w2 := ((Below.refl w.heap.size w).alloc (Nat.le_refl _) _).keeps ha.keeps (by intro i hi; simp [Value.ownBlock]; omega) (Nat.le_refl _)
  go_wp2
  go_ret
  exact ⟨_, rfl, hown, b2⟩

theorem clone_nil (w : World) : Calls Try.prog 81 #[.slice none 0 0] w fun e w' => e = .returned (.slice none 0 0) ∧ w = w' := by
  have hq := Lib.run_eql_slice_nil (P := Try.prog) w 22 5 none 0 0 0 0 Try.underlying22
  go_enter Try.func81, Try.ntmps81
  go_wp2
  go_ret
  exact ⟨rfl, rfl⟩

theorem clone_any (A : Option Addr) (n c : Nat) (l : List UInt8) (w : World) (h : RB w A n c l) (hn : n ≤ 70368744177664) :
    Calls Try.prog 81 #[.slice A n c] w fun e w' => ∃ v, e = .returned v ∧ OB w' w.heap.size v l ∧ Below w.heap.size w w' := by
  cases A with
  | none =>
    obtain rfl : c = 0 := h.nil rfl
    obtain rfl : n = 0 := by have := h.cap; omega
    obtain rfl : l = [] := List.eq_nil_of_length_eq_zero h.len
    refine (clone_nil w).mono ?_
    rintro e w' ⟨rfl, rfl⟩
    exact ⟨_, rfl, OB.nil _ _, Below.refl _ _⟩
  | some a => exact clone_some a n c l w h hn

/-- A reader: its block p, what is left, its error; all it lies in is below N. -/
structure Rd (w : World) (p N : Nat) (l : List UInt8) (e : Int) : Prop where
  out : ∃ A c, Blk w p #[.slice A l.length c, .int .i64 e] 109 ∧ RB w A l.length c l ∧ (0 < l.length → ∀ a, A = some a → a.block ≠ p ∧ a.block < N)
  ltN : p < N
  leN : N ≤ w.heap.size

theorem Rd.keeps {w w' : World} {p N : Nat} {l : List UInt8} {e : Int} {S : Nat → Prop} (h : Rd w p N l e) (hk : Keeps S w w') (hS : ∀ k, k < N → ¬ S k) : Rd w' p N l e := by
  obtain ⟨⟨A, c, h1, h2, h3⟩, h4, h5⟩ := h
  exact ⟨⟨A, c, h1.keeps hk (hS _ h4), h2.keeps hk (fun hn a ha => hS _ (h3 hn a ha).2), h3⟩, h4, Nat.le_trans h5 hk.size⟩
theorem Rd.below {w w' : World} {p N : Nat} {l : List UInt8} {e : Int} {B : Nat} (h : Rd w p N l e) (hk : Below B w w') (hB : N ≤ B) : Rd w' p N l e :=
  h.keeps (Keeps.of_belowB hk) (fun k hk => by omega)

theorem newReader (A : Option Addr) (n c : Nat) (l : List UInt8) (w : World) (h : RB w A n c l) (hn : n ≤ 70368744177664) :
    Calls Try.prog 67 #[.slice A n c] w fun e w' => ∃ p, e = .returned (.pointer (some ⟨p, 0, none⟩)) ∧ w.heap.size ≤ p ∧ Rd w' p w'.heap.size l 0 ∧ Below w.heap.size w w' := by
  go_enter Try.func67, Try.ntmps67
  go_wp2_with fail
  refine (clone_any A n c l _ h hn).mono ?_
  rintro e w1 ⟨v, rfl, ho, hb⟩
  obtain ⟨A2, c2, rfl, hc2, hm2⟩ := ho.form
  have hbk := Blk.new w1 #[.slice A2 l.length c2, .int .i64 0] 109
  have hlt := ho.lt
  have hr := ho.reads.alloc (.cells #[.slice A2 l.length c2, .int .i64 0] 109)
  have q1 := hb.size
  go_wp2
  go_ret
  refine ⟨_, rfl, q1, ⟨⟨A2, c2, hbk, hr, fun hl a ha => ?_⟩, by simp, Nat.le_refl _⟩, (by repeat (first | exact Below.refl _ _ | assumption | apply below_drewN' | apply Below.drew | refine Below.alloc ?_ (by first | omega | (simp; done) | (simp; omega)) _ | refine Below.setCell ?_ (by first | omega | (simp; done) | (simp; omega)) _))⟩
  have := hlt a.block (by rw [ha]; rfl)
  simp
  omega

/-- What an error has become. -/
def failE (e x : Int) : Int := if e = 0 then x else e

theorem fails_calls (p N : Nat) (l : List UInt8) (e x : Int) (w : World) (h : Rd w p N l e) :
    Calls Try.prog 82 #[.pointer (some ⟨p, 0, none⟩), .int .i64 x] w fun r w' => r = .returned (.tuple #[]) ∧ Rd w' p N l (failE e x) ∧ Keeps (fun k => k = p) w w' := by
  obtain ⟨⟨A, c, h1, h2, h3⟩, h4, h5⟩ := h
  have c1 := h1.cell 1 (v := .int .i64 e) rfl
  have f1 := h1.fz 1
  by_cases he : e = 0
  · subst he
    go_enter Try.func82, Try.ntmps82
    go_wp2
    go_end0
    have hk : Keeps (fun k => k = p) w (w.setCell ⟨p, 1, none⟩ (.int .i64 x)) := (Keeps.refl (fun k => k = p) w).setCell (.inl rfl) _
    exact ⟨rfl, ⟨⟨A, c, h1.set 1 _, h2.keeps hk (fun hn a ha => (h3 hn a ha).1), h3⟩, h4, Nat.le_trans h5 hk.size⟩, hk⟩
  · have hb : (e == 0) = false := by rw [beq_eq_false_iff_ne]; exact he
    go_enter Try.func82, Try.ntmps82
    go_wp2
    go_end0
    exact ⟨rfl, by simp only [failE, he, if_false]; exact ⟨⟨A, c, h1, h2, h3⟩, h4, h5⟩, Keeps.refl _ _⟩

/-- The error behind a Raw of n bytes. -/
def rawE (l : List UInt8) (e n : Int) : Int := if n < 0 then failE e 1 else if (l.length : Int) < n then failE e 3 else e

theorem raw_err (p N : Nat) (l : List UInt8) (e n : Int) (w : World) (h : Rd w p N l e) (he : rawE l e n ≠ 0) :
    Calls Try.prog 69 #[.pointer (some ⟨p, 0, none⟩), .int .i64 n] w fun r w' => r = .returned (.slice none 0 0) ∧ Rd w' p N l (rawE l e n) ∧ Keeps (fun k => k = p) w w' := by
  obtain ⟨⟨A, c, h1, h2, h3⟩, h4, h5⟩ := id h
  have c0 := h1.cell 0 (v := .slice A l.length c) rfl
  have c1 := h1.cell 1 (v := .int .i64 e) rfl
  by_cases hn : n < 0
  · have e1 : rawE l e n = failE e 1 := by simp [rawE, hn]
    rw [e1] at he ⊢
    go_enter Try.func69, Try.ntmps69
    go_wp2_with fail
    refine (fails_calls p N l e 1 w h).mono ?_
    rintro r w1 ⟨rfl, hr1, hk1⟩
    obtain ⟨⟨A1, c1', h11, _, _⟩, _, _⟩ := id hr1
    have d1 := h11.cell 1 (v := .int .i64 (failE e 1)) rfl
    have hne : (failE e 1 != 0) = true := by rw [bne_iff_ne]; exact he
    go_wp2
    go_ret
    exact ⟨rfl, hr1, hk1⟩
  · by_cases hn2 : (l.length : Int) < n
    · have e1 : rawE l e n = failE e 3 := by simp [rawE, hn, hn2]
      rw [e1] at he ⊢
      go_enter Try.func69, Try.ntmps69
      go_wp2_with fail
      refine (fails_calls p N l e 3 w h).mono ?_
      rintro r w1 ⟨rfl, hr1, hk1⟩
      obtain ⟨⟨A1, c1', h11, _, _⟩, _, _⟩ := id hr1
      have d1 := h11.cell 1 (v := .int .i64 (failE e 3)) rfl
      have hne : (failE e 3 != 0) = true := by rw [bne_iff_ne]; exact he
      go_wp2
      go_ret
      exact ⟨rfl, hr1, hk1⟩
    · have e1 : rawE l e n = e := by simp [rawE, hn, hn2]
      rw [e1] at he ⊢
      have hne : (e != 0) = true := by rw [bne_iff_ne]; exact he
      go_enter Try.func69, Try.ntmps69
      go_wp2
      go_ret
      exact ⟨rfl, h, Keeps.refl _ _⟩

theorem raw_ok (p N : Nat) (l : List UInt8) (n : Nat) (w : World) (h : Rd w p N l 0) (hn : n ≤ l.length) (hl : l.length ≤ 70368744177664) :
    Calls Try.prog 69 #[.pointer (some ⟨p, 0, none⟩), .int .i64 n] w fun r w' => ∃ v, r = .returned v ∧ OB w' w.heap.size v (l.take n) ∧ Rd w' p N (l.drop n) 0 ∧ Keeps (fun k => k = p) w w' := by
  obtain ⟨⟨A, c, h1, h2, h3⟩, h4, h5⟩ := id h
  have c0 := h1.cell 0 (v := .slice A l.length c) rfl
  have c1 := h1.cell 1 (v := .int .i64 0) rfl
  have f0 := h1.fz 0
  have hcap := h2.cap
  have hmax := h2.max
  go_enter Try.func69, Try.ntmps69
  go_wp2_with fail
  refine (clone_any A n c _ w (h2.take n hn) (by omega)).mono ?_
  rintro e w1 ⟨v, rfl, ho, hb⟩
  obtain ⟨A2, c2, rfl, hc2, hm2⟩ := ho.form
  have hb1 := h1.below hb h1.lt
  have d0 := hb1.cell 0 (v := .slice A l.length c) rfl
  have g0 := hb1.fz 0
  unfold maxLen at hmax
  have hk : ∀ u, Keeps (fun k => k = p) w (w1.setCell ⟨p, 0, none⟩ u) := fun u => (Keeps.of_below (S := fun k => k = p) hb).setCell (p := ⟨p, 0, none⟩) (.inl rfl) u
  have hlt := h1.lt
  have hown : ∀ u, OB (w1.setCell ⟨p, 0, none⟩ u) w.heap.size (.slice A2 (l.take n).length c2) (l.take n) := fun u =>
    ho.kept (S := fun k => k = p) ((Keeps.refl (fun k => k = p) w1).setCell (.inl rfl) _) (fun k hk e => by have := (ho.lt k hk).1; omega)
  have hln : (l.take n).length = n := by rw [List.length_take]; omega
  rw [hln] at hown
  go_wp2
  case inl =>
    rename_i hcn
    have e0 : l.length - n = 0 := by omega
    go_ret
    refine ⟨_, rfl, hown _, ⟨⟨A, 0, ?_, ?_, fun hn a ha => absurd hn (by simp; omega)⟩, h4, Nat.le_trans h5 (hk _).size⟩, hk _⟩
    · rw [List.length_drop]
      exact hb1.set 0 _
    · rw [List.length_drop, e0, List.drop_eq_nil_of_le (by omega)]
      exact RB.empty _ _
  case inr =>
    go_ret
    refine ⟨_, rfl, hown _, ⟨⟨A.map (fun x => x.add n), c - n, ?_, ?_, ?_⟩, h4, Nat.le_trans h5 (hk _).size⟩, hk _⟩
    · rw [List.length_drop]
      exact hb1.set 0 _
    · have := (h2.dropA n hn).keeps (hk (.slice (A.map (fun x => x.add n)) (l.length - n) (c - n))) (fun h0 => RB.blockA (S := fun k => ¬ k = p) (fun a ha => (h3 (by omega) a ha).1) n)
      rw [List.length_drop]
      exact this
    · intro h0
      rw [List.length_drop] at h0
      exact RB.blockA (S := fun k => k ≠ p ∧ k < N) (fun a ha => h3 (by omega) a ha) n
end Go.Proofs.Ytfldmejjepakeaa
