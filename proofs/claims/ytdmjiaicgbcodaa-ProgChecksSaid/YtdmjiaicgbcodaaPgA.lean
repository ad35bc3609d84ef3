/- Contracts of package prog: small ones, counts. -/
import Derived.Test.YtdmjiaicgbcodaaOps
import Derived.Test.YtdmjiaicgbcodaaLayA
namespace Go.Proofs.Ytdmjiaicgbcodaa
open Go.ChangeShapes Go.WideShapes Go.ChangeAt Go.RowKit
open Go.ChangeMaps (open_string shut_string)
set_option linter.unusedVariables false
set_option linter.unusedSimpArgs false

theorem prog_within (n lo hi : Int) (b : Bool) (w : World) (hb : inR n lo hi = b) : Calls Try.prog 71 #[.int .i64 n, .int .i64 lo, .int .i64 hi] w fun e w' => e = .returned (.bool b) ∧ Below w.heap.size w w' := by
  have hh := Lib.hid hb
  clear hb
  by_cases h1 : lo ≤ n
  · go_enter Try.func71, Try.ntmps71
    go_wp2
    go_ret
    exact ⟨by rw [← hh.out]; simp [inR, h1], (by repeat (first | exact Below.refl _ _ | assumption | apply below_drewN' | apply Below.drew | refine Below.alloc ?_ (by first | omega | (simp; done) | (simp; omega)) _ | refine Below.setCell ?_ (by first | omega | (simp; done) | (simp; omega)) _))⟩
  · go_enter Try.func71, Try.ntmps71
    go_wp2
    go_ret
    exact ⟨by rw [← hh.out, inR, decide_eq_false (by omega)]; rfl, (by repeat (first | exact Below.refl _ _ | assumption | apply below_drewN' | apply Below.drew | refine Below.alloc ?_ (by first | omega | (simp; done) | (simp; omega)) _ | refine Below.setCell ?_ (by first | omega | (simp; done) | (simp; omega)) _))⟩
def readK (k : Int) : Bool := k == 1 || k == 5
def writeK (k : Int) : Bool := inR k 2 4
theorem prog_reads (k : Int) (b : Bool) (w : World) (hb : readK k = b) : Calls Try.prog 75 #[.int .i64 k] w fun e w' => e = .returned (.bool b) ∧ Below w.heap.size w w' := by
  have hh := Lib.hid hb
  clear hb
  by_cases h1 : k = 1
  · have e1 : (k == 1) = true := by rw [beq_iff_eq]; exact h1
    go_enter Try.func75, Try.ntmps75
    go_wp2
    go_ret
    exact ⟨by rw [← hh.out, readK, e1]; rfl, (by repeat (first | exact Below.refl _ _ | assumption | apply below_drewN' | apply Below.drew | refine Below.alloc ?_ (by first | omega | (simp; done) | (simp; omega)) _ | refine Below.setCell ?_ (by first | omega | (simp; done) | (simp; omega)) _))⟩
  · have e1 : (k == 1) = false := by rw [beq_eq_false_iff_ne]; exact h1
    by_cases h2 : k = 5
    · have e2 : (k == 5) = true := by rw [beq_iff_eq]; exact h2
      go_enter Try.func75, Try.ntmps75
      go_wp2
      go_ret
      exact ⟨by rw [← hh.out, readK, e1, e2]; rfl, (by repeat (first | exact Below.refl _ _ | assumption | apply below_drewN' | apply Below.drew | refine Below.alloc ?_ (by first | omega | (simp; done) | (simp; omega)) _ | refine Below.setCell ?_ (by first | omega | (simp; done) | (simp; omega)) _))⟩
    · have e2 : (k == 5) = false := by rw [beq_eq_false_iff_ne]; exact h2
      go_enter Try.func75, Try.ntmps75
      go_wp2
      go_ret
      exact ⟨by rw [← hh.out, readK, e1, e2]; rfl, (by repeat (first | exact Below.refl _ _ | assumption | apply below_drewN' | apply Below.drew | refine Below.alloc ?_ (by first | omega | (simp; done) | (simp; omega)) _ | refine Below.setCell ?_ (by first | omega | (simp; done) | (simp; omega)) _))⟩
theorem prog_writes (k : Int) (b : Bool) (w : World) (hb : writeK k = b) : Calls Try.prog 76 #[.int .i64 k] w fun e w' => e = .returned (.bool b) ∧ Below w.heap.size w w' := by
  have HW := Lib.hid (fun w => prog_within k 2 4 b w hb)
  clear hb
  go_enter Try.func76, Try.ntmps76
  go_wp2_with fail
  refine (HW.out _).mono ?_
  rintro e w2 ⟨rfl, hb⟩
  go_wp2
  go_ret
  exact ⟨rfl, hb⟩

/-- How many operations are of a sort. -/
def countK (f : Int → Bool) (L : List OpR) : Nat := (L.filter fun q => f q.k).length
theorem countK_next {f : Int → Bool} {L : List OpR} {i : Nat} {q : OpR} (h : L[i]? = some q) : countK f (L.take (i + 1)) = countK f (L.take i) + if f q.k then 1 else 0 := by
  have hi := (List.getElem?_eq_some_iff.1 h).1
  have hq := (List.getElem?_eq_some_iff.1 h).2
  unfold countK
  rw [List.take_succ_eq_append_getElem hi, List.filter_append, List.length_append, hq]
  congr 1
  cases hf : f q.k <;> simp [hf]
theorem countK_le (f : Int → Bool) (L : List OpR) : countK f L ≤ L.length := List.length_filter_le _ _
set_option maxHeartbeats 1000000 in
set_option maxRecDepth 100000 in
theorem count_reads (A : Option Addr) (n c : Nat) (L : List OpR) (w : World) (h : RO w A n c L) : Calls Try.prog 74 #[.slice A n c, .func (.func 75) #[] #[]] w fun e w' => e = .returned (.int .i64 (countK readK L)) ∧ Below w.heap.size w w' := by
  have hLn := h.len
  have hnm : n ≤ maxLen := Nat.le_trans h.cap h.max
  unfold maxLen at hnm
  go_enter Try.func74, Try.ntmps74
  go_wp2
  go_loopw [5, 10] (fun s i wr => ∃ k : Nat, k ≤ n ∧ i = .int .i64 k ∧ s = .int .i64 (countK readK (L.take k)) ∧ Below w.heap.size w wr) (fun s i _ => n - (intOf i).toNat)
  case atStart => exact ⟨0, by omega, rfl, rfl, (by repeat (first | exact Below.refl _ _ | assumption | apply below_drewN' | apply Below.drew | refine Below.alloc ?_ (by first | omega | (simp; done) | (simp; omega)) _ | refine Below.setCell ?_ (by first | omega | (simp; done) | (simp; omega)) _))⟩
  case round =>
    obtain ⟨k, hk, rfl, rfl, bl⟩ := hrel
    by_cases hlt : k < n
    · obtain ⟨q, hq⟩ : ∃ q, L[k]? = some q := ⟨_, List.getElem?_eq_getElem (by omega)⟩
      obtain ⟨g, o, rfl, hc⟩ := (h.below bl).at_ (by omega)
      obtain ⟨B, m, kk, hE, hcs⟩ := hc k q hq
      have hnx := Lib.hid (countK_next (f := readK) hq)
      have hle := countK_le readK (L.take k)
      rw [List.length_take] at hle
      clear hc hq
      generalize countK readK (L.take k) = s at *
      obtain ⟨b, hb⟩ : ∃ b, readK q.k = b := ⟨_, rfl⟩
      have HF := Lib.hid (fun w => prog_reads q.k b w hb)
      have o0 : wr.cell? ⟨g, o + k * 6, none⟩ = some (.int .i64 q.k) := hcs 0 (.int .i64 q.k) rfl; have o1 := hcs 1 (.int .i64 q.r) rfl; have o2 := hcs 2 (.int .i64 q.t) rfl; have o3 := hcs 3 (.int .i64 q.c) rfl; have o4 := hcs 4 (.int .i64 q.l) rfl; have o5 := hcs 5 (.slice B m kk) rfl
      clear hcs hE
      have bl2 := bl.alloc bl.size (.cells #[.int .i64 q.k, .int .i64 q.r, .int .i64 q.t, .int .i64 q.c, .int .i64 q.l, .slice B m kk] 51)
      have hbh := Lib.hid hb
      clear hb
      go_wp2_with fail
      refine (HF.out _).mono ?_
      rintro e w2 ⟨rfl, hb2⟩
      replace bl2 := bnext bl2 hb2
      cases b with
      | true =>
        go_wp2
        go_roundw
        case rel => exact ⟨k + 1, by omega, by go_num, (by rw [hnx.out, hbh.out]; rfl), bl2⟩
        case measure => simp [intOf]; omega
      | false =>
        go_wp2
        go_roundw
        case rel => exact ⟨k + 1, by omega, by go_num, (by rw [hnx.out, hbh.out]; rfl), bl2⟩
        case measure => simp [intOf]; omega
    · have hkn : n = k := by omega
      subst hkn
      rw [List.take_of_length_le (by omega)]
      go_wp2
      go_ret
      exact ⟨rfl, bl⟩
set_option maxHeartbeats 1000000 in
set_option maxRecDepth 100000 in
theorem count_writes (A : Option Addr) (n c : Nat) (L : List OpR) (w : World) (h : RO w A n c L) : Calls Try.prog 74 #[.slice A n c, .func (.func 76) #[] #[]] w fun e w' => e = .returned (.int .i64 (countK writeK L)) ∧ Below w.heap.size w w' := by
  have hLn := h.len
  have hnm : n ≤ maxLen := Nat.le_trans h.cap h.max
  unfold maxLen at hnm
  go_enter Try.func74, Try.ntmps74
  go_wp2
  go_loopw [5, 10] (fun s i wr => ∃ k : Nat, k ≤ n ∧ i = .int .i64 k ∧ s = .int .i64 (countK writeK (L.take k)) ∧ Below w.heap.size w wr) (fun s i _ => n - (intOf i).toNat)
  case atStart => exact ⟨0, by omega, rfl, rfl, (by repeat (first | exact Below.refl _ _ | assumption | apply below_drewN' | apply Below.drew | refine Below.alloc ?_ (by first | omega | (simp; done) | (simp; omega)) _ | refine Below.setCell ?_ (by first | omega | (simp; done) | (simp; omega)) _))⟩
  case round =>
    obtain ⟨k, hk, rfl, rfl, bl⟩ := hrel
    by_cases hlt : k < n
    · obtain ⟨q, hq⟩ : ∃ q, L[k]? = some q := ⟨_, List.getElem?_eq_getElem (by omega)⟩
      obtain ⟨g, o, rfl, hc⟩ := (h.below bl).at_ (by omega)
      obtain ⟨B, m, kk, hE, hcs⟩ := hc k q hq
      have hnx := Lib.hid (countK_next (f := writeK) hq)
      have hle := countK_le writeK (L.take k)
      rw [List.length_take] at hle
      clear hc hq
      generalize countK writeK (L.take k) = s at *
      obtain ⟨b, hb⟩ : ∃ b, writeK q.k = b := ⟨_, rfl⟩
      have HF := Lib.hid (fun w => prog_writes q.k b w hb)
      have o0 : wr.cell? ⟨g, o + k * 6, none⟩ = some (.int .i64 q.k) := hcs 0 (.int .i64 q.k) rfl; have o1 := hcs 1 (.int .i64 q.r) rfl; have o2 := hcs 2 (.int .i64 q.t) rfl; have o3 := hcs 3 (.int .i64 q.c) rfl; have o4 := hcs 4 (.int .i64 q.l) rfl; have o5 := hcs 5 (.slice B m kk) rfl
      clear hcs hE
      have bl2 := bl.alloc bl.size (.cells #[.int .i64 q.k, .int .i64 q.r, .int .i64 q.t, .int .i64 q.c, .int .i64 q.l, .slice B m kk] 51)
      have hbh := Lib.hid hb
      clear hb
      go_wp2_with fail
      refine (HF.out _).mono ?_
      rintro e w2 ⟨rfl, hb2⟩
      replace bl2 := bnext bl2 hb2
      cases b with
      | true =>
        go_wp2
        go_roundw
        case rel => exact ⟨k + 1, by omega, by go_num, (by rw [hnx.out, hbh.out]; rfl), bl2⟩
        case measure => simp [intOf]; omega
      | false =>
        go_wp2
        go_roundw
        case rel => exact ⟨k + 1, by omega, by go_num, (by rw [hnx.out, hbh.out]; rfl), bl2⟩
        case measure => simp [intOf]; omega
    · have hkn : n = k := by omega
      subst hkn
      rw [List.take_of_length_le (by omega)]
      go_wp2
      go_ret
      exact ⟨rfl, bl⟩
theorem prog_Reads (A : Option Addr) (n c : Nat) (L : List OpR) (w : World) (h : RO w A n c L) : Calls Try.prog 30 #[.slice A n c] w fun e w' => e = .returned (.int .i64 (countK readK L)) ∧ Below w.heap.size w w' := by
  have HC := Lib.hid (fun w h => count_reads A n c L w h)
  go_enter Try.func30, Try.ntmps30
  go_wp2_with fail
  refine (HC.out _ h).mono ?_
  rintro e w2 ⟨rfl, hb⟩
  go_wp2
  go_ret
  exact ⟨rfl, hb⟩
theorem prog_Writes (A : Option Addr) (n c : Nat) (L : List OpR) (w : World) (h : RO w A n c L) : Calls Try.prog 32 #[.slice A n c] w fun e w' => e = .returned (.int .i64 (countK writeK L)) ∧ Below w.heap.size w w' := by
  have HC := Lib.hid (fun w h => count_writes A n c L w h)
  go_enter Try.func32, Try.ntmps32
  go_wp2_with fail
  refine (HC.out _ h).mono ?_
  rintro e w2 ⟨rfl, hb⟩
  go_wp2
  go_ret
  exact ⟨rfl, hb⟩

/-- May an operation have so many arguments? such a limit? -/
def argsK (kinds kind n : Int) : Bool := if kind = 1 ∨ kind = 4 then n == 1 else if kind = 2 ∨ kind = 3 then n == kinds else if kind = 5 ∨ kind = 6 then n == 2 else decide (n ≤ 4)
def limitK (read kind n : Int) : Bool := if kind = 5 then inR n 1 read else if kind = 6 then inR n 0 1 else n == 0
theorem prog_args (A : Option Addr) (m c : Nat) (kind n : Int) (b : Bool) (w : World) (hb : argsK m kind n = b) : Calls Try.prog 92 #[.slice A m c, .int .i64 kind, .int .i64 n] w fun e w' => e = .returned (.bool b) ∧ Below w.heap.size w w' := by
  unfold argsK at hb
  by_cases k1 : kind = 1
  · rw [if_pos (.inl k1)] at hb
    subst k1
    have hh := Lib.hid hb; clear hb; go_enter Try.func92, Try.ntmps92; go_wp2; go_ret; exact ⟨(show Ending.returned (.bool (n == 1)) = .returned (.bool b) from by rw [hh.out]), (by repeat (first | exact Below.refl _ _ | assumption | apply below_drewN' | apply Below.drew | refine Below.alloc ?_ (by first | omega | (simp; done) | (simp; omega)) _ | refine Below.setCell ?_ (by first | omega | (simp; done) | (simp; omega)) _))⟩
  have f1 : (kind == 1) = false := by rw [beq_eq_false_iff_ne]; exact k1
  by_cases k4 : kind = 4
  · rw [if_pos (.inr k4)] at hb
    subst k4
    have hh := Lib.hid hb; clear hb; go_enter Try.func92, Try.ntmps92; go_wp2; go_ret; exact ⟨(show Ending.returned (.bool (n == 1)) = .returned (.bool b) from by rw [hh.out]), (by repeat (first | exact Below.refl _ _ | assumption | apply below_drewN' | apply Below.drew | refine Below.alloc ?_ (by first | omega | (simp; done) | (simp; omega)) _ | refine Below.setCell ?_ (by first | omega | (simp; done) | (simp; omega)) _))⟩
  have f4 : (kind == 4) = false := by rw [beq_eq_false_iff_ne]; exact k4
  rw [if_neg (by omega)] at hb
  by_cases k2 : kind = 2
  · rw [if_pos (.inl k2)] at hb
    subst k2
    have hh := Lib.hid hb; clear hb; go_enter Try.func92, Try.ntmps92; go_wp2; go_ret; exact ⟨(show Ending.returned (.bool (n == (m : Int))) = .returned (.bool b) from by rw [hh.out]), (by repeat (first | exact Below.refl _ _ | assumption | apply below_drewN' | apply Below.drew | refine Below.alloc ?_ (by first | omega | (simp; done) | (simp; omega)) _ | refine Below.setCell ?_ (by first | omega | (simp; done) | (simp; omega)) _))⟩
  have f2 : (kind == 2) = false := by rw [beq_eq_false_iff_ne]; exact k2
  by_cases k3 : kind = 3
  · rw [if_pos (.inr k3)] at hb
    subst k3
    have hh := Lib.hid hb; clear hb; go_enter Try.func92, Try.ntmps92; go_wp2; go_ret; exact ⟨(show Ending.returned (.bool (n == (m : Int))) = .returned (.bool b) from by rw [hh.out]), (by repeat (first | exact Below.refl _ _ | assumption | apply below_drewN' | apply Below.drew | refine Below.alloc ?_ (by first | omega | (simp; done) | (simp; omega)) _ | refine Below.setCell ?_ (by first | omega | (simp; done) | (simp; omega)) _))⟩
  have f3 : (kind == 3) = false := by rw [beq_eq_false_iff_ne]; exact k3
  rw [if_neg (by omega)] at hb
  by_cases k5 : kind = 5
  · rw [if_pos (.inl k5)] at hb
    subst k5
    have hh := Lib.hid hb; clear hb; go_enter Try.func92, Try.ntmps92; go_wp2; go_ret; exact ⟨(show Ending.returned (.bool (n == 2)) = .returned (.bool b) from by rw [hh.out]), (by repeat (first | exact Below.refl _ _ | assumption | apply below_drewN' | apply Below.drew | refine Below.alloc ?_ (by first | omega | (simp; done) | (simp; omega)) _ | refine Below.setCell ?_ (by first | omega | (simp; done) | (simp; omega)) _))⟩
  have f5 : (kind == 5) = false := by rw [beq_eq_false_iff_ne]; exact k5
  by_cases k6 : kind = 6
  · rw [if_pos (.inr k6)] at hb
    subst k6
    have hh := Lib.hid hb; clear hb; go_enter Try.func92, Try.ntmps92; go_wp2; go_ret; exact ⟨(show Ending.returned (.bool (n == 2)) = .returned (.bool b) from by rw [hh.out]), (by repeat (first | exact Below.refl _ _ | assumption | apply below_drewN' | apply Below.drew | refine Below.alloc ?_ (by first | omega | (simp; done) | (simp; omega)) _ | refine Below.setCell ?_ (by first | omega | (simp; done) | (simp; omega)) _))⟩
  have f6 : (kind == 6) = false := by rw [beq_eq_false_iff_ne]; exact k6
  rw [if_neg (by omega)] at hb
  have hh := Lib.hid hb; clear hb; go_enter Try.func92, Try.ntmps92; go_wp2; go_ret; exact ⟨(show Ending.returned (.bool (decide (n ≤ 4))) = .returned (.bool b) from by rw [hh.out]), (by repeat (first | exact Below.refl _ _ | assumption | apply below_drewN' | apply Below.drew | refine Below.alloc ?_ (by first | omega | (simp; done) | (simp; omega)) _ | refine Below.setCell ?_ (by first | omega | (simp; done) | (simp; omega)) _))⟩
theorem prog_limit (x : Cfg) (A : Option Addr) (m c : Nat) (kind n : Int) (b : Bool) (w : World) (hb : limitK x.d kind n = b) : Calls Try.prog 91 #[.agg #[.int .i64 x.h, .int .i64 x.z, .int .i64 x.b, .int .i64 x.r, .int .i64 x.d, .int .i64 x.e, .int .i64 x.s, .int .i64 x.p, .int .i64 x.q, .int .i64 x.t, .slice A m c], .int .i64 kind, .int .i64 n] w fun e w' => e = .returned (.bool b) ∧ Below w.heap.size w w' := by
  unfold limitK at hb
  have bb : Below w.heap.size w (w.alloc (.cells #[.int .i64 x.h, .int .i64 x.z, .int .i64 x.b, .int .i64 x.r, .int .i64 x.d, .int .i64 x.e, .int .i64 x.s, .int .i64 x.p, .int .i64 x.q, .int .i64 x.t, .slice A m c] 24)) := (by repeat (first | exact Below.refl _ _ | assumption | apply below_drewN' | apply Below.drew | refine Below.alloc ?_ (by first | omega | (simp; done) | (simp; omega)) _ | refine Below.setCell ?_ (by first | omega | (simp; done) | (simp; omega)) _))
  by_cases k5 : kind = 5
  · rw [if_pos k5] at hb
    subst k5
    have HW := Lib.hid (fun w => prog_within n 1 x.d b w hb)
    clear hb
    go_enter Try.func91, Try.ntmps91
    go_wp2_with fail
    refine (HW.out _).mono ?_
    rintro e w2 ⟨rfl, hb⟩
    go_wp2
    go_ret
    exact ⟨rfl, bnext bb hb⟩
  have f5 : (kind == 5) = false := by rw [beq_eq_false_iff_ne]; exact k5
  rw [if_neg k5] at hb
  by_cases k6 : kind = 6
  · rw [if_pos k6] at hb
    subst k6
    have HW := Lib.hid (fun w => prog_within n 0 1 b w hb)
    clear hb
    go_enter Try.func91, Try.ntmps91
    go_wp2_with fail
    refine (HW.out _).mono ?_
    rintro e w2 ⟨rfl, hb⟩
    go_wp2
    go_ret
    exact ⟨rfl, bnext bb hb⟩
  have f6 : (kind == 6) = false := by rw [beq_eq_false_iff_ne]; exact k6
  rw [if_neg k6] at hb
  have hh := Lib.hid hb
  clear hb
  go_enter Try.func91, Try.ntmps91
  go_wp2
  go_ret
  exact ⟨(show Ending.returned (.bool (n == 0)) = .returned (.bool b) from by rw [hh.out]), bb⟩
end Go.Proofs.Ytdmjiaicgbcodaa
