/- Blocks alike: bucket.Same, and the document's. -/
import Derived.Test.YtfldmejjepakeaaBkD
import Derived.Test.YtfldmejjepakeaaBytesEq
namespace Go.Proofs.Ytfldmejjepakeaa
open Go.ChangeShapes Go.WideShapes Go.ChangeAt Go.RowKit
open Go.ChangeMaps (open_string shut_string)
set_option linter.unusedVariables false
set_option linter.unusedSimpArgs false
set_option maxRecDepth 100000
open Go.Deep

def same1 (a b : BlkR) : Bool := a.id == b.id && a.d == b.d
/-- Are all alike? -/
def sameK (L M : List BlkR) : Bool := L.length == M.length && (List.range L.length).all fun i => same1 (L.getD i default) (M.getD i default)
theorem same1_iff {a b : BlkR} : same1 a b = true ↔ a = b := by
  cases a; cases b
  simp [same1]
theorem sameK_len {L M : List BlkR} (h : L.length ≠ M.length) : sameK L M = false := by
  unfold sameK
  rw [beq_eq_false_iff_ne.2 h]
  rfl
theorem sameK_no {L M : List BlkR} {i : Nat} {a b : BlkR} (ha : L[i]? = some a) (hb : M[i]? = some b) (h : same1 a b = false) : sameK L M = false := by
  have hi := (List.getElem?_eq_some_iff.1 ha).1
  unfold sameK
  rw [Bool.and_eq_false_iff]
  right
  rw [List.all_eq_false]
  refine ⟨i, List.mem_range.2 hi, ?_⟩
  simp [List.getD, ha, hb, h]
theorem sameK_yes {L M : List BlkR} (hl : L.length = M.length) (h : ∀ i a b, i < L.length → L[i]? = some a → M[i]? = some b → same1 a b = true) : sameK L M = true := by
  unfold sameK
  rw [hl, beq_self_eq_true, Bool.true_and, List.all_eq_true]
  intro i hi
  have hi := List.mem_range.1 hi
  have h1 := List.getElem?_eq_getElem (l := L) (by omega : i < L.length)
  have h2 := List.getElem?_eq_getElem hi
  simp only [List.getD, h1, h2, Option.getD_some]
  exact h i _ _ (by omega) h1 h2
theorem sameK_iff {L M : List BlkR} : sameK L M = true ↔ L = M := by
  constructor
  · intro h
    have hl : L.length = M.length := by
      rcases Nat.lt_trichotomy L.length M.length with hh | hh | hh
      · rw [sameK_len (by omega)] at h; cases h
      · exact hh
      · rw [sameK_len (by omega)] at h; cases h
    apply List.ext_getElem? 
    intro i
    by_cases hi : i < L.length
    · have h1 := List.getElem?_eq_getElem hi
      have h2 := List.getElem?_eq_getElem (l := M) (by omega : i < M.length)
      rw [h1, h2]
      by_cases hs : same1 L[i] M[i] = true
      · rw [same1_iff.1 hs]
      · rw [sameK_no h1 h2 (by simpa using hs)] at h; cases h
    · rw [List.getElem?_eq_none (by omega), List.getElem?_eq_none (by omega)]
  · rintro rfl
    exact sameK_yes rfl (fun i a b _ ha hb => by rw [ha] at hb; injection hb with hb; rw [hb]; exact same1_iff.2 rfl)
theorem bucket_same (a b : BlkR) (A : Option Addr) (n c : Nat) (A2 : Option Addr) (n2 c2 : Nat) (r : Bool) (w : World) (h : RB w A n c a.d) (h2 : RB w A2 n2 c2 b.d) (hr : same1 a b = r) :
    Calls Try.prog 58 #[.agg #[.int .i64 a.id, .slice A n c], .agg #[.int .i64 b.id, .slice A2 n2 c2]] w fun e w' => e = .returned (.bool r) ∧ Below w.heap.size w w' := by
  have bb : Below w.heap.size w ((w.alloc (.cells #[.int .i64 a.id, .slice A n c] 70)).alloc (.cells #[.int .i64 b.id, .slice A2 n2 c2] 70)) := (by repeat (first | exact Below.refl _ _ | assumption | apply below_drewN' | apply Below.drew | refine Below.alloc ?_ (by first | omega | (simp; done) | (simp; omega)) _ | refine Below.setCell ?_ (by first | omega | (simp; done) | (simp; omega)) _))
  obtain ⟨y, hy⟩ : ∃ y, (a.d == b.d) = y := ⟨_, rfl⟩
  have HE := Lib.hid (fun w (h : RB w A n c a.d) (h2 : RB w A2 n2 c2 b.d) => hy ▸ bytes_equal A A2 n c n2 c2 a.d b.d w h h2)
  unfold same1 at hr
  rw [hy] at hr
  have hr := Lib.hid hr
  clear hy
  by_cases e : a.id = b.id
  · have e1 : (a.id == b.id) = true := by rw [beq_iff_eq]; exact e
    have e2 := Lib.hid e1
    clear e
    go_enter Try.func58, Try.ntmps58
    go_wp2_with fail
    refine (HE.out _ (h.below bb) (h2.below bb)).mono ?_
    rintro x w2 ⟨rfl, rfl⟩
    go_wp2
    go_ret
    exact ⟨(show Ending.returned (.bool y) = .returned (.bool r) from by rw [← hr.out, e2.out]; rfl), bb⟩
  · have e1 : (a.id == b.id) = false := by rw [beq_eq_false_iff_ne]; exact e
    have e2 := Lib.hid e1
    go_enter Try.func58, Try.ntmps58
    go_wp2
    go_ret
    exact ⟨(show Ending.returned (.bool false) = .returned (.bool r) from by rw [← hr.out, e2.out]; rfl), bb⟩
set_option maxHeartbeats 4000000 in
theorem bucket_equal (A : Option Addr) (n c : Nat) (L : List BlkR) (A2 : Option Addr) (n2 c2 : Nat) (M : List BlkR) (w : World) (h : RK w A n c L) (h2 : RK w A2 n2 c2 M) :
    Calls Try.prog 57 #[.slice A n c, .slice A2 n2 c2, .func (.func 58) #[] #[]] w fun e w' => e = .returned (.bool (sameK L M)) ∧ Below w.heap.size w w' := by
  obtain ⟨R, hR⟩ : ∃ R, sameK L M = R := ⟨_, rfl⟩
  rw [hR]
  have hres := Lib.hid hR
  clear hR
  have hnm : n ≤ maxLen := Nat.le_trans h.cap h.max
  have hnm2 : n2 ≤ maxLen := Nat.le_trans h2.cap h2.max
  unfold maxLen at hnm hnm2
  have hLn := h.len
  have hMn := h2.len
  by_cases hl : n = n2
  rotate_left
  · have hno := Lib.hid (sameK_len (L := L) (M := M) (by omega))
    have e1 : ((n : Int) != (n2 : Int)) = true := by rw [bne_iff_ne]; omega
    go_enter Try.func57, Try.ntmps57
    go_wp2
    go_ret
    exact ⟨(show Ending.returned (.bool false) = .returned (.bool R) from by rewrite [← hres.out, hno.out]; rfl), Below.refl _ _⟩
  subst hl
  go_enter Try.func57, Try.ntmps57
  go_wp2
  go_loopw [17] (fun i wr => ∃ k : Nat, k ≤ n ∧ i = .int .i64 k ∧ Below w.heap.size w wr ∧ Hid (∀ i a b, i < k → L[i]? = some a → M[i]? = some b → same1 a b = true)) (fun i _ => n - (intOf i).toNat)
  case atStart => exact ⟨0, by omega, rfl, (by repeat (first | exact Below.refl _ _ | assumption | apply below_drewN' | apply Below.drew | refine Below.alloc ?_ (by first | omega | (simp; done) | (simp; omega)) _ | refine Below.setCell ?_ (by first | omega | (simp; done) | (simp; omega)) _)), Lib.hid (fun i a b hi => absurd hi (by omega))⟩
  case round =>
    obtain ⟨k, hk, rfl, bl, hall⟩ := hrel
    by_cases hlt : k < n
    · obtain ⟨p, hp⟩ : ∃ p, L[k]? = some p := ⟨_, List.getElem?_eq_getElem (by omega)⟩
      obtain ⟨q, hq⟩ : ∃ q, M[k]? = some q := ⟨_, List.getElem?_eq_getElem (by omega)⟩
      obtain ⟨g, o, rfl, hc⟩ := (h.below bl).at_ (by omega)
      obtain ⟨B, m, kk, hE, hc0, hc1⟩ := hc k p hp
      obtain ⟨g2, o2, rfl, hd⟩ := (h2.below bl).at_ (by omega)
      obtain ⟨B2, m2, kk2, hE2, hd0, hd1⟩ := hd k q hq
      have hph := Lib.hid hp
      have hqh := Lib.hid hq
      clear hc hd hp hq
      obtain ⟨r, hr⟩ : ∃ r, same1 p q = r := ⟨_, rfl⟩
      have HS := Lib.hid (fun w h h2 => bucket_same p q B m kk B2 m2 kk2 r w h h2 hr)
      have hr := Lib.hid hr
      have hg := World.block_lt_of_cell? wr _ hd0
      have hgg := World.block_lt_of_cell? wr _ hc0
      have bx : Below wr.heap.size wr ((wr.alloc (.cells #[.int .i64 p.id, .slice B m kk] 70)).alloc (.cells #[.int .i64 q.id, .slice B2 m2 kk2] 70)) := (by repeat (first | exact Below.refl _ _ | assumption | apply below_drewN' | apply Below.drew | refine Below.alloc ?_ (by first | omega | (simp; done) | (simp; omega)) _ | refine Below.setCell ?_ (by first | omega | (simp; done) | (simp; omega)) _))
      have bl2 := Below.next bl bx (Nat.le_refl _)
      have bx1 : Below wr.heap.size wr (wr.alloc (.cells #[.int .i64 p.id, .slice B m kk] 70)) := (by repeat (first | exact Below.refl _ _ | assumption | apply below_drewN' | apply Below.drew | refine Below.alloc ?_ (by first | omega | (simp; done) | (simp; omega)) _ | refine Below.setCell ?_ (by first | omega | (simp; done) | (simp; omega)) _))
      have hd0' := (bx1.cell (p := ⟨g2, o2 + k * 2, none⟩) hg).trans hd0
      have hd1' := (bx1.cell (p := ⟨g2, o2 + k * 2 + 1, none⟩) hg).trans hd1
      go_wp2_with fail
      refine (HS.out _ (hE.below bx) (hE2.below bx)).mono ?_
      rintro e w2 ⟨rfl, hb⟩
      replace bl2 := Below.next bl2 hb (Nat.le_refl _)
      clear bx bx1 hd0' hd1' hb hE hE2 hc0 hc1 hd0 hd1
      cases r with
      | true =>
        go_wp2
        go_roundw
        case rel =>
          refine ⟨k + 1, by omega, by go_num, bl2, Lib.hid fun i a b hi ha hb => ?_⟩
          by_cases ei : i = k
          · subst ei; rw [hph.out] at ha; rw [hqh.out] at hb; injection ha with ha; injection hb with hb; rw [← ha, ← hb]; exact hr.out
          · exact hall.out i a b (by omega) ha hb
        case measure => simp [intOf]; omega
      | false =>
        have hno := Lib.hid (sameK_no hph.out hqh.out hr.out)
        go_wp2
        go_ret
        exact ⟨(show Ending.returned (.bool false) = .returned (.bool R) from by rewrite [← hres.out, hno.out]; rfl), bl2⟩
    · have hkn : n = k := by omega
      have hyes := Lib.hid (sameK_yes (L := L) (M := M) (by omega) (fun i a b hi ha hb => hall.out i a b (by omega) ha hb))
      subst hkn
      go_wp2
      go_ret
      exact ⟨(show Ending.returned (.bool true) = .returned (.bool R) from by rewrite [← hres.out, hyes.out]; rfl), bl⟩
theorem bucket_Same (A : Option Addr) (n c : Nat) (L : List BlkR) (A2 : Option Addr) (n2 c2 : Nat) (M : List BlkR) (w : World) (h : RK w A n c L) (h2 : RK w A2 n2 c2 M) :
    Calls Try.prog 30 #[.slice A n c, .slice A2 n2 c2] w fun e w' => e = .returned (.bool (sameK L M)) ∧ Below w.heap.size w w' := by
  have HE := Lib.hid (fun w h h2 => bucket_equal A n c L A2 n2 c2 M w h h2)
  go_enter Try.func30, Try.ntmps30
  go_wp2_with fail
  refine (HE.out _ h h2).mono ?_
  rintro e w2 ⟨rfl, hb⟩
  go_wp2
  go_ret
  exact ⟨rfl, hb⟩
set_option maxHeartbeats 8000000 in
theorem ref_SameB (A : Option Addr) (n c : Nat) (L : List BlkR) (A2 : Option Addr) (n2 c2 : Nat) (M : List BlkR) (w : World) (h : RK w A n c L) (h2 : RK w A2 n2 c2 M) :
    Calls Try.prog 31 #[.slice A n c, .slice A2 n2 c2] w fun e w' => e = .returned (.bool (sameK L M)) ∧ Below w.heap.size w w' := by
  obtain ⟨R, hR⟩ : ∃ R, sameK L M = R := ⟨_, rfl⟩
  rw [hR]
  have hres := Lib.hid hR
  clear hR
  have hnm : n ≤ maxLen := Nat.le_trans h.cap h.max
  have hnm2 : n2 ≤ maxLen := Nat.le_trans h2.cap h2.max
  unfold maxLen at hnm hnm2
  have hLn := h.len
  have hMn := h2.len
  by_cases hl : n = n2
  rotate_left
  · have hno := Lib.hid (sameK_len (L := L) (M := M) (by omega))
    have e1 : ((n : Int) != (n2 : Int)) = true := by rw [bne_iff_ne]; omega
    go_enter Try.func31, Try.ntmps31
    go_wp2
    go_ret
    exact ⟨(show Ending.returned (.bool false) = .returned (.bool R) from by rewrite [← hres.out, hno.out]; rfl), Below.refl _ _⟩
  subst hl
  go_enter Try.func31, Try.ntmps31
  go_wp2
  go_loopw [5] (fun i wr => ∃ k : Nat, k ≤ n ∧ i = .int .i64 k ∧ Below w.heap.size w wr ∧ Hid (∀ i a b, i < k → L[i]? = some a → M[i]? = some b → same1 a b = true)) (fun i _ => n - (intOf i).toNat)
  case atStart => exact ⟨0, by omega, rfl, (by repeat (first | exact Below.refl _ _ | assumption | apply below_drewN' | apply Below.drew | refine Below.alloc ?_ (by first | omega | (simp; done) | (simp; omega)) _ | refine Below.setCell ?_ (by first | omega | (simp; done) | (simp; omega)) _)), Lib.hid (fun i a b hi => absurd hi (by omega))⟩
  case round =>
    obtain ⟨k, hk, rfl, bl, hall⟩ := hrel
    by_cases hlt : k < n
    · obtain ⟨p, hp⟩ : ∃ p, L[k]? = some p := ⟨_, List.getElem?_eq_getElem (by omega)⟩
      obtain ⟨q, hq⟩ : ∃ q, M[k]? = some q := ⟨_, List.getElem?_eq_getElem (by omega)⟩
      obtain ⟨g, o, rfl, hc⟩ := h.at_ (by omega)
      obtain ⟨B, m, kk, hE, hc0, hc1⟩ := hc k p hp
      obtain ⟨g2, o2, rfl, hd⟩ := h2.at_ (by omega)
      obtain ⟨B2, m2, kk2, hE2, hd0, hd1⟩ := hd k q hq
      have hph := Lib.hid hp
      have hqh := Lib.hid hq
      clear hc hd hp hq
      have hg := World.block_lt_of_cell? w _ hd0
      have hgg := World.block_lt_of_cell? w _ hc0
      obtain ⟨y, hy⟩ : ∃ y, (p.d == q.d) = y := ⟨_, rfl⟩
      have HE := Lib.hid (fun w (h : RB w B m kk p.d) (h2 : RB w B2 m2 kk2 q.d) => hy ▸ ref_Bytes B B2 m kk m2 kk2 p.d q.d w h h2)
      have hy := Lib.hid hy
      have keep := fun {w' w'' : World} (h : Below w.heap.size w w') (hb : Below w'.heap.size w' w'') => Below.next h hb (Nat.le_refl _)
      by_cases e : p.id = q.id
      rotate_left
      · have e1 : (p.id != q.id) = true := by rw [bne_iff_ne]; exact e
        have hno := Lib.hid (sameK_no hph.out hqh.out (by unfold same1; rw [beq_eq_false_iff_ne.2 e]; rfl))
        clear e
        go_wp2_with fail
        have hvo := Free.val
        refine Free.wp_facts (M := [0, 0, 3, 7, 15, 0, 0, 96, 224, 480, 1023, 2047, 4095, 4095, 16383, 32767, 65535, 4095, 4095, 397311, 921599, 1970175, 4194303, 8388607, 16777215]) (D := [[], [], [(0, 17), (1, 18)], [(2, 19)], [(3, 20)], [], [], [(5, 22), (6, 23)], [(7, 24)], [(8, 25)], [(4, 21), (9, 26)], [(10, 27)], [(11, 28)], [(11, 28)], [(12, 29), (13, 30), (11, 28)], [(14, 31), (11, 28)], [(15, 32), (11, 28)], [(11, 28)], [(11, 28)], [(17, 34), (18, 35), (11, 28)], [(19, 36), (11, 28)], [(20, 37), (11, 28)], [(16, 33), (21, 38), (11, 28)], [(22, 39), (11, 28)], [(11, 28), (23, 40)]]) (outs := [24]) (soles := []) (E := [(0, 17, false), (1, 18, false), (2, 19, false), (3, 20, false), (4, 21, false), (5, 22, false), (6, 23, false), (7, 24, false), (8, 25, false), (9, 26, false), (10, 27, false), (11, 28, false), (12, 29, false), (13, 30, false), (14, 31, false), (15, 32, false), (16, 33, false), (17, 34, false), (18, 35, false), (19, 36, false), (20, 37, false), (21, 38, false), (22, 39, false), (23, 40, false), (24, 41, true)]) (N := 42) (S := (fun w' => Below w.heap.size w w')) [Free.Fact.is ?_, Free.Fact.is ?_, Free.Fact.is ?_, Free.Fact.is ?_, Free.Fact.is ?_, Free.Fact.is ?_, Free.Fact.is ?_, Free.Fact.is ?_, Free.Fact.is ?_, Free.Fact.is ?_, Free.Fact.is ?_, Free.Fact.is ?_, Free.Fact.is ?_, Free.Fact.is ?_, Free.Fact.is ?_, Free.Fact.is ?_, Free.Fact.is ?_, Free.Fact.is ?_, Free.Fact.is ?_, Free.Fact.is ?_, Free.Fact.is ?_, Free.Fact.is ?_, Free.Fact.is ?_, Free.Fact.is ?_, Free.Fact.is ?_] (by kernel_rfl) (by kernel_rfl) rfl (bl.drew) ?_ ?_
        rotate_left 25
        refine Free.cons ?_ ?_
        · intro w' hS; intro K hK; have k0 := (hS.cell (p := ⟨g, o + k * 2, none⟩) hgg).trans hc0; have k1 := (hS.cell (p := ⟨g2, o2 + k * 2, none⟩) hg).trans hd0; first | (refine Free.run_yes (by rfl) ?_; go_simp; refine Free.o hK hS ?_; exact rfl) | (refine Free.run_no (by rfl) (Free.o hK hS ?_); exact rfl)
        refine Free.cons ?_ ?_
        · intro w' hS; intro K hK; have k0 := (hS.cell (p := ⟨g, o + k * 2, none⟩) hgg).trans hc0; have k1 := (hS.cell (p := ⟨g2, o2 + k * 2, none⟩) hg).trans hd0; first | (refine Free.run_yes (by rfl) ?_; go_simp; refine Free.o hK hS ?_; exact rfl) | (refine Free.run_no (by rfl) (Free.o hK hS ?_); exact rfl)
        refine Free.cons ?_ ?_
        · intro w' hS; (rintro _ rfl); (rintro _ rfl); intro K hK; have k0 := (hS.cell (p := ⟨g, o + k * 2, none⟩) hgg).trans hc0; have k1 := (hS.cell (p := ⟨g2, o2 + k * 2, none⟩) hg).trans hd0; first | (refine Free.run_yes (by rfl) ?_; go_simp; refine Free.o hK hS ?_; exact rfl) | (refine Free.run_no (by rfl) (Free.o hK hS ?_); exact rfl)
        refine Free.cons ?_ ?_
        · intro w' hS; (rintro _ rfl); intro K hK; have k0 := (hS.cell (p := ⟨g, o + k * 2, none⟩) hgg).trans hc0; have k1 := (hS.cell (p := ⟨g2, o2 + k * 2, none⟩) hg).trans hd0; first | (refine Free.run_yes (by rfl) ?_; go_simp; refine Free.o hK hS ?_; exact rfl) | (refine Free.run_no (by rfl) (Free.o hK hS ?_); exact rfl)
        refine Free.cons ?_ ?_
        · intro w' hS; (rintro _ rfl); intro K hK; have k0 := (hS.cell (p := ⟨g, o + k * 2, none⟩) hgg).trans hc0; have k1 := (hS.cell (p := ⟨g2, o2 + k * 2, none⟩) hg).trans hd0; first | (refine Free.run_yes (by rfl) ?_; go_simp; refine Free.o hK hS ?_; exact rfl) | (refine Free.run_no (by rfl) (Free.o hK hS ?_); exact rfl)
        refine Free.cons ?_ ?_
        · intro w' hS; intro K hK; have k0 := (hS.cell (p := ⟨g, o + k * 2, none⟩) hgg).trans hc0; have k1 := (hS.cell (p := ⟨g2, o2 + k * 2, none⟩) hg).trans hd0; first | (refine Free.run_yes (by rfl) ?_; go_simp; refine Free.o hK hS ?_; exact rfl) | (refine Free.run_no (by rfl) (Free.o hK hS ?_); exact rfl)
        refine Free.cons ?_ ?_
        · intro w' hS; intro K hK; have k0 := (hS.cell (p := ⟨g, o + k * 2, none⟩) hgg).trans hc0; have k1 := (hS.cell (p := ⟨g2, o2 + k * 2, none⟩) hg).trans hd0; first | (refine Free.run_yes (by rfl) ?_; go_simp; refine Free.o hK hS ?_; exact rfl) | (refine Free.run_no (by rfl) (Free.o hK hS ?_); exact rfl)
        refine Free.cons ?_ ?_
        · intro w' hS; (rintro _ rfl); (rintro _ rfl); intro K hK; have k0 := (hS.cell (p := ⟨g, o + k * 2, none⟩) hgg).trans hc0; have k1 := (hS.cell (p := ⟨g2, o2 + k * 2, none⟩) hg).trans hd0; first | (refine Free.run_yes (by rfl) ?_; go_simp; refine Free.o hK hS ?_; exact rfl) | (refine Free.run_no (by rfl) (Free.o hK hS ?_); exact rfl)
        refine Free.cons ?_ ?_
        · intro w' hS; (rintro _ rfl); intro K hK; have k0 := (hS.cell (p := ⟨g, o + k * 2, none⟩) hgg).trans hc0; have k1 := (hS.cell (p := ⟨g2, o2 + k * 2, none⟩) hg).trans hd0; first | (refine Free.run_yes (by rfl) ?_; go_simp; refine Free.o hK hS ?_; exact rfl) | (refine Free.run_no (by rfl) (Free.o hK hS ?_); exact rfl)
        refine Free.cons ?_ ?_
        · intro w' hS; (rintro _ rfl); intro K hK; have k0 := (hS.cell (p := ⟨g, o + k * 2, none⟩) hgg).trans hc0; have k1 := (hS.cell (p := ⟨g2, o2 + k * 2, none⟩) hg).trans hd0; first | (refine Free.run_yes (by rfl) ?_; go_simp; refine Free.o hK hS ?_; exact rfl) | (refine Free.run_no (by rfl) (Free.o hK hS ?_); exact rfl)
        refine Free.cons ?_ ?_
        · intro w' hS; (rintro _ rfl); (rintro _ rfl); intro K hK; have k0 := (hS.cell (p := ⟨g, o + k * 2, none⟩) hgg).trans hc0; have k1 := (hS.cell (p := ⟨g2, o2 + k * 2, none⟩) hg).trans hd0; first | (refine Free.run_yes (by rfl) ?_; go_simp; refine Free.o hK hS ?_; exact rfl) | (refine Free.run_no (by rfl) (Free.o hK hS ?_); exact rfl)
        refine Free.cons ?_ ?_
        · intro w' hS; (rintro _ rfl); intro K hK; have k0 := (hS.cell (p := ⟨g, o + k * 2, none⟩) hgg).trans hc0; have k1 := (hS.cell (p := ⟨g2, o2 + k * 2, none⟩) hg).trans hd0; first | (refine Free.run_yes (by rfl) ?_; go_simp; refine Free.o hK hS ?_; exact rfl) | (refine Free.run_no (by rfl) (Free.o hK hS ?_); exact rfl)
        refine Free.cons ?_ ?_
        · intro w' hS; (rintro _ rfl); intro K hK; have k0 := (hS.cell (p := ⟨g, o + k * 2, none⟩) hgg).trans hc0; have k1 := (hS.cell (p := ⟨g2, o2 + k * 2, none⟩) hg).trans hd0; first | (refine Free.run_yes (by rfl) ?_; go_simp; refine Free.o hK hS ?_; exact rfl) | (refine Free.run_no (by rfl) (Free.o hK hS ?_); exact rfl)
        refine Free.cons ?_ ?_
        · intro w' hS; (rintro _ rfl); intro K hK; have k0 := (hS.cell (p := ⟨g, o + k * 2, none⟩) hgg).trans hc0; have k1 := (hS.cell (p := ⟨g2, o2 + k * 2, none⟩) hg).trans hd0; first | (refine Free.run_yes (by rfl) ?_; go_simp; refine Free.o hK hS ?_; exact rfl) | (refine Free.run_no (by rfl) (Free.o hK hS ?_); exact rfl)
        refine Free.cons ?_ ?_
        · intro w' hS; (rintro _ rfl); (rintro _ rfl); (rintro _ rfl); intro K hK; have k0 := (hS.cell (p := ⟨g, o + k * 2, none⟩) hgg).trans hc0; have k1 := (hS.cell (p := ⟨g2, o2 + k * 2, none⟩) hg).trans hd0; first | (refine Free.run_yes (by rfl) ?_; go_simp; refine Free.o hK hS ?_; exact rfl) | (refine Free.run_no (by rfl) (Free.o hK hS ?_); exact rfl)
        refine Free.cons ?_ ?_
        · intro w' hS; (rintro _ rfl); (rintro _ rfl); intro K hK; have k0 := (hS.cell (p := ⟨g, o + k * 2, none⟩) hgg).trans hc0; have k1 := (hS.cell (p := ⟨g2, o2 + k * 2, none⟩) hg).trans hd0; first | (refine Free.run_yes (by rfl) ?_; go_simp; refine Free.o hK hS ?_; exact rfl) | (refine Free.run_no (by rfl) (Free.o hK hS ?_); exact rfl)
        refine Free.cons ?_ ?_
        · intro w' hS; (rintro _ rfl); (rintro _ rfl); intro K hK; have k0 := (hS.cell (p := ⟨g, o + k * 2, none⟩) hgg).trans hc0; have k1 := (hS.cell (p := ⟨g2, o2 + k * 2, none⟩) hg).trans hd0; first | (refine Free.run_yes (by rfl) ?_; go_simp; refine Free.o hK hS ?_; exact rfl) | (refine Free.run_no (by rfl) (Free.o hK hS ?_); exact rfl)
        refine Free.cons ?_ ?_
        · intro w' hS; (rintro _ rfl); intro K hK; have k0 := (hS.cell (p := ⟨g, o + k * 2, none⟩) hgg).trans hc0; have k1 := (hS.cell (p := ⟨g2, o2 + k * 2, none⟩) hg).trans hd0; first | (refine Free.run_yes (by rfl) ?_; go_simp; refine Free.o hK hS ?_; exact rfl) | (refine Free.run_no (by rfl) (Free.o hK hS ?_); exact rfl)
        refine Free.cons ?_ ?_
        · intro w' hS; (rintro _ rfl); intro K hK; have k0 := (hS.cell (p := ⟨g, o + k * 2, none⟩) hgg).trans hc0; have k1 := (hS.cell (p := ⟨g2, o2 + k * 2, none⟩) hg).trans hd0; first | (refine Free.run_yes (by rfl) ?_; go_simp; refine Free.o hK hS ?_; exact rfl) | (refine Free.run_no (by rfl) (Free.o hK hS ?_); exact rfl)
        refine Free.cons ?_ ?_
        · intro w' hS; (rintro _ rfl); (rintro _ rfl); (rintro _ rfl); intro K hK; have k0 := (hS.cell (p := ⟨g, o + k * 2, none⟩) hgg).trans hc0; have k1 := (hS.cell (p := ⟨g2, o2 + k * 2, none⟩) hg).trans hd0; first | (refine Free.run_yes (by rfl) ?_; go_simp; refine Free.o hK hS ?_; exact rfl) | (refine Free.run_no (by rfl) (Free.o hK hS ?_); exact rfl)
        refine Free.cons ?_ ?_
        · intro w' hS; (rintro _ rfl); (rintro _ rfl); intro K hK; have k0 := (hS.cell (p := ⟨g, o + k * 2, none⟩) hgg).trans hc0; have k1 := (hS.cell (p := ⟨g2, o2 + k * 2, none⟩) hg).trans hd0; first | (refine Free.run_yes (by rfl) ?_; go_simp; refine Free.o hK hS ?_; exact rfl) | (refine Free.run_no (by rfl) (Free.o hK hS ?_); exact rfl)
        refine Free.cons ?_ ?_
        · intro w' hS; (rintro _ rfl); (rintro _ rfl); intro K hK; have k0 := (hS.cell (p := ⟨g, o + k * 2, none⟩) hgg).trans hc0; have k1 := (hS.cell (p := ⟨g2, o2 + k * 2, none⟩) hg).trans hd0; first | (refine Free.run_yes (by rfl) ?_; go_simp; refine Free.o hK hS ?_; exact rfl) | (refine Free.run_no (by rfl) (Free.o hK hS ?_); exact rfl)
        refine Free.cons ?_ ?_
        · intro w' hS; (rintro _ rfl); (rintro _ rfl); (rintro _ rfl); intro K hK; have k0 := (hS.cell (p := ⟨g, o + k * 2, none⟩) hgg).trans hc0; have k1 := (hS.cell (p := ⟨g2, o2 + k * 2, none⟩) hg).trans hd0; first | (refine Free.run_yes (by rfl) ?_; go_simp; (fail); go_simp; refine Free.c hK (keep hS hb) hb ?_; exact rfl) | (refine Free.run_no (by rfl) (Free.o hK hS ?_); exact rfl)
        refine Free.cons ?_ ?_
        · intro w' hS; (rintro _ rfl); (rintro _ rfl); intro K hK; have k0 := (hS.cell (p := ⟨g, o + k * 2, none⟩) hgg).trans hc0; have k1 := (hS.cell (p := ⟨g2, o2 + k * 2, none⟩) hg).trans hd0; first | (refine Free.run_yes (by rfl) ?_; go_simp; refine Free.o hK hS ?_; exact rfl) | (refine Free.run_no (by rfl) (Free.o hK hS ?_); exact rfl)
        refine Free.cons ?_ ?_
        · intro w' hS; (rintro _ rfl); (rintro _ rfl); intro K hK; have k0 := (hS.cell (p := ⟨g, o + k * 2, none⟩) hgg).trans hc0; have k1 := (hS.cell (p := ⟨g2, o2 + k * 2, none⟩) hg).trans hd0; first | (refine Free.run_yes (by rfl) ?_; go_simp; refine Free.o hK hS ?_; exact rfl) | (refine Free.run_no (by rfl) (Free.o hK hS ?_); exact rfl)
        exact Free.nil
        clear hvo
        intro w' hS; intro v0; intro v1; intro v2; intro v3; intro v4; intro v5; intro v6; intro v7; intro v8; intro v9; intro v10; intro v11; intro v12; intro v13; intro v14; intro v15; intro v16; intro v17; intro v18; intro v19; intro v20; intro v21; intro v22; intro v23; (rintro _ rfl); (try simp only [Act.put, List.setIfInBounds_toArray, List.set_cons_zero, List.set_cons_succ]); refine Free.toldE_nil ?_
        go_wp2
        go_ret
        exact ⟨(show Ending.returned (.bool false) = .returned (.bool R) from by rewrite [← hres.out, hno.out]; rfl), hS⟩
      · have e1 : (p.id != q.id) = false := by rw [bne_eq_false_iff_eq]; exact e
        have hs : Hid (same1 p q = y) := Lib.hid (by unfold same1; rw [hy.out, e, beq_self_eq_true, Bool.true_and])
        clear e
        cases y with
        | true =>
          go_wp2_with fail
          have hvo := Free.val
          refine Free.wp_facts (M := [0, 0, 3, 7, 15, 0, 0, 96, 224, 480, 1023, 2047, 4095, 4095, 16383, 32767, 65535, 4095, 4095, 397311, 921599, 1970175, 4194303, 8388607, 16777215]) (D := [[], [], [(0, 17), (1, 18)], [(2, 19)], [(3, 20)], [], [], [(5, 22), (6, 23)], [(7, 24)], [(8, 25)], [(4, 21), (9, 26)], [(10, 27)], [(11, 28)], [(11, 28)], [(12, 29), (13, 30), (11, 28)], [(14, 31), (11, 28)], [(15, 32), (11, 28)], [(11, 28)], [(11, 28)], [(17, 34), (18, 35), (11, 28)], [(19, 36), (11, 28)], [(20, 37), (11, 28)], [(16, 33), (21, 38), (11, 28)], [(22, 39), (11, 28)], [(11, 28), (23, 40)]]) (outs := [24]) (soles := []) (E := [(0, 17, false), (1, 18, false), (2, 19, false), (3, 20, false), (4, 21, false), (5, 22, false), (6, 23, false), (7, 24, false), (8, 25, false), (9, 26, false), (10, 27, false), (11, 28, false), (12, 29, false), (13, 30, false), (14, 31, false), (15, 32, false), (16, 33, false), (17, 34, false), (18, 35, false), (19, 36, false), (20, 37, false), (21, 38, false), (22, 39, false), (23, 40, false), (24, 41, true)]) (N := 42) (S := (fun w' => Below w.heap.size w w')) [Free.Fact.is ?_, Free.Fact.is ?_, Free.Fact.is ?_, Free.Fact.is ?_, Free.Fact.is ?_, Free.Fact.is ?_, Free.Fact.is ?_, Free.Fact.is ?_, Free.Fact.is ?_, Free.Fact.is ?_, Free.Fact.is ?_, Free.Fact.is ?_, Free.Fact.is ?_, Free.Fact.is ?_, Free.Fact.is ?_, Free.Fact.is ?_, Free.Fact.is ?_, Free.Fact.is ?_, Free.Fact.is ?_, Free.Fact.is ?_, Free.Fact.is ?_, Free.Fact.is ?_, Free.Fact.is ?_, Free.Fact.is ?_, Free.Fact.is ?_] (by kernel_rfl) (by kernel_rfl) rfl (bl.drew) ?_ ?_
          rotate_left 25
          refine Free.cons ?_ ?_
          · intro w' hS; intro K hK; have k0 := (hS.cell (p := ⟨g, o + k * 2, none⟩) hgg).trans hc0; have k1 := (hS.cell (p := ⟨g2, o2 + k * 2, none⟩) hg).trans hd0; have k2 := (hS.cell (p := ⟨g, o + k * 2 + 1, none⟩) hgg).trans hc1; have k3 := (hS.cell (p := ⟨g2, o2 + k * 2 + 1, none⟩) hg).trans hd1; first | (refine Free.run_yes (by rfl) ?_; go_simp; refine Free.o hK hS ?_; exact rfl) | (refine Free.run_no (by rfl) (Free.o hK hS ?_); exact rfl)
          refine Free.cons ?_ ?_
          · intro w' hS; intro K hK; have k0 := (hS.cell (p := ⟨g, o + k * 2, none⟩) hgg).trans hc0; have k1 := (hS.cell (p := ⟨g2, o2 + k * 2, none⟩) hg).trans hd0; have k2 := (hS.cell (p := ⟨g, o + k * 2 + 1, none⟩) hgg).trans hc1; have k3 := (hS.cell (p := ⟨g2, o2 + k * 2 + 1, none⟩) hg).trans hd1; first | (refine Free.run_yes (by rfl) ?_; go_simp; refine Free.o hK hS ?_; exact rfl) | (refine Free.run_no (by rfl) (Free.o hK hS ?_); exact rfl)
          refine Free.cons ?_ ?_
          · intro w' hS; (rintro _ rfl); (rintro _ rfl); intro K hK; have k0 := (hS.cell (p := ⟨g, o + k * 2, none⟩) hgg).trans hc0; have k1 := (hS.cell (p := ⟨g2, o2 + k * 2, none⟩) hg).trans hd0; have k2 := (hS.cell (p := ⟨g, o + k * 2 + 1, none⟩) hgg).trans hc1; have k3 := (hS.cell (p := ⟨g2, o2 + k * 2 + 1, none⟩) hg).trans hd1; first | (refine Free.run_yes (by rfl) ?_; go_simp; refine Free.o hK hS ?_; exact rfl) | (refine Free.run_no (by rfl) (Free.o hK hS ?_); exact rfl)
          refine Free.cons ?_ ?_
          · intro w' hS; (rintro _ rfl); intro K hK; have k0 := (hS.cell (p := ⟨g, o + k * 2, none⟩) hgg).trans hc0; have k1 := (hS.cell (p := ⟨g2, o2 + k * 2, none⟩) hg).trans hd0; have k2 := (hS.cell (p := ⟨g, o + k * 2 + 1, none⟩) hgg).trans hc1; have k3 := (hS.cell (p := ⟨g2, o2 + k * 2 + 1, none⟩) hg).trans hd1; first | (refine Free.run_yes (by rfl) ?_; go_simp; refine Free.o hK hS ?_; exact rfl) | (refine Free.run_no (by rfl) (Free.o hK hS ?_); exact rfl)
          refine Free.cons ?_ ?_
          · intro w' hS; (rintro _ rfl); intro K hK; have k0 := (hS.cell (p := ⟨g, o + k * 2, none⟩) hgg).trans hc0; have k1 := (hS.cell (p := ⟨g2, o2 + k * 2, none⟩) hg).trans hd0; have k2 := (hS.cell (p := ⟨g, o + k * 2 + 1, none⟩) hgg).trans hc1; have k3 := (hS.cell (p := ⟨g2, o2 + k * 2 + 1, none⟩) hg).trans hd1; first | (refine Free.run_yes (by rfl) ?_; go_simp; refine Free.o hK hS ?_; exact rfl) | (refine Free.run_no (by rfl) (Free.o hK hS ?_); exact rfl)
          refine Free.cons ?_ ?_
          · intro w' hS; intro K hK; have k0 := (hS.cell (p := ⟨g, o + k * 2, none⟩) hgg).trans hc0; have k1 := (hS.cell (p := ⟨g2, o2 + k * 2, none⟩) hg).trans hd0; have k2 := (hS.cell (p := ⟨g, o + k * 2 + 1, none⟩) hgg).trans hc1; have k3 := (hS.cell (p := ⟨g2, o2 + k * 2 + 1, none⟩) hg).trans hd1; first | (refine Free.run_yes (by rfl) ?_; go_simp; refine Free.o hK hS ?_; exact rfl) | (refine Free.run_no (by rfl) (Free.o hK hS ?_); exact rfl)
          refine Free.cons ?_ ?_
          · intro w' hS; intro K hK; have k0 := (hS.cell (p := ⟨g, o + k * 2, none⟩) hgg).trans hc0; have k1 := (hS.cell (p := ⟨g2, o2 + k * 2, none⟩) hg).trans hd0; have k2 := (hS.cell (p := ⟨g, o + k * 2 + 1, none⟩) hgg).trans hc1; have k3 := (hS.cell (p := ⟨g2, o2 + k * 2 + 1, none⟩) hg).trans hd1; first | (refine Free.run_yes (by rfl) ?_; go_simp; refine Free.o hK hS ?_; exact rfl) | (refine Free.run_no (by rfl) (Free.o hK hS ?_); exact rfl)
          refine Free.cons ?_ ?_
          · intro w' hS; (rintro _ rfl); (rintro _ rfl); intro K hK; have k0 := (hS.cell (p := ⟨g, o + k * 2, none⟩) hgg).trans hc0; have k1 := (hS.cell (p := ⟨g2, o2 + k * 2, none⟩) hg).trans hd0; have k2 := (hS.cell (p := ⟨g, o + k * 2 + 1, none⟩) hgg).trans hc1; have k3 := (hS.cell (p := ⟨g2, o2 + k * 2 + 1, none⟩) hg).trans hd1; first | (refine Free.run_yes (by rfl) ?_; go_simp; refine Free.o hK hS ?_; exact rfl) | (refine Free.run_no (by rfl) (Free.o hK hS ?_); exact rfl)
          refine Free.cons ?_ ?_
          · intro w' hS; (rintro _ rfl); intro K hK; have k0 := (hS.cell (p := ⟨g, o + k * 2, none⟩) hgg).trans hc0; have k1 := (hS.cell (p := ⟨g2, o2 + k * 2, none⟩) hg).trans hd0; have k2 := (hS.cell (p := ⟨g, o + k * 2 + 1, none⟩) hgg).trans hc1; have k3 := (hS.cell (p := ⟨g2, o2 + k * 2 + 1, none⟩) hg).trans hd1; first | (refine Free.run_yes (by rfl) ?_; go_simp; refine Free.o hK hS ?_; exact rfl) | (refine Free.run_no (by rfl) (Free.o hK hS ?_); exact rfl)
          refine Free.cons ?_ ?_
          · intro w' hS; (rintro _ rfl); intro K hK; have k0 := (hS.cell (p := ⟨g, o + k * 2, none⟩) hgg).trans hc0; have k1 := (hS.cell (p := ⟨g2, o2 + k * 2, none⟩) hg).trans hd0; have k2 := (hS.cell (p := ⟨g, o + k * 2 + 1, none⟩) hgg).trans hc1; have k3 := (hS.cell (p := ⟨g2, o2 + k * 2 + 1, none⟩) hg).trans hd1; first | (refine Free.run_yes (by rfl) ?_; go_simp; refine Free.o hK hS ?_; exact rfl) | (refine Free.run_no (by rfl) (Free.o hK hS ?_); exact rfl)
          refine Free.cons ?_ ?_
          · intro w' hS; (rintro _ rfl); (rintro _ rfl); intro K hK; have k0 := (hS.cell (p := ⟨g, o + k * 2, none⟩) hgg).trans hc0; have k1 := (hS.cell (p := ⟨g2, o2 + k * 2, none⟩) hg).trans hd0; have k2 := (hS.cell (p := ⟨g, o + k * 2 + 1, none⟩) hgg).trans hc1; have k3 := (hS.cell (p := ⟨g2, o2 + k * 2 + 1, none⟩) hg).trans hd1; first | (refine Free.run_yes (by rfl) ?_; go_simp; refine Free.o hK hS ?_; exact rfl) | (refine Free.run_no (by rfl) (Free.o hK hS ?_); exact rfl)
          refine Free.cons ?_ ?_
          · intro w' hS; (rintro _ rfl); intro K hK; have k0 := (hS.cell (p := ⟨g, o + k * 2, none⟩) hgg).trans hc0; have k1 := (hS.cell (p := ⟨g2, o2 + k * 2, none⟩) hg).trans hd0; have k2 := (hS.cell (p := ⟨g, o + k * 2 + 1, none⟩) hgg).trans hc1; have k3 := (hS.cell (p := ⟨g2, o2 + k * 2 + 1, none⟩) hg).trans hd1; first | (refine Free.run_yes (by rfl) ?_; go_simp; refine Free.o hK hS ?_; exact rfl) | (refine Free.run_no (by rfl) (Free.o hK hS ?_); exact rfl)
          refine Free.cons ?_ ?_
          · intro w' hS; (rintro _ rfl); intro K hK; have k0 := (hS.cell (p := ⟨g, o + k * 2, none⟩) hgg).trans hc0; have k1 := (hS.cell (p := ⟨g2, o2 + k * 2, none⟩) hg).trans hd0; have k2 := (hS.cell (p := ⟨g, o + k * 2 + 1, none⟩) hgg).trans hc1; have k3 := (hS.cell (p := ⟨g2, o2 + k * 2 + 1, none⟩) hg).trans hd1; first | (refine Free.run_yes (by rfl) ?_; go_simp; refine Free.o hK hS ?_; exact rfl) | (refine Free.run_no (by rfl) (Free.o hK hS ?_); exact rfl)
          refine Free.cons ?_ ?_
          · intro w' hS; (rintro _ rfl); intro K hK; have k0 := (hS.cell (p := ⟨g, o + k * 2, none⟩) hgg).trans hc0; have k1 := (hS.cell (p := ⟨g2, o2 + k * 2, none⟩) hg).trans hd0; have k2 := (hS.cell (p := ⟨g, o + k * 2 + 1, none⟩) hgg).trans hc1; have k3 := (hS.cell (p := ⟨g2, o2 + k * 2 + 1, none⟩) hg).trans hd1; first | (refine Free.run_yes (by rfl) ?_; go_simp; refine Free.o hK hS ?_; exact rfl) | (refine Free.run_no (by rfl) (Free.o hK hS ?_); exact rfl)
          refine Free.cons ?_ ?_
          · intro w' hS; (rintro _ rfl); (rintro _ rfl); (rintro _ rfl); intro K hK; have k0 := (hS.cell (p := ⟨g, o + k * 2, none⟩) hgg).trans hc0; have k1 := (hS.cell (p := ⟨g2, o2 + k * 2, none⟩) hg).trans hd0; have k2 := (hS.cell (p := ⟨g, o + k * 2 + 1, none⟩) hgg).trans hc1; have k3 := (hS.cell (p := ⟨g2, o2 + k * 2 + 1, none⟩) hg).trans hd1; first | (refine Free.run_yes (by rfl) ?_; go_simp; refine Free.o hK hS ?_; exact rfl) | (refine Free.run_no (by rfl) (Free.o hK hS ?_); exact rfl)
          refine Free.cons ?_ ?_
          · intro w' hS; (rintro _ rfl); (rintro _ rfl); intro K hK; have k0 := (hS.cell (p := ⟨g, o + k * 2, none⟩) hgg).trans hc0; have k1 := (hS.cell (p := ⟨g2, o2 + k * 2, none⟩) hg).trans hd0; have k2 := (hS.cell (p := ⟨g, o + k * 2 + 1, none⟩) hgg).trans hc1; have k3 := (hS.cell (p := ⟨g2, o2 + k * 2 + 1, none⟩) hg).trans hd1; first | (refine Free.run_yes (by rfl) ?_; go_simp; refine Free.o hK hS ?_; exact rfl) | (refine Free.run_no (by rfl) (Free.o hK hS ?_); exact rfl)
          refine Free.cons ?_ ?_
          · intro w' hS; (rintro _ rfl); (rintro _ rfl); intro K hK; have k0 := (hS.cell (p := ⟨g, o + k * 2, none⟩) hgg).trans hc0; have k1 := (hS.cell (p := ⟨g2, o2 + k * 2, none⟩) hg).trans hd0; have k2 := (hS.cell (p := ⟨g, o + k * 2 + 1, none⟩) hgg).trans hc1; have k3 := (hS.cell (p := ⟨g2, o2 + k * 2 + 1, none⟩) hg).trans hd1; first | (refine Free.run_yes (by rfl) ?_; go_simp; refine Free.o hK hS ?_; exact rfl) | (refine Free.run_no (by rfl) (Free.o hK hS ?_); exact rfl)
          refine Free.cons ?_ ?_
          · intro w' hS; (rintro _ rfl); intro K hK; have k0 := (hS.cell (p := ⟨g, o + k * 2, none⟩) hgg).trans hc0; have k1 := (hS.cell (p := ⟨g2, o2 + k * 2, none⟩) hg).trans hd0; have k2 := (hS.cell (p := ⟨g, o + k * 2 + 1, none⟩) hgg).trans hc1; have k3 := (hS.cell (p := ⟨g2, o2 + k * 2 + 1, none⟩) hg).trans hd1; first | (refine Free.run_yes (by rfl) ?_; go_simp; refine Free.o hK hS ?_; exact rfl) | (refine Free.run_no (by rfl) (Free.o hK hS ?_); exact rfl)
          refine Free.cons ?_ ?_
          · intro w' hS; (rintro _ rfl); intro K hK; have k0 := (hS.cell (p := ⟨g, o + k * 2, none⟩) hgg).trans hc0; have k1 := (hS.cell (p := ⟨g2, o2 + k * 2, none⟩) hg).trans hd0; have k2 := (hS.cell (p := ⟨g, o + k * 2 + 1, none⟩) hgg).trans hc1; have k3 := (hS.cell (p := ⟨g2, o2 + k * 2 + 1, none⟩) hg).trans hd1; first | (refine Free.run_yes (by rfl) ?_; go_simp; refine Free.o hK hS ?_; exact rfl) | (refine Free.run_no (by rfl) (Free.o hK hS ?_); exact rfl)
          refine Free.cons ?_ ?_
          · intro w' hS; (rintro _ rfl); (rintro _ rfl); (rintro _ rfl); intro K hK; have k0 := (hS.cell (p := ⟨g, o + k * 2, none⟩) hgg).trans hc0; have k1 := (hS.cell (p := ⟨g2, o2 + k * 2, none⟩) hg).trans hd0; have k2 := (hS.cell (p := ⟨g, o + k * 2 + 1, none⟩) hgg).trans hc1; have k3 := (hS.cell (p := ⟨g2, o2 + k * 2 + 1, none⟩) hg).trans hd1; first | (refine Free.run_yes (by rfl) ?_; go_simp; refine Free.o hK hS ?_; exact rfl) | (refine Free.run_no (by rfl) (Free.o hK hS ?_); exact rfl)
          refine Free.cons ?_ ?_
          · intro w' hS; (rintro _ rfl); (rintro _ rfl); intro K hK; have k0 := (hS.cell (p := ⟨g, o + k * 2, none⟩) hgg).trans hc0; have k1 := (hS.cell (p := ⟨g2, o2 + k * 2, none⟩) hg).trans hd0; have k2 := (hS.cell (p := ⟨g, o + k * 2 + 1, none⟩) hgg).trans hc1; have k3 := (hS.cell (p := ⟨g2, o2 + k * 2 + 1, none⟩) hg).trans hd1; first | (refine Free.run_yes (by rfl) ?_; go_simp; refine Free.o hK hS ?_; exact rfl) | (refine Free.run_no (by rfl) (Free.o hK hS ?_); exact rfl)
          refine Free.cons ?_ ?_
          · intro w' hS; (rintro _ rfl); (rintro _ rfl); intro K hK; have k0 := (hS.cell (p := ⟨g, o + k * 2, none⟩) hgg).trans hc0; have k1 := (hS.cell (p := ⟨g2, o2 + k * 2, none⟩) hg).trans hd0; have k2 := (hS.cell (p := ⟨g, o + k * 2 + 1, none⟩) hgg).trans hc1; have k3 := (hS.cell (p := ⟨g2, o2 + k * 2 + 1, none⟩) hg).trans hd1; first | (refine Free.run_yes (by rfl) ?_; go_simp; refine Free.o hK hS ?_; exact rfl) | (refine Free.run_no (by rfl) (Free.o hK hS ?_); exact rfl)
          refine Free.cons ?_ ?_
          · intro w' hS; (rintro _ rfl); (rintro _ rfl); (rintro _ rfl); intro K hK; have k0 := (hS.cell (p := ⟨g, o + k * 2, none⟩) hgg).trans hc0; have k1 := (hS.cell (p := ⟨g2, o2 + k * 2, none⟩) hg).trans hd0; have k2 := (hS.cell (p := ⟨g, o + k * 2 + 1, none⟩) hgg).trans hc1; have k3 := (hS.cell (p := ⟨g2, o2 + k * 2 + 1, none⟩) hg).trans hd1; refine Free.run_yes (by rfl) ?_; (go_simp; go_at_call 20; refine (HE.out _ (hE.below hS) (hE2.below hS)).mono ?_; rintro e w' ⟨rfl, rfl⟩; have hb := Below.refl w'.heap.size w'; go_simp; refine Free.c hK (keep hS hb) hb ?_; exact rfl)
          refine Free.cons ?_ ?_
          · intro w' hS; (rintro _ rfl); (rintro _ rfl); intro K hK; have k0 := (hS.cell (p := ⟨g, o + k * 2, none⟩) hgg).trans hc0; have k1 := (hS.cell (p := ⟨g2, o2 + k * 2, none⟩) hg).trans hd0; have k2 := (hS.cell (p := ⟨g, o + k * 2 + 1, none⟩) hgg).trans hc1; have k3 := (hS.cell (p := ⟨g2, o2 + k * 2 + 1, none⟩) hg).trans hd1; first | (refine Free.run_yes (by rfl) ?_; go_simp; refine Free.o hK hS ?_; exact rfl) | (refine Free.run_no (by rfl) (Free.o hK hS ?_); exact rfl)
          refine Free.cons ?_ ?_
          · intro w' hS; (rintro _ rfl); (rintro _ rfl); intro K hK; have k0 := (hS.cell (p := ⟨g, o + k * 2, none⟩) hgg).trans hc0; have k1 := (hS.cell (p := ⟨g2, o2 + k * 2, none⟩) hg).trans hd0; have k2 := (hS.cell (p := ⟨g, o + k * 2 + 1, none⟩) hgg).trans hc1; have k3 := (hS.cell (p := ⟨g2, o2 + k * 2 + 1, none⟩) hg).trans hd1; first | (refine Free.run_yes (by rfl) ?_; go_simp; refine Free.o hK hS ?_; exact rfl) | (refine Free.run_no (by rfl) (Free.o hK hS ?_); exact rfl)
          exact Free.nil
          clear hvo
          intro w' hS; intro v0; intro v1; intro v2; intro v3; intro v4; intro v5; intro v6; intro v7; intro v8; intro v9; intro v10; intro v11; intro v12; intro v13; intro v14; intro v15; intro v16; intro v17; intro v18; intro v19; intro v20; intro v21; intro v22; intro v23; (rintro _ rfl); (try simp only [Act.put, List.setIfInBounds_toArray, List.set_cons_zero, List.set_cons_succ]); refine Free.toldE_nil ?_
          go_wp2
          go_roundw
          case rel =>
            refine ⟨k + 1, by omega, by go_num, hS, Lib.hid fun i a b hi ha hb => ?_⟩
            by_cases ei : i = k
            · subst ei; rw [hph.out] at ha; rw [hqh.out] at hb; injection ha with ha; injection hb with hb; rw [← ha, ← hb]; exact hs.out
            · exact hall.out i a b (by omega) ha hb
          case measure => simp [intOf]; omega
        | false =>
          have hno := Lib.hid (sameK_no hph.out hqh.out hs.out)
          go_wp2_with fail
          have hvo := Free.val
          refine Free.wp_facts (M := [0, 0, 3, 7, 15, 0, 0, 96, 224, 480, 1023, 2047, 4095, 4095, 16383, 32767, 65535, 4095, 4095, 397311, 921599, 1970175, 4194303, 8388607, 16777215]) (D := [[], [], [(0, 17), (1, 18)], [(2, 19)], [(3, 20)], [], [], [(5, 22), (6, 23)], [(7, 24)], [(8, 25)], [(4, 21), (9, 26)], [(10, 27)], [(11, 28)], [(11, 28)], [(12, 29), (13, 30), (11, 28)], [(14, 31), (11, 28)], [(15, 32), (11, 28)], [(11, 28)], [(11, 28)], [(17, 34), (18, 35), (11, 28)], [(19, 36), (11, 28)], [(20, 37), (11, 28)], [(16, 33), (21, 38), (11, 28)], [(22, 39), (11, 28)], [(11, 28), (23, 40)]]) (outs := [24]) (soles := []) (E := [(0, 17, false), (1, 18, false), (2, 19, false), (3, 20, false), (4, 21, false), (5, 22, false), (6, 23, false), (7, 24, false), (8, 25, false), (9, 26, false), (10, 27, false), (11, 28, false), (12, 29, false), (13, 30, false), (14, 31, false), (15, 32, false), (16, 33, false), (17, 34, false), (18, 35, false), (19, 36, false), (20, 37, false), (21, 38, false), (22, 39, false), (23, 40, false), (24, 41, true)]) (N := 42) (S := (fun w' => Below w.heap.size w w')) [Free.Fact.is ?_, Free.Fact.is ?_, Free.Fact.is ?_, Free.Fact.is ?_, Free.Fact.is ?_, Free.Fact.is ?_, Free.Fact.is ?_, Free.Fact.is ?_, Free.Fact.is ?_, Free.Fact.is ?_, Free.Fact.is ?_, Free.Fact.is ?_, Free.Fact.is ?_, Free.Fact.is ?_, Free.Fact.is ?_, Free.Fact.is ?_, Free.Fact.is ?_, Free.Fact.is ?_, Free.Fact.is ?_, Free.Fact.is ?_, Free.Fact.is ?_, Free.Fact.is ?_, Free.Fact.is ?_, Free.Fact.is ?_, Free.Fact.is ?_] (by kernel_rfl) (by kernel_rfl) rfl (bl.drew) ?_ ?_
          rotate_left 25
          refine Free.cons ?_ ?_
          · intro w' hS; intro K hK; have k0 := (hS.cell (p := ⟨g, o + k * 2, none⟩) hgg).trans hc0; have k1 := (hS.cell (p := ⟨g2, o2 + k * 2, none⟩) hg).trans hd0; have k2 := (hS.cell (p := ⟨g, o + k * 2 + 1, none⟩) hgg).trans hc1; have k3 := (hS.cell (p := ⟨g2, o2 + k * 2 + 1, none⟩) hg).trans hd1; first | (refine Free.run_yes (by rfl) ?_; go_simp; refine Free.o hK hS ?_; exact rfl) | (refine Free.run_no (by rfl) (Free.o hK hS ?_); exact rfl)
          refine Free.cons ?_ ?_
          · intro w' hS; intro K hK; have k0 := (hS.cell (p := ⟨g, o + k * 2, none⟩) hgg).trans hc0; have k1 := (hS.cell (p := ⟨g2, o2 + k * 2, none⟩) hg).trans hd0; have k2 := (hS.cell (p := ⟨g, o + k * 2 + 1, none⟩) hgg).trans hc1; have k3 := (hS.cell (p := ⟨g2, o2 + k * 2 + 1, none⟩) hg).trans hd1; first | (refine Free.run_yes (by rfl) ?_; go_simp; refine Free.o hK hS ?_; exact rfl) | (refine Free.run_no (by rfl) (Free.o hK hS ?_); exact rfl)
          refine Free.cons ?_ ?_
          · intro w' hS; (rintro _ rfl); (rintro _ rfl); intro K hK; have k0 := (hS.cell (p := ⟨g, o + k * 2, none⟩) hgg).trans hc0; have k1 := (hS.cell (p := ⟨g2, o2 + k * 2, none⟩) hg).trans hd0; have k2 := (hS.cell (p := ⟨g, o + k * 2 + 1, none⟩) hgg).trans hc1; have k3 := (hS.cell (p := ⟨g2, o2 + k * 2 + 1, none⟩) hg).trans hd1; first | (refine Free.run_yes (by rfl) ?_; go_simp; refine Free.o hK hS ?_; exact rfl) | (refine Free.run_no (by rfl) (Free.o hK hS ?_); exact rfl)
          refine Free.cons ?_ ?_
          · intro w' hS; (rintro _ rfl); intro K hK; have k0 := (hS.cell (p := ⟨g, o + k * 2, none⟩) hgg).trans hc0; have k1 := (hS.cell (p := ⟨g2, o2 + k * 2, none⟩) hg).trans hd0; have k2 := (hS.cell (p := ⟨g, o + k * 2 + 1, none⟩) hgg).trans hc1; have k3 := (hS.cell (p := ⟨g2, o2 + k * 2 + 1, none⟩) hg).trans hd1; first | (refine Free.run_yes (by rfl) ?_; go_simp; refine Free.o hK hS ?_; exact rfl) | (refine Free.run_no (by rfl) (Free.o hK hS ?_); exact rfl)
          refine Free.cons ?_ ?_
          · intro w' hS; (rintro _ rfl); intro K hK; have k0 := (hS.cell (p := ⟨g, o + k * 2, none⟩) hgg).trans hc0; have k1 := (hS.cell (p := ⟨g2, o2 + k * 2, none⟩) hg).trans hd0; have k2 := (hS.cell (p := ⟨g, o + k * 2 + 1, none⟩) hgg).trans hc1; have k3 := (hS.cell (p := ⟨g2, o2 + k * 2 + 1, none⟩) hg).trans hd1; first | (refine Free.run_yes (by rfl) ?_; go_simp; refine Free.o hK hS ?_; exact rfl) | (refine Free.run_no (by rfl) (Free.o hK hS ?_); exact rfl)
          refine Free.cons ?_ ?_
          · intro w' hS; intro K hK; have k0 := (hS.cell (p := ⟨g, o + k * 2, none⟩) hgg).trans hc0; have k1 := (hS.cell (p := ⟨g2, o2 + k * 2, none⟩) hg).trans hd0; have k2 := (hS.cell (p := ⟨g, o + k * 2 + 1, none⟩) hgg).trans hc1; have k3 := (hS.cell (p := ⟨g2, o2 + k * 2 + 1, none⟩) hg).trans hd1; first | (refine Free.run_yes (by rfl) ?_; go_simp; refine Free.o hK hS ?_; exact rfl) | (refine Free.run_no (by rfl) (Free.o hK hS ?_); exact rfl)
          refine Free.cons ?_ ?_
          · intro w' hS; intro K hK; have k0 := (hS.cell (p := ⟨g, o + k * 2, none⟩) hgg).trans hc0; have k1 := (hS.cell (p := ⟨g2, o2 + k * 2, none⟩) hg).trans hd0; have k2 := (hS.cell (p := ⟨g, o + k * 2 + 1, none⟩) hgg).trans hc1; have k3 := (hS.cell (p := ⟨g2, o2 + k * 2 + 1, none⟩) hg).trans hd1; first | (refine Free.run_yes (by rfl) ?_; go_simp; refine Free.o hK hS ?_; exact rfl) | (refine Free.run_no (by rfl) (Free.o hK hS ?_); exact rfl)
          refine Free.cons ?_ ?_
          · intro w' hS; (rintro _ rfl); (rintro _ rfl); intro K hK; have k0 := (hS.cell (p := ⟨g, o + k * 2, none⟩) hgg).trans hc0; have k1 := (hS.cell (p := ⟨g2, o2 + k * 2, none⟩) hg).trans hd0; have k2 := (hS.cell (p := ⟨g, o + k * 2 + 1, none⟩) hgg).trans hc1; have k3 := (hS.cell (p := ⟨g2, o2 + k * 2 + 1, none⟩) hg).trans hd1; first | (refine Free.run_yes (by rfl) ?_; go_simp; refine Free.o hK hS ?_; exact rfl) | (refine Free.run_no (by rfl) (Free.o hK hS ?_); exact rfl)
          refine Free.cons ?_ ?_
          · intro w' hS; (rintro _ rfl); intro K hK; have k0 := (hS.cell (p := ⟨g, o + k * 2, none⟩) hgg).trans hc0; have k1 := (hS.cell (p := ⟨g2, o2 + k * 2, none⟩) hg).trans hd0; have k2 := (hS.cell (p := ⟨g, o + k * 2 + 1, none⟩) hgg).trans hc1; have k3 := (hS.cell (p := ⟨g2, o2 + k * 2 + 1, none⟩) hg).trans hd1; first | (refine Free.run_yes (by rfl) ?_; go_simp; refine Free.o hK hS ?_; exact rfl) | (refine Free.run_no (by rfl) (Free.o hK hS ?_); exact rfl)
          refine Free.cons ?_ ?_
          · intro w' hS; (rintro _ rfl); intro K hK; have k0 := (hS.cell (p := ⟨g, o + k * 2, none⟩) hgg).trans hc0; have k1 := (hS.cell (p := ⟨g2, o2 + k * 2, none⟩) hg).trans hd0; have k2 := (hS.cell (p := ⟨g, o + k * 2 + 1, none⟩) hgg).trans hc1; have k3 := (hS.cell (p := ⟨g2, o2 + k * 2 + 1, none⟩) hg).trans hd1; first | (refine Free.run_yes (by rfl) ?_; go_simp; refine Free.o hK hS ?_; exact rfl) | (refine Free.run_no (by rfl) (Free.o hK hS ?_); exact rfl)
          refine Free.cons ?_ ?_
          · intro w' hS; (rintro _ rfl); (rintro _ rfl); intro K hK; have k0 := (hS.cell (p := ⟨g, o + k * 2, none⟩) hgg).trans hc0; have k1 := (hS.cell (p := ⟨g2, o2 + k * 2, none⟩) hg).trans hd0; have k2 := (hS.cell (p := ⟨g, o + k * 2 + 1, none⟩) hgg).trans hc1; have k3 := (hS.cell (p := ⟨g2, o2 + k * 2 + 1, none⟩) hg).trans hd1; first | (refine Free.run_yes (by rfl) ?_; go_simp; refine Free.o hK hS ?_; exact rfl) | (refine Free.run_no (by rfl) (Free.o hK hS ?_); exact rfl)
          refine Free.cons ?_ ?_
          · intro w' hS; (rintro _ rfl); intro K hK; have k0 := (hS.cell (p := ⟨g, o + k * 2, none⟩) hgg).trans hc0; have k1 := (hS.cell (p := ⟨g2, o2 + k * 2, none⟩) hg).trans hd0; have k2 := (hS.cell (p := ⟨g, o + k * 2 + 1, none⟩) hgg).trans hc1; have k3 := (hS.cell (p := ⟨g2, o2 + k * 2 + 1, none⟩) hg).trans hd1; first | (refine Free.run_yes (by rfl) ?_; go_simp; refine Free.o hK hS ?_; exact rfl) | (refine Free.run_no (by rfl) (Free.o hK hS ?_); exact rfl)
          refine Free.cons ?_ ?_
          · intro w' hS; (rintro _ rfl); intro K hK; have k0 := (hS.cell (p := ⟨g, o + k * 2, none⟩) hgg).trans hc0; have k1 := (hS.cell (p := ⟨g2, o2 + k * 2, none⟩) hg).trans hd0; have k2 := (hS.cell (p := ⟨g, o + k * 2 + 1, none⟩) hgg).trans hc1; have k3 := (hS.cell (p := ⟨g2, o2 + k * 2 + 1, none⟩) hg).trans hd1; first | (refine Free.run_yes (by rfl) ?_; go_simp; refine Free.o hK hS ?_; exact rfl) | (refine Free.run_no (by rfl) (Free.o hK hS ?_); exact rfl)
          refine Free.cons ?_ ?_
          · intro w' hS; (rintro _ rfl); intro K hK; have k0 := (hS.cell (p := ⟨g, o + k * 2, none⟩) hgg).trans hc0; have k1 := (hS.cell (p := ⟨g2, o2 + k * 2, none⟩) hg).trans hd0; have k2 := (hS.cell (p := ⟨g, o + k * 2 + 1, none⟩) hgg).trans hc1; have k3 := (hS.cell (p := ⟨g2, o2 + k * 2 + 1, none⟩) hg).trans hd1; first | (refine Free.run_yes (by rfl) ?_; go_simp; refine Free.o hK hS ?_; exact rfl) | (refine Free.run_no (by rfl) (Free.o hK hS ?_); exact rfl)
          refine Free.cons ?_ ?_
          · intro w' hS; (rintro _ rfl); (rintro _ rfl); (rintro _ rfl); intro K hK; have k0 := (hS.cell (p := ⟨g, o + k * 2, none⟩) hgg).trans hc0; have k1 := (hS.cell (p := ⟨g2, o2 + k * 2, none⟩) hg).trans hd0; have k2 := (hS.cell (p := ⟨g, o + k * 2 + 1, none⟩) hgg).trans hc1; have k3 := (hS.cell (p := ⟨g2, o2 + k * 2 + 1, none⟩) hg).trans hd1; first | (refine Free.run_yes (by rfl) ?_; go_simp; refine Free.o hK hS ?_; exact rfl) | (refine Free.run_no (by rfl) (Free.o hK hS ?_); exact rfl)
          refine Free.cons ?_ ?_
          · intro w' hS; (rintro _ rfl); (rintro _ rfl); intro K hK; have k0 := (hS.cell (p := ⟨g, o + k * 2, none⟩) hgg).trans hc0; have k1 := (hS.cell (p := ⟨g2, o2 + k * 2, none⟩) hg).trans hd0; have k2 := (hS.cell (p := ⟨g, o + k * 2 + 1, none⟩) hgg).trans hc1; have k3 := (hS.cell (p := ⟨g2, o2 + k * 2 + 1, none⟩) hg).trans hd1; first | (refine Free.run_yes (by rfl) ?_; go_simp; refine Free.o hK hS ?_; exact rfl) | (refine Free.run_no (by rfl) (Free.o hK hS ?_); exact rfl)
          refine Free.cons ?_ ?_
          · intro w' hS; (rintro _ rfl); (rintro _ rfl); intro K hK; have k0 := (hS.cell (p := ⟨g, o + k * 2, none⟩) hgg).trans hc0; have k1 := (hS.cell (p := ⟨g2, o2 + k * 2, none⟩) hg).trans hd0; have k2 := (hS.cell (p := ⟨g, o + k * 2 + 1, none⟩) hgg).trans hc1; have k3 := (hS.cell (p := ⟨g2, o2 + k * 2 + 1, none⟩) hg).trans hd1; first | (refine Free.run_yes (by rfl) ?_; go_simp; refine Free.o hK hS ?_; exact rfl) | (refine Free.run_no (by rfl) (Free.o hK hS ?_); exact rfl)
          refine Free.cons ?_ ?_
          · intro w' hS; (rintro _ rfl); intro K hK; have k0 := (hS.cell (p := ⟨g, o + k * 2, none⟩) hgg).trans hc0; have k1 := (hS.cell (p := ⟨g2, o2 + k * 2, none⟩) hg).trans hd0; have k2 := (hS.cell (p := ⟨g, o + k * 2 + 1, none⟩) hgg).trans hc1; have k3 := (hS.cell (p := ⟨g2, o2 + k * 2 + 1, none⟩) hg).trans hd1; first | (refine Free.run_yes (by rfl) ?_; go_simp; refine Free.o hK hS ?_; exact rfl) | (refine Free.run_no (by rfl) (Free.o hK hS ?_); exact rfl)
          refine Free.cons ?_ ?_
          · intro w' hS; (rintro _ rfl); intro K hK; have k0 := (hS.cell (p := ⟨g, o + k * 2, none⟩) hgg).trans hc0; have k1 := (hS.cell (p := ⟨g2, o2 + k * 2, none⟩) hg).trans hd0; have k2 := (hS.cell (p := ⟨g, o + k * 2 + 1, none⟩) hgg).trans hc1; have k3 := (hS.cell (p := ⟨g2, o2 + k * 2 + 1, none⟩) hg).trans hd1; first | (refine Free.run_yes (by rfl) ?_; go_simp; refine Free.o hK hS ?_; exact rfl) | (refine Free.run_no (by rfl) (Free.o hK hS ?_); exact rfl)
          refine Free.cons ?_ ?_
          · intro w' hS; (rintro _ rfl); (rintro _ rfl); (rintro _ rfl); intro K hK; have k0 := (hS.cell (p := ⟨g, o + k * 2, none⟩) hgg).trans hc0; have k1 := (hS.cell (p := ⟨g2, o2 + k * 2, none⟩) hg).trans hd0; have k2 := (hS.cell (p := ⟨g, o + k * 2 + 1, none⟩) hgg).trans hc1; have k3 := (hS.cell (p := ⟨g2, o2 + k * 2 + 1, none⟩) hg).trans hd1; first | (refine Free.run_yes (by rfl) ?_; go_simp; refine Free.o hK hS ?_; exact rfl) | (refine Free.run_no (by rfl) (Free.o hK hS ?_); exact rfl)
          refine Free.cons ?_ ?_
          · intro w' hS; (rintro _ rfl); (rintro _ rfl); intro K hK; have k0 := (hS.cell (p := ⟨g, o + k * 2, none⟩) hgg).trans hc0; have k1 := (hS.cell (p := ⟨g2, o2 + k * 2, none⟩) hg).trans hd0; have k2 := (hS.cell (p := ⟨g, o + k * 2 + 1, none⟩) hgg).trans hc1; have k3 := (hS.cell (p := ⟨g2, o2 + k * 2 + 1, none⟩) hg).trans hd1; first | (refine Free.run_yes (by rfl) ?_; go_simp; refine Free.o hK hS ?_; exact rfl) | (refine Free.run_no (by rfl) (Free.o hK hS ?_); exact rfl)
          refine Free.cons ?_ ?_
          · intro w' hS; (rintro _ rfl); (rintro _ rfl); intro K hK; have k0 := (hS.cell (p := ⟨g, o + k * 2, none⟩) hgg).trans hc0; have k1 := (hS.cell (p := ⟨g2, o2 + k * 2, none⟩) hg).trans hd0; have k2 := (hS.cell (p := ⟨g, o + k * 2 + 1, none⟩) hgg).trans hc1; have k3 := (hS.cell (p := ⟨g2, o2 + k * 2 + 1, none⟩) hg).trans hd1; first | (refine Free.run_yes (by rfl) ?_; go_simp; refine Free.o hK hS ?_; exact rfl) | (refine Free.run_no (by rfl) (Free.o hK hS ?_); exact rfl)
          refine Free.cons ?_ ?_
          · intro w' hS; (rintro _ rfl); (rintro _ rfl); (rintro _ rfl); intro K hK; have k0 := (hS.cell (p := ⟨g, o + k * 2, none⟩) hgg).trans hc0; have k1 := (hS.cell (p := ⟨g2, o2 + k * 2, none⟩) hg).trans hd0; have k2 := (hS.cell (p := ⟨g, o + k * 2 + 1, none⟩) hgg).trans hc1; have k3 := (hS.cell (p := ⟨g2, o2 + k * 2 + 1, none⟩) hg).trans hd1; refine Free.run_yes (by rfl) ?_; (go_simp; go_at_call 20; refine (HE.out _ (hE.below hS) (hE2.below hS)).mono ?_; rintro e w' ⟨rfl, rfl⟩; have hb := Below.refl w'.heap.size w'; go_simp; refine Free.c hK (keep hS hb) hb ?_; exact rfl)
          refine Free.cons ?_ ?_
          · intro w' hS; (rintro _ rfl); (rintro _ rfl); intro K hK; have k0 := (hS.cell (p := ⟨g, o + k * 2, none⟩) hgg).trans hc0; have k1 := (hS.cell (p := ⟨g2, o2 + k * 2, none⟩) hg).trans hd0; have k2 := (hS.cell (p := ⟨g, o + k * 2 + 1, none⟩) hgg).trans hc1; have k3 := (hS.cell (p := ⟨g2, o2 + k * 2 + 1, none⟩) hg).trans hd1; first | (refine Free.run_yes (by rfl) ?_; go_simp; refine Free.o hK hS ?_; exact rfl) | (refine Free.run_no (by rfl) (Free.o hK hS ?_); exact rfl)
          refine Free.cons ?_ ?_
          · intro w' hS; (rintro _ rfl); (rintro _ rfl); intro K hK; have k0 := (hS.cell (p := ⟨g, o + k * 2, none⟩) hgg).trans hc0; have k1 := (hS.cell (p := ⟨g2, o2 + k * 2, none⟩) hg).trans hd0; have k2 := (hS.cell (p := ⟨g, o + k * 2 + 1, none⟩) hgg).trans hc1; have k3 := (hS.cell (p := ⟨g2, o2 + k * 2 + 1, none⟩) hg).trans hd1; first | (refine Free.run_yes (by rfl) ?_; go_simp; refine Free.o hK hS ?_; exact rfl) | (refine Free.run_no (by rfl) (Free.o hK hS ?_); exact rfl)
          exact Free.nil
          clear hvo
          intro w' hS; intro v0; intro v1; intro v2; intro v3; intro v4; intro v5; intro v6; intro v7; intro v8; intro v9; intro v10; intro v11; intro v12; intro v13; intro v14; intro v15; intro v16; intro v17; intro v18; intro v19; intro v20; intro v21; intro v22; intro v23; (rintro _ rfl); (try simp only [Act.put, List.setIfInBounds_toArray, List.set_cons_zero, List.set_cons_succ]); refine Free.toldE_nil ?_
          go_wp2
          go_ret
          exact ⟨(show Ending.returned (.bool false) = .returned (.bool R) from by rewrite [← hres.out, hno.out]; rfl), hS⟩
    · have hkn : n = k := by omega
      have hyes := Lib.hid (sameK_yes (L := L) (M := M) (by omega) (fun i a b hi ha hb => hall.out i a b (by omega) ha hb))
      subst hkn
      go_wp2
      go_ret
      exact ⟨(show Ending.returned (.bool true) = .returned (.bool R) from by rewrite [← hres.out, hyes.out]; rfl), bl⟩
end Go.Proofs.Ytfldmejjepakeaa
