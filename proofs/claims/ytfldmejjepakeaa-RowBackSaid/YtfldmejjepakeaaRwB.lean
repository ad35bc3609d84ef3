/- Rows alike: row.Same, and the document's. -/
import Derived.Test.YtfldmejjepakeaaRwA
namespace Go.Proofs.Ytfldmejjepakeaa
open Go.ChangeShapes Go.WideShapes Go.ChangeAt Go.RowKit
open Go.ChangeMaps (open_string shut_string)
set_option linter.unusedVariables false
set_option linter.unusedSimpArgs false
set_option maxRecDepth 100000
open Go.Deep

def same1V (a b : ValR) : Bool := sameV a.k a.n a.s b.k b.n b.s
theorem same1V_iff {a b : ValR} : same1V a b = true ↔ a = b := by
  cases a; cases b
  simp [same1V, sameV]
/-- Are all alike? -/
def allV (L M : List ValR) : Bool := L.length == M.length && (List.range L.length).all fun i => same1V (L.getD i default) (M.getD i default)
theorem allV_len {L M : List ValR} (h : L.length ≠ M.length) : allV L M = false := by
  unfold allV
  rw [beq_eq_false_iff_ne.2 h]
  rfl
theorem allV_no {L M : List ValR} {i : Nat} {a b : ValR} (ha : L[i]? = some a) (hb : M[i]? = some b) (h : same1V a b = false) : allV L M = false := by
  have hi := (List.getElem?_eq_some_iff.1 ha).1
  unfold allV
  rw [Bool.and_eq_false_iff]
  right
  rw [List.all_eq_false]
  refine ⟨i, List.mem_range.2 hi, ?_⟩
  simp [List.getD, ha, hb, h]
theorem allV_yes {L M : List ValR} (hl : L.length = M.length) (h : ∀ i a b, i < L.length → L[i]? = some a → M[i]? = some b → same1V a b = true) : allV L M = true := by
  unfold allV
  rw [hl, beq_self_eq_true, Bool.true_and, List.all_eq_true]
  intro i hi
  have hi := List.mem_range.1 hi
  have h1 := List.getElem?_eq_getElem (l := L) (by omega : i < L.length)
  have h2 := List.getElem?_eq_getElem hi
  simp only [List.getD, h1, h2, Option.getD_some]
  exact h i _ _ (by omega) h1 h2
theorem allV_iff {L M : List ValR} : allV L M = true ↔ L = M := by
  constructor
  · intro h
    have hl : L.length = M.length := by
      rcases Nat.lt_trichotomy L.length M.length with hh | hh | hh
      · rw [allV_len (by omega)] at h; cases h
      · exact hh
      · rw [allV_len (by omega)] at h; cases h
    apply List.ext_getElem?
    intro i
    by_cases hi : i < L.length
    · have h1 := List.getElem?_eq_getElem hi
      have h2 := List.getElem?_eq_getElem (l := M) (by omega : i < M.length)
      rw [h1, h2]
      by_cases hs : same1V L[i] M[i] = true
      · rw [same1V_iff.1 hs]
      · rw [allV_no h1 h2 (by simpa using hs)] at h; cases h
    · rw [List.getElem?_eq_none (by omega), List.getElem?_eq_none (by omega)]
  · rintro rfl
    exact allV_yes rfl (fun i a b _ ha hb => by rw [ha] at hb; injection hb with hb; rw [hb]; exact same1V_iff.2 rfl)
theorem same1V_no {a b : ValR} (h : same1V a b = false) : (a.k == b.k) = false ∨ ((a.k == b.k) = true ∧ (a.n == b.n) = false) ∨ ((a.k == b.k) = true ∧ (a.n == b.n) = true ∧ (a.s == b.s) = false) := by
  unfold same1V sameV at h
  cases h1 : (a.k == b.k)
  · exact .inl rfl
  · cases h2 : (a.n == b.n)
    · exact .inr (.inl ⟨rfl, rfl⟩)
    · rw [h1, h2] at h
      exact .inr (.inr ⟨rfl, rfl, by simpa using h⟩)
set_option maxHeartbeats 4000000 in
theorem equal_vals (A : Option Addr) (n c : Nat) (L : List ValR) (A2 : Option Addr) (n2 c2 : Nat) (M : List ValR) (w : World) (h : RV w A n c L) (h2 : RV w A2 n2 c2 M) :
    Calls Try.prog 51 #[.slice A n c, .slice A2 n2 c2] w fun e w' => e = .returned (.bool (allV L M)) ∧ Below w.heap.size w w' := by
  obtain ⟨R, hR⟩ : ∃ R, allV L M = R := ⟨_, rfl⟩
  rw [hR]
  have hres := Lib.hid hR
  clear hR
  have hnm : n ≤ maxLen := Nat.le_trans h.cap h.max
  have hnm2 : n2 ≤ maxLen := Nat.le_trans h2.cap h2.max
  unfold maxLen at hnm hnm2
  have hLn := h.len
  have hMn := h2.len
  by_cases hl : n = n2
  rotate_left
  · have hno := Lib.hid (allV_len (L := L) (M := M) (by omega))
    have e1 : ((n : Int) != (n2 : Int)) = true := by rw [bne_iff_ne]; omega
    go_enter Try.func51, Try.ntmps51
    go_wp2
    go_ret
    exact ⟨(show Ending.returned (.bool false) = .returned (.bool R) from by rewrite [← hres.out, hno.out]; rfl), Below.refl _ _⟩
  subst hl
  go_enter Try.func51, Try.ntmps51
  go_wp2
  go_loopw [13] (fun i wr => ∃ k : Nat, k ≤ n ∧ i = .int .i64 k ∧ Below w.heap.size w wr ∧ Hid (∀ i a b, i < k → L[i]? = some a → M[i]? = some b → same1V a b = true)) (fun i _ => n - (intOf i).toNat)
  case atStart => exact ⟨0, by omega, rfl, (by repeat (first | exact Below.refl _ _ | assumption | apply below_drewN' | apply Below.drew | refine Below.alloc ?_ (by first | omega | (simp; done) | (simp; omega)) _ | refine Below.setCell ?_ (by first | omega | (simp; done) | (simp; omega)) _)), Lib.hid (fun i a b hi => absurd hi (by omega))⟩
  case round =>
    obtain ⟨k, hk, rfl, bl, hall⟩ := hrel
    by_cases hlt : k < n
    · obtain ⟨p, hp⟩ : ∃ p, L[k]? = some p := ⟨_, List.getElem?_eq_getElem (by omega)⟩
      obtain ⟨q, hq⟩ : ∃ q, M[k]? = some q := ⟨_, List.getElem?_eq_getElem (by omega)⟩
      obtain ⟨g, o, rfl, hc⟩ := h.at_ (by omega)
      obtain ⟨c0, c1, c2'⟩ := hc k p hp
      obtain ⟨g2, o2, rfl, hd⟩ := h2.at_ (by omega)
      obtain ⟨d0, d1, d2⟩ := hd k q hq
      have c2 := c2'
      have hph := Lib.hid hp
      have hqh := Lib.hid hq
      clear hc hd hp hq c2'
      have hg2 := World.block_lt_of_cell? w _ d0
      have hg := World.block_lt_of_cell? w _ c0
      have hl1 := str_list p.s
      have hl2 := str_list q.s
      by_cases hs : same1V p q = true
      · have hsh := Lib.hid hs
        have hpq := same1V_iff.1 hs
        rw [← hpq] at d0 d1 d2
        clear hpq hs hl2
        go_wp2_with fail
        have hvo := Free.val
        refine Free.wp_facts (M := [0, 0, 3, 7, 0, 0, 48, 112, 255]) (D := [[], [], [(0, 16), (1, 17)], [(2, 18)], [], [], [(4, 20), (5, 21)], [(6, 22)], [(3, 19), (7, 23)]]) (outs := [8]) (soles := []) (E := [(0, 16, false), (1, 17, false), (2, 18, false), (3, 19, false), (4, 20, false), (5, 21, false), (6, 22, false), (7, 23, false), (8, 24, true)]) (N := 26) (S := (fun w' => Below w.heap.size w w')) [Free.Fact.is ?_, Free.Fact.is ?_, Free.Fact.is ?_, Free.Fact.is ?_, Free.Fact.is ?_, Free.Fact.is ?_, Free.Fact.is ?_, Free.Fact.is ?_, Free.Fact.is ?_] (by kernel_rfl) (by kernel_rfl) rfl (bl.drew) ?_ ?_
        rotate_left 9
        refine Free.cons ?_ ?_
        · intro w' hS; intro K hK; have k0 := (hS.cell (p := ⟨g, o + k * 3, none⟩) hg).trans c0; have k1 := (hS.cell (p := ⟨g, o + k * 3 + 1, none⟩) hg).trans c1; have k2 := (hS.cell (p := ⟨g, o + k * 3 + 2, none⟩) hg).trans c2; have k3 := (hS.cell (p := ⟨g2, o2 + k * 3, none⟩) hg2).trans d0; have k4 := (hS.cell (p := ⟨g2, o2 + k * 3 + 1, none⟩) hg2).trans d1; have k5 := (hS.cell (p := ⟨g2, o2 + k * 3 + 2, none⟩) hg2).trans d2; first | (refine Free.run_yes (by rfl) ?_; go_simp; refine Free.o hK hS ?_; exact rfl) | (refine Free.run_no (by rfl) (Free.o hK hS ?_); exact rfl)
        refine Free.cons ?_ ?_
        · intro w' hS; intro K hK; have k0 := (hS.cell (p := ⟨g, o + k * 3, none⟩) hg).trans c0; have k1 := (hS.cell (p := ⟨g, o + k * 3 + 1, none⟩) hg).trans c1; have k2 := (hS.cell (p := ⟨g, o + k * 3 + 2, none⟩) hg).trans c2; have k3 := (hS.cell (p := ⟨g2, o2 + k * 3, none⟩) hg2).trans d0; have k4 := (hS.cell (p := ⟨g2, o2 + k * 3 + 1, none⟩) hg2).trans d1; have k5 := (hS.cell (p := ⟨g2, o2 + k * 3 + 2, none⟩) hg2).trans d2; first | (refine Free.run_yes (by rfl) ?_; go_simp; refine Free.o hK hS ?_; exact rfl) | (refine Free.run_no (by rfl) (Free.o hK hS ?_); exact rfl)
        refine Free.cons ?_ ?_
        · intro w' hS; (rintro _ rfl); (rintro _ rfl); intro K hK; have k0 := (hS.cell (p := ⟨g, o + k * 3, none⟩) hg).trans c0; have k1 := (hS.cell (p := ⟨g, o + k * 3 + 1, none⟩) hg).trans c1; have k2 := (hS.cell (p := ⟨g, o + k * 3 + 2, none⟩) hg).trans c2; have k3 := (hS.cell (p := ⟨g2, o2 + k * 3, none⟩) hg2).trans d0; have k4 := (hS.cell (p := ⟨g2, o2 + k * 3 + 1, none⟩) hg2).trans d1; have k5 := (hS.cell (p := ⟨g2, o2 + k * 3 + 2, none⟩) hg2).trans d2; first | (refine Free.run_yes (by rfl) ?_; go_simp; refine Free.o hK hS ?_; exact rfl) | (refine Free.run_no (by rfl) (Free.o hK hS ?_); exact rfl)
        refine Free.cons ?_ ?_
        · intro w' hS; (rintro _ rfl); intro K hK; have k0 := (hS.cell (p := ⟨g, o + k * 3, none⟩) hg).trans c0; have k1 := (hS.cell (p := ⟨g, o + k * 3 + 1, none⟩) hg).trans c1; have k2 := (hS.cell (p := ⟨g, o + k * 3 + 2, none⟩) hg).trans c2; have k3 := (hS.cell (p := ⟨g2, o2 + k * 3, none⟩) hg2).trans d0; have k4 := (hS.cell (p := ⟨g2, o2 + k * 3 + 1, none⟩) hg2).trans d1; have k5 := (hS.cell (p := ⟨g2, o2 + k * 3 + 2, none⟩) hg2).trans d2; first | (refine Free.run_yes (by rfl) ?_; go_simp; refine Free.o hK hS ?_; exact rfl) | (refine Free.run_no (by rfl) (Free.o hK hS ?_); exact rfl)
        refine Free.cons ?_ ?_
        · intro w' hS; intro K hK; have k0 := (hS.cell (p := ⟨g, o + k * 3, none⟩) hg).trans c0; have k1 := (hS.cell (p := ⟨g, o + k * 3 + 1, none⟩) hg).trans c1; have k2 := (hS.cell (p := ⟨g, o + k * 3 + 2, none⟩) hg).trans c2; have k3 := (hS.cell (p := ⟨g2, o2 + k * 3, none⟩) hg2).trans d0; have k4 := (hS.cell (p := ⟨g2, o2 + k * 3 + 1, none⟩) hg2).trans d1; have k5 := (hS.cell (p := ⟨g2, o2 + k * 3 + 2, none⟩) hg2).trans d2; first | (refine Free.run_yes (by rfl) ?_; go_simp; refine Free.o hK hS ?_; exact rfl) | (refine Free.run_no (by rfl) (Free.o hK hS ?_); exact rfl)
        refine Free.cons ?_ ?_
        · intro w' hS; intro K hK; have k0 := (hS.cell (p := ⟨g, o + k * 3, none⟩) hg).trans c0; have k1 := (hS.cell (p := ⟨g, o + k * 3 + 1, none⟩) hg).trans c1; have k2 := (hS.cell (p := ⟨g, o + k * 3 + 2, none⟩) hg).trans c2; have k3 := (hS.cell (p := ⟨g2, o2 + k * 3, none⟩) hg2).trans d0; have k4 := (hS.cell (p := ⟨g2, o2 + k * 3 + 1, none⟩) hg2).trans d1; have k5 := (hS.cell (p := ⟨g2, o2 + k * 3 + 2, none⟩) hg2).trans d2; first | (refine Free.run_yes (by rfl) ?_; go_simp; refine Free.o hK hS ?_; exact rfl) | (refine Free.run_no (by rfl) (Free.o hK hS ?_); exact rfl)
        refine Free.cons ?_ ?_
        · intro w' hS; (rintro _ rfl); (rintro _ rfl); intro K hK; have k0 := (hS.cell (p := ⟨g, o + k * 3, none⟩) hg).trans c0; have k1 := (hS.cell (p := ⟨g, o + k * 3 + 1, none⟩) hg).trans c1; have k2 := (hS.cell (p := ⟨g, o + k * 3 + 2, none⟩) hg).trans c2; have k3 := (hS.cell (p := ⟨g2, o2 + k * 3, none⟩) hg2).trans d0; have k4 := (hS.cell (p := ⟨g2, o2 + k * 3 + 1, none⟩) hg2).trans d1; have k5 := (hS.cell (p := ⟨g2, o2 + k * 3 + 2, none⟩) hg2).trans d2; first | (refine Free.run_yes (by rfl) ?_; go_simp; refine Free.o hK hS ?_; exact rfl) | (refine Free.run_no (by rfl) (Free.o hK hS ?_); exact rfl)
        refine Free.cons ?_ ?_
        · intro w' hS; (rintro _ rfl); intro K hK; have k0 := (hS.cell (p := ⟨g, o + k * 3, none⟩) hg).trans c0; have k1 := (hS.cell (p := ⟨g, o + k * 3 + 1, none⟩) hg).trans c1; have k2 := (hS.cell (p := ⟨g, o + k * 3 + 2, none⟩) hg).trans c2; have k3 := (hS.cell (p := ⟨g2, o2 + k * 3, none⟩) hg2).trans d0; have k4 := (hS.cell (p := ⟨g2, o2 + k * 3 + 1, none⟩) hg2).trans d1; have k5 := (hS.cell (p := ⟨g2, o2 + k * 3 + 2, none⟩) hg2).trans d2; first | (refine Free.run_yes (by rfl) ?_; go_simp; refine Free.o hK hS ?_; exact rfl) | (refine Free.run_no (by rfl) (Free.o hK hS ?_); exact rfl)
        refine Free.cons ?_ ?_
        · intro w' hS; (rintro _ rfl); (rintro _ rfl); intro K hK; have k0 := (hS.cell (p := ⟨g, o + k * 3, none⟩) hg).trans c0; have k1 := (hS.cell (p := ⟨g, o + k * 3 + 1, none⟩) hg).trans c1; have k2 := (hS.cell (p := ⟨g, o + k * 3 + 2, none⟩) hg).trans c2; have k3 := (hS.cell (p := ⟨g2, o2 + k * 3, none⟩) hg2).trans d0; have k4 := (hS.cell (p := ⟨g2, o2 + k * 3 + 1, none⟩) hg2).trans d1; have k5 := (hS.cell (p := ⟨g2, o2 + k * 3 + 2, none⟩) hg2).trans d2; first | (refine Free.run_yes (by rfl) ?_; go_simp; refine Free.o hK hS ?_; exact rfl) | (refine Free.run_no (by rfl) (Free.o hK hS ?_); exact rfl)
        exact Free.nil
        clear hvo
        intro w' hS; intro v0; intro v1; intro v2; intro v3; intro v4; intro v5; intro v6; intro v7; (rintro _ rfl); (try simp only [Act.put, List.setIfInBounds_toArray, List.set_cons_zero, List.set_cons_succ]); refine Free.toldE_nil ?_
        go_wp2
        go_roundw
        case rel =>
          refine ⟨k + 1, by omega, by go_num, hS, Lib.hid fun i a b hi ha hb => ?_⟩
          by_cases ei : i = k
          · subst ei; rw [hph.out] at ha; rw [hqh.out] at hb; injection ha with ha; injection hb with hb; rw [← ha, ← hb]; exact hsh.out
          · exact hall.out i a b (by omega) ha hb
        case measure => simp [intOf]; omega
      have hno := Lib.hid (allV_no hph.out hqh.out (by simpa using hs))
      have hsf : same1V p q = false := by simpa using hs
      clear hs
      rcases same1V_no hsf with f1 | ⟨f1, f2⟩ | ⟨f1, f2, f3⟩
      · clear hsf
        go_wp2_with fail
        have hvo := Free.val
        refine Free.wp_facts (M := [0, 0, 3, 7, 0, 0, 48, 112, 255]) (D := [[], [], [(0, 16), (1, 17)], [(2, 18)], [], [], [(4, 20), (5, 21)], [(6, 22)], [(3, 19), (7, 23)]]) (outs := [8]) (soles := []) (E := [(0, 16, false), (1, 17, false), (2, 18, false), (3, 19, false), (4, 20, false), (5, 21, false), (6, 22, false), (7, 23, false), (8, 24, true)]) (N := 26) (S := (fun w' => Below w.heap.size w w')) [Free.Fact.is ?_, Free.Fact.is ?_, Free.Fact.is ?_, Free.Fact.is ?_, Free.Fact.is ?_, Free.Fact.is ?_, Free.Fact.is ?_, Free.Fact.is ?_, Free.Fact.is ?_] (by kernel_rfl) (by kernel_rfl) rfl (bl.drew) ?_ ?_
        rotate_left 9
        refine Free.cons ?_ ?_
        · intro w' hS; intro K hK; have k0 := (hS.cell (p := ⟨g, o + k * 3, none⟩) hg).trans c0; have k1 := (hS.cell (p := ⟨g, o + k * 3 + 1, none⟩) hg).trans c1; have k2 := (hS.cell (p := ⟨g, o + k * 3 + 2, none⟩) hg).trans c2; have k3 := (hS.cell (p := ⟨g2, o2 + k * 3, none⟩) hg2).trans d0; have k4 := (hS.cell (p := ⟨g2, o2 + k * 3 + 1, none⟩) hg2).trans d1; have k5 := (hS.cell (p := ⟨g2, o2 + k * 3 + 2, none⟩) hg2).trans d2; first | (refine Free.run_yes (by rfl) ?_; go_simp; refine Free.o hK hS ?_; exact rfl) | (refine Free.run_no (by rfl) (Free.o hK hS ?_); exact rfl)
        refine Free.cons ?_ ?_
        · intro w' hS; intro K hK; have k0 := (hS.cell (p := ⟨g, o + k * 3, none⟩) hg).trans c0; have k1 := (hS.cell (p := ⟨g, o + k * 3 + 1, none⟩) hg).trans c1; have k2 := (hS.cell (p := ⟨g, o + k * 3 + 2, none⟩) hg).trans c2; have k3 := (hS.cell (p := ⟨g2, o2 + k * 3, none⟩) hg2).trans d0; have k4 := (hS.cell (p := ⟨g2, o2 + k * 3 + 1, none⟩) hg2).trans d1; have k5 := (hS.cell (p := ⟨g2, o2 + k * 3 + 2, none⟩) hg2).trans d2; first | (refine Free.run_yes (by rfl) ?_; go_simp; refine Free.o hK hS ?_; exact rfl) | (refine Free.run_no (by rfl) (Free.o hK hS ?_); exact rfl)
        refine Free.cons ?_ ?_
        · intro w' hS; (rintro _ rfl); (rintro _ rfl); intro K hK; have k0 := (hS.cell (p := ⟨g, o + k * 3, none⟩) hg).trans c0; have k1 := (hS.cell (p := ⟨g, o + k * 3 + 1, none⟩) hg).trans c1; have k2 := (hS.cell (p := ⟨g, o + k * 3 + 2, none⟩) hg).trans c2; have k3 := (hS.cell (p := ⟨g2, o2 + k * 3, none⟩) hg2).trans d0; have k4 := (hS.cell (p := ⟨g2, o2 + k * 3 + 1, none⟩) hg2).trans d1; have k5 := (hS.cell (p := ⟨g2, o2 + k * 3 + 2, none⟩) hg2).trans d2; first | (refine Free.run_yes (by rfl) ?_; go_simp; refine Free.o hK hS ?_; exact rfl) | (refine Free.run_no (by rfl) (Free.o hK hS ?_); exact rfl)
        refine Free.cons ?_ ?_
        · intro w' hS; (rintro _ rfl); intro K hK; have k0 := (hS.cell (p := ⟨g, o + k * 3, none⟩) hg).trans c0; have k1 := (hS.cell (p := ⟨g, o + k * 3 + 1, none⟩) hg).trans c1; have k2 := (hS.cell (p := ⟨g, o + k * 3 + 2, none⟩) hg).trans c2; have k3 := (hS.cell (p := ⟨g2, o2 + k * 3, none⟩) hg2).trans d0; have k4 := (hS.cell (p := ⟨g2, o2 + k * 3 + 1, none⟩) hg2).trans d1; have k5 := (hS.cell (p := ⟨g2, o2 + k * 3 + 2, none⟩) hg2).trans d2; first | (refine Free.run_yes (by rfl) ?_; go_simp; refine Free.o hK hS ?_; exact rfl) | (refine Free.run_no (by rfl) (Free.o hK hS ?_); exact rfl)
        refine Free.cons ?_ ?_
        · intro w' hS; intro K hK; have k0 := (hS.cell (p := ⟨g, o + k * 3, none⟩) hg).trans c0; have k1 := (hS.cell (p := ⟨g, o + k * 3 + 1, none⟩) hg).trans c1; have k2 := (hS.cell (p := ⟨g, o + k * 3 + 2, none⟩) hg).trans c2; have k3 := (hS.cell (p := ⟨g2, o2 + k * 3, none⟩) hg2).trans d0; have k4 := (hS.cell (p := ⟨g2, o2 + k * 3 + 1, none⟩) hg2).trans d1; have k5 := (hS.cell (p := ⟨g2, o2 + k * 3 + 2, none⟩) hg2).trans d2; first | (refine Free.run_yes (by rfl) ?_; go_simp; refine Free.o hK hS ?_; exact rfl) | (refine Free.run_no (by rfl) (Free.o hK hS ?_); exact rfl)
        refine Free.cons ?_ ?_
        · intro w' hS; intro K hK; have k0 := (hS.cell (p := ⟨g, o + k * 3, none⟩) hg).trans c0; have k1 := (hS.cell (p := ⟨g, o + k * 3 + 1, none⟩) hg).trans c1; have k2 := (hS.cell (p := ⟨g, o + k * 3 + 2, none⟩) hg).trans c2; have k3 := (hS.cell (p := ⟨g2, o2 + k * 3, none⟩) hg2).trans d0; have k4 := (hS.cell (p := ⟨g2, o2 + k * 3 + 1, none⟩) hg2).trans d1; have k5 := (hS.cell (p := ⟨g2, o2 + k * 3 + 2, none⟩) hg2).trans d2; first | (refine Free.run_yes (by rfl) ?_; go_simp; refine Free.o hK hS ?_; exact rfl) | (refine Free.run_no (by rfl) (Free.o hK hS ?_); exact rfl)
        refine Free.cons ?_ ?_
        · intro w' hS; (rintro _ rfl); (rintro _ rfl); intro K hK; have k0 := (hS.cell (p := ⟨g, o + k * 3, none⟩) hg).trans c0; have k1 := (hS.cell (p := ⟨g, o + k * 3 + 1, none⟩) hg).trans c1; have k2 := (hS.cell (p := ⟨g, o + k * 3 + 2, none⟩) hg).trans c2; have k3 := (hS.cell (p := ⟨g2, o2 + k * 3, none⟩) hg2).trans d0; have k4 := (hS.cell (p := ⟨g2, o2 + k * 3 + 1, none⟩) hg2).trans d1; have k5 := (hS.cell (p := ⟨g2, o2 + k * 3 + 2, none⟩) hg2).trans d2; first | (refine Free.run_yes (by rfl) ?_; go_simp; refine Free.o hK hS ?_; exact rfl) | (refine Free.run_no (by rfl) (Free.o hK hS ?_); exact rfl)
        refine Free.cons ?_ ?_
        · intro w' hS; (rintro _ rfl); intro K hK; have k0 := (hS.cell (p := ⟨g, o + k * 3, none⟩) hg).trans c0; have k1 := (hS.cell (p := ⟨g, o + k * 3 + 1, none⟩) hg).trans c1; have k2 := (hS.cell (p := ⟨g, o + k * 3 + 2, none⟩) hg).trans c2; have k3 := (hS.cell (p := ⟨g2, o2 + k * 3, none⟩) hg2).trans d0; have k4 := (hS.cell (p := ⟨g2, o2 + k * 3 + 1, none⟩) hg2).trans d1; have k5 := (hS.cell (p := ⟨g2, o2 + k * 3 + 2, none⟩) hg2).trans d2; first | (refine Free.run_yes (by rfl) ?_; go_simp; refine Free.o hK hS ?_; exact rfl) | (refine Free.run_no (by rfl) (Free.o hK hS ?_); exact rfl)
        refine Free.cons ?_ ?_
        · intro w' hS; (rintro _ rfl); (rintro _ rfl); intro K hK; have k0 := (hS.cell (p := ⟨g, o + k * 3, none⟩) hg).trans c0; have k1 := (hS.cell (p := ⟨g, o + k * 3 + 1, none⟩) hg).trans c1; have k2 := (hS.cell (p := ⟨g, o + k * 3 + 2, none⟩) hg).trans c2; have k3 := (hS.cell (p := ⟨g2, o2 + k * 3, none⟩) hg2).trans d0; have k4 := (hS.cell (p := ⟨g2, o2 + k * 3 + 1, none⟩) hg2).trans d1; have k5 := (hS.cell (p := ⟨g2, o2 + k * 3 + 2, none⟩) hg2).trans d2; first | (refine Free.run_yes (by rfl) ?_; go_simp; refine Free.o hK hS ?_; exact rfl) | (refine Free.run_no (by rfl) (Free.o hK hS ?_); exact rfl)
        exact Free.nil
        clear hvo
        intro w' hS; intro v0; intro v1; intro v2; intro v3; intro v4; intro v5; intro v6; intro v7; (rintro _ rfl); (try simp only [Act.put, List.setIfInBounds_toArray, List.set_cons_zero, List.set_cons_succ]); refine Free.toldE_nil ?_
        go_wp2
        go_ret
        exact ⟨(show Ending.returned (.bool false) = .returned (.bool R) from by rewrite [← hres.out, hno.out]; rfl), hS⟩
      · clear hsf
        go_wp2_with fail
        have hvo := Free.val
        refine Free.wp_facts (M := [0, 0, 3, 7, 0, 0, 48, 112, 255]) (D := [[], [], [(0, 16), (1, 17)], [(2, 18)], [], [], [(4, 20), (5, 21)], [(6, 22)], [(3, 19), (7, 23)]]) (outs := [8]) (soles := []) (E := [(0, 16, false), (1, 17, false), (2, 18, false), (3, 19, false), (4, 20, false), (5, 21, false), (6, 22, false), (7, 23, false), (8, 24, true)]) (N := 26) (S := (fun w' => Below w.heap.size w w')) [Free.Fact.is ?_, Free.Fact.is ?_, Free.Fact.is ?_, Free.Fact.is ?_, Free.Fact.is ?_, Free.Fact.is ?_, Free.Fact.is ?_, Free.Fact.is ?_, Free.Fact.is ?_] (by kernel_rfl) (by kernel_rfl) rfl (bl.drew) ?_ ?_
        rotate_left 9
        refine Free.cons ?_ ?_
        · intro w' hS; intro K hK; have k0 := (hS.cell (p := ⟨g, o + k * 3, none⟩) hg).trans c0; have k1 := (hS.cell (p := ⟨g, o + k * 3 + 1, none⟩) hg).trans c1; have k2 := (hS.cell (p := ⟨g, o + k * 3 + 2, none⟩) hg).trans c2; have k3 := (hS.cell (p := ⟨g2, o2 + k * 3, none⟩) hg2).trans d0; have k4 := (hS.cell (p := ⟨g2, o2 + k * 3 + 1, none⟩) hg2).trans d1; have k5 := (hS.cell (p := ⟨g2, o2 + k * 3 + 2, none⟩) hg2).trans d2; first | (refine Free.run_yes (by rfl) ?_; go_simp; refine Free.o hK hS ?_; exact rfl) | (refine Free.run_no (by rfl) (Free.o hK hS ?_); exact rfl)
        refine Free.cons ?_ ?_
        · intro w' hS; intro K hK; have k0 := (hS.cell (p := ⟨g, o + k * 3, none⟩) hg).trans c0; have k1 := (hS.cell (p := ⟨g, o + k * 3 + 1, none⟩) hg).trans c1; have k2 := (hS.cell (p := ⟨g, o + k * 3 + 2, none⟩) hg).trans c2; have k3 := (hS.cell (p := ⟨g2, o2 + k * 3, none⟩) hg2).trans d0; have k4 := (hS.cell (p := ⟨g2, o2 + k * 3 + 1, none⟩) hg2).trans d1; have k5 := (hS.cell (p := ⟨g2, o2 + k * 3 + 2, none⟩) hg2).trans d2; first | (refine Free.run_yes (by rfl) ?_; go_simp; refine Free.o hK hS ?_; exact rfl) | (refine Free.run_no (by rfl) (Free.o hK hS ?_); exact rfl)
        refine Free.cons ?_ ?_
        · intro w' hS; (rintro _ rfl); (rintro _ rfl); intro K hK; have k0 := (hS.cell (p := ⟨g, o + k * 3, none⟩) hg).trans c0; have k1 := (hS.cell (p := ⟨g, o + k * 3 + 1, none⟩) hg).trans c1; have k2 := (hS.cell (p := ⟨g, o + k * 3 + 2, none⟩) hg).trans c2; have k3 := (hS.cell (p := ⟨g2, o2 + k * 3, none⟩) hg2).trans d0; have k4 := (hS.cell (p := ⟨g2, o2 + k * 3 + 1, none⟩) hg2).trans d1; have k5 := (hS.cell (p := ⟨g2, o2 + k * 3 + 2, none⟩) hg2).trans d2; first | (refine Free.run_yes (by rfl) ?_; go_simp; refine Free.o hK hS ?_; exact rfl) | (refine Free.run_no (by rfl) (Free.o hK hS ?_); exact rfl)
        refine Free.cons ?_ ?_
        · intro w' hS; (rintro _ rfl); intro K hK; have k0 := (hS.cell (p := ⟨g, o + k * 3, none⟩) hg).trans c0; have k1 := (hS.cell (p := ⟨g, o + k * 3 + 1, none⟩) hg).trans c1; have k2 := (hS.cell (p := ⟨g, o + k * 3 + 2, none⟩) hg).trans c2; have k3 := (hS.cell (p := ⟨g2, o2 + k * 3, none⟩) hg2).trans d0; have k4 := (hS.cell (p := ⟨g2, o2 + k * 3 + 1, none⟩) hg2).trans d1; have k5 := (hS.cell (p := ⟨g2, o2 + k * 3 + 2, none⟩) hg2).trans d2; first | (refine Free.run_yes (by rfl) ?_; go_simp; refine Free.o hK hS ?_; exact rfl) | (refine Free.run_no (by rfl) (Free.o hK hS ?_); exact rfl)
        refine Free.cons ?_ ?_
        · intro w' hS; intro K hK; have k0 := (hS.cell (p := ⟨g, o + k * 3, none⟩) hg).trans c0; have k1 := (hS.cell (p := ⟨g, o + k * 3 + 1, none⟩) hg).trans c1; have k2 := (hS.cell (p := ⟨g, o + k * 3 + 2, none⟩) hg).trans c2; have k3 := (hS.cell (p := ⟨g2, o2 + k * 3, none⟩) hg2).trans d0; have k4 := (hS.cell (p := ⟨g2, o2 + k * 3 + 1, none⟩) hg2).trans d1; have k5 := (hS.cell (p := ⟨g2, o2 + k * 3 + 2, none⟩) hg2).trans d2; first | (refine Free.run_yes (by rfl) ?_; go_simp; refine Free.o hK hS ?_; exact rfl) | (refine Free.run_no (by rfl) (Free.o hK hS ?_); exact rfl)
        refine Free.cons ?_ ?_
        · intro w' hS; intro K hK; have k0 := (hS.cell (p := ⟨g, o + k * 3, none⟩) hg).trans c0; have k1 := (hS.cell (p := ⟨g, o + k * 3 + 1, none⟩) hg).trans c1; have k2 := (hS.cell (p := ⟨g, o + k * 3 + 2, none⟩) hg).trans c2; have k3 := (hS.cell (p := ⟨g2, o2 + k * 3, none⟩) hg2).trans d0; have k4 := (hS.cell (p := ⟨g2, o2 + k * 3 + 1, none⟩) hg2).trans d1; have k5 := (hS.cell (p := ⟨g2, o2 + k * 3 + 2, none⟩) hg2).trans d2; first | (refine Free.run_yes (by rfl) ?_; go_simp; refine Free.o hK hS ?_; exact rfl) | (refine Free.run_no (by rfl) (Free.o hK hS ?_); exact rfl)
        refine Free.cons ?_ ?_
        · intro w' hS; (rintro _ rfl); (rintro _ rfl); intro K hK; have k0 := (hS.cell (p := ⟨g, o + k * 3, none⟩) hg).trans c0; have k1 := (hS.cell (p := ⟨g, o + k * 3 + 1, none⟩) hg).trans c1; have k2 := (hS.cell (p := ⟨g, o + k * 3 + 2, none⟩) hg).trans c2; have k3 := (hS.cell (p := ⟨g2, o2 + k * 3, none⟩) hg2).trans d0; have k4 := (hS.cell (p := ⟨g2, o2 + k * 3 + 1, none⟩) hg2).trans d1; have k5 := (hS.cell (p := ⟨g2, o2 + k * 3 + 2, none⟩) hg2).trans d2; first | (refine Free.run_yes (by rfl) ?_; go_simp; refine Free.o hK hS ?_; exact rfl) | (refine Free.run_no (by rfl) (Free.o hK hS ?_); exact rfl)
        refine Free.cons ?_ ?_
        · intro w' hS; (rintro _ rfl); intro K hK; have k0 := (hS.cell (p := ⟨g, o + k * 3, none⟩) hg).trans c0; have k1 := (hS.cell (p := ⟨g, o + k * 3 + 1, none⟩) hg).trans c1; have k2 := (hS.cell (p := ⟨g, o + k * 3 + 2, none⟩) hg).trans c2; have k3 := (hS.cell (p := ⟨g2, o2 + k * 3, none⟩) hg2).trans d0; have k4 := (hS.cell (p := ⟨g2, o2 + k * 3 + 1, none⟩) hg2).trans d1; have k5 := (hS.cell (p := ⟨g2, o2 + k * 3 + 2, none⟩) hg2).trans d2; first | (refine Free.run_yes (by rfl) ?_; go_simp; refine Free.o hK hS ?_; exact rfl) | (refine Free.run_no (by rfl) (Free.o hK hS ?_); exact rfl)
        refine Free.cons ?_ ?_
        · intro w' hS; (rintro _ rfl); (rintro _ rfl); intro K hK; have k0 := (hS.cell (p := ⟨g, o + k * 3, none⟩) hg).trans c0; have k1 := (hS.cell (p := ⟨g, o + k * 3 + 1, none⟩) hg).trans c1; have k2 := (hS.cell (p := ⟨g, o + k * 3 + 2, none⟩) hg).trans c2; have k3 := (hS.cell (p := ⟨g2, o2 + k * 3, none⟩) hg2).trans d0; have k4 := (hS.cell (p := ⟨g2, o2 + k * 3 + 1, none⟩) hg2).trans d1; have k5 := (hS.cell (p := ⟨g2, o2 + k * 3 + 2, none⟩) hg2).trans d2; first | (refine Free.run_yes (by rfl) ?_; go_simp; refine Free.o hK hS ?_; exact rfl) | (refine Free.run_no (by rfl) (Free.o hK hS ?_); exact rfl)
        exact Free.nil
        clear hvo
        intro w' hS; intro v0; intro v1; intro v2; intro v3; intro v4; intro v5; intro v6; intro v7; (rintro _ rfl); (try simp only [Act.put, List.setIfInBounds_toArray, List.set_cons_zero, List.set_cons_succ]); refine Free.toldE_nil ?_
        go_wp2
        go_ret
        exact ⟨(show Ending.returned (.bool false) = .returned (.bool R) from by rewrite [← hres.out, hno.out]; rfl), hS⟩
      · clear hsf
        go_wp2_with fail
        have hvo := Free.val
        refine Free.wp_facts (M := [0, 0, 3, 7, 0, 0, 48, 112, 255]) (D := [[], [], [(0, 16), (1, 17)], [(2, 18)], [], [], [(4, 20), (5, 21)], [(6, 22)], [(3, 19), (7, 23)]]) (outs := [8]) (soles := []) (E := [(0, 16, false), (1, 17, false), (2, 18, false), (3, 19, false), (4, 20, false), (5, 21, false), (6, 22, false), (7, 23, false), (8, 24, true)]) (N := 26) (S := (fun w' => Below w.heap.size w w')) [Free.Fact.is ?_, Free.Fact.is ?_, Free.Fact.is ?_, Free.Fact.is ?_, Free.Fact.is ?_, Free.Fact.is ?_, Free.Fact.is ?_, Free.Fact.is ?_, Free.Fact.is ?_] (by kernel_rfl) (by kernel_rfl) rfl (bl.drew) ?_ ?_
        rotate_left 9
        refine Free.cons ?_ ?_
        · intro w' hS; intro K hK; have k0 := (hS.cell (p := ⟨g, o + k * 3, none⟩) hg).trans c0; have k1 := (hS.cell (p := ⟨g, o + k * 3 + 1, none⟩) hg).trans c1; have k2 := (hS.cell (p := ⟨g, o + k * 3 + 2, none⟩) hg).trans c2; have k3 := (hS.cell (p := ⟨g2, o2 + k * 3, none⟩) hg2).trans d0; have k4 := (hS.cell (p := ⟨g2, o2 + k * 3 + 1, none⟩) hg2).trans d1; have k5 := (hS.cell (p := ⟨g2, o2 + k * 3 + 2, none⟩) hg2).trans d2; first | (refine Free.run_yes (by rfl) ?_; go_simp; refine Free.o hK hS ?_; exact rfl) | (refine Free.run_no (by rfl) (Free.o hK hS ?_); exact rfl)
        refine Free.cons ?_ ?_
        · intro w' hS; intro K hK; have k0 := (hS.cell (p := ⟨g, o + k * 3, none⟩) hg).trans c0; have k1 := (hS.cell (p := ⟨g, o + k * 3 + 1, none⟩) hg).trans c1; have k2 := (hS.cell (p := ⟨g, o + k * 3 + 2, none⟩) hg).trans c2; have k3 := (hS.cell (p := ⟨g2, o2 + k * 3, none⟩) hg2).trans d0; have k4 := (hS.cell (p := ⟨g2, o2 + k * 3 + 1, none⟩) hg2).trans d1; have k5 := (hS.cell (p := ⟨g2, o2 + k * 3 + 2, none⟩) hg2).trans d2; first | (refine Free.run_yes (by rfl) ?_; go_simp; refine Free.o hK hS ?_; exact rfl) | (refine Free.run_no (by rfl) (Free.o hK hS ?_); exact rfl)
        refine Free.cons ?_ ?_
        · intro w' hS; (rintro _ rfl); (rintro _ rfl); intro K hK; have k0 := (hS.cell (p := ⟨g, o + k * 3, none⟩) hg).trans c0; have k1 := (hS.cell (p := ⟨g, o + k * 3 + 1, none⟩) hg).trans c1; have k2 := (hS.cell (p := ⟨g, o + k * 3 + 2, none⟩) hg).trans c2; have k3 := (hS.cell (p := ⟨g2, o2 + k * 3, none⟩) hg2).trans d0; have k4 := (hS.cell (p := ⟨g2, o2 + k * 3 + 1, none⟩) hg2).trans d1; have k5 := (hS.cell (p := ⟨g2, o2 + k * 3 + 2, none⟩) hg2).trans d2; first | (refine Free.run_yes (by rfl) ?_; go_simp; refine Free.o hK hS ?_; exact rfl) | (refine Free.run_no (by rfl) (Free.o hK hS ?_); exact rfl)
        refine Free.cons ?_ ?_
        · intro w' hS; (rintro _ rfl); intro K hK; have k0 := (hS.cell (p := ⟨g, o + k * 3, none⟩) hg).trans c0; have k1 := (hS.cell (p := ⟨g, o + k * 3 + 1, none⟩) hg).trans c1; have k2 := (hS.cell (p := ⟨g, o + k * 3 + 2, none⟩) hg).trans c2; have k3 := (hS.cell (p := ⟨g2, o2 + k * 3, none⟩) hg2).trans d0; have k4 := (hS.cell (p := ⟨g2, o2 + k * 3 + 1, none⟩) hg2).trans d1; have k5 := (hS.cell (p := ⟨g2, o2 + k * 3 + 2, none⟩) hg2).trans d2; first | (refine Free.run_yes (by rfl) ?_; go_simp; refine Free.o hK hS ?_; exact rfl) | (refine Free.run_no (by rfl) (Free.o hK hS ?_); exact rfl)
        refine Free.cons ?_ ?_
        · intro w' hS; intro K hK; have k0 := (hS.cell (p := ⟨g, o + k * 3, none⟩) hg).trans c0; have k1 := (hS.cell (p := ⟨g, o + k * 3 + 1, none⟩) hg).trans c1; have k2 := (hS.cell (p := ⟨g, o + k * 3 + 2, none⟩) hg).trans c2; have k3 := (hS.cell (p := ⟨g2, o2 + k * 3, none⟩) hg2).trans d0; have k4 := (hS.cell (p := ⟨g2, o2 + k * 3 + 1, none⟩) hg2).trans d1; have k5 := (hS.cell (p := ⟨g2, o2 + k * 3 + 2, none⟩) hg2).trans d2; first | (refine Free.run_yes (by rfl) ?_; go_simp; refine Free.o hK hS ?_; exact rfl) | (refine Free.run_no (by rfl) (Free.o hK hS ?_); exact rfl)
        refine Free.cons ?_ ?_
        · intro w' hS; intro K hK; have k0 := (hS.cell (p := ⟨g, o + k * 3, none⟩) hg).trans c0; have k1 := (hS.cell (p := ⟨g, o + k * 3 + 1, none⟩) hg).trans c1; have k2 := (hS.cell (p := ⟨g, o + k * 3 + 2, none⟩) hg).trans c2; have k3 := (hS.cell (p := ⟨g2, o2 + k * 3, none⟩) hg2).trans d0; have k4 := (hS.cell (p := ⟨g2, o2 + k * 3 + 1, none⟩) hg2).trans d1; have k5 := (hS.cell (p := ⟨g2, o2 + k * 3 + 2, none⟩) hg2).trans d2; first | (refine Free.run_yes (by rfl) ?_; go_simp; refine Free.o hK hS ?_; exact rfl) | (refine Free.run_no (by rfl) (Free.o hK hS ?_); exact rfl)
        refine Free.cons ?_ ?_
        · intro w' hS; (rintro _ rfl); (rintro _ rfl); intro K hK; have k0 := (hS.cell (p := ⟨g, o + k * 3, none⟩) hg).trans c0; have k1 := (hS.cell (p := ⟨g, o + k * 3 + 1, none⟩) hg).trans c1; have k2 := (hS.cell (p := ⟨g, o + k * 3 + 2, none⟩) hg).trans c2; have k3 := (hS.cell (p := ⟨g2, o2 + k * 3, none⟩) hg2).trans d0; have k4 := (hS.cell (p := ⟨g2, o2 + k * 3 + 1, none⟩) hg2).trans d1; have k5 := (hS.cell (p := ⟨g2, o2 + k * 3 + 2, none⟩) hg2).trans d2; first | (refine Free.run_yes (by rfl) ?_; go_simp; refine Free.o hK hS ?_; exact rfl) | (refine Free.run_no (by rfl) (Free.o hK hS ?_); exact rfl)
        refine Free.cons ?_ ?_
        · intro w' hS; (rintro _ rfl); intro K hK; have k0 := (hS.cell (p := ⟨g, o + k * 3, none⟩) hg).trans c0; have k1 := (hS.cell (p := ⟨g, o + k * 3 + 1, none⟩) hg).trans c1; have k2 := (hS.cell (p := ⟨g, o + k * 3 + 2, none⟩) hg).trans c2; have k3 := (hS.cell (p := ⟨g2, o2 + k * 3, none⟩) hg2).trans d0; have k4 := (hS.cell (p := ⟨g2, o2 + k * 3 + 1, none⟩) hg2).trans d1; have k5 := (hS.cell (p := ⟨g2, o2 + k * 3 + 2, none⟩) hg2).trans d2; first | (refine Free.run_yes (by rfl) ?_; go_simp; refine Free.o hK hS ?_; exact rfl) | (refine Free.run_no (by rfl) (Free.o hK hS ?_); exact rfl)
        refine Free.cons ?_ ?_
        · intro w' hS; (rintro _ rfl); (rintro _ rfl); intro K hK; have k0 := (hS.cell (p := ⟨g, o + k * 3, none⟩) hg).trans c0; have k1 := (hS.cell (p := ⟨g, o + k * 3 + 1, none⟩) hg).trans c1; have k2 := (hS.cell (p := ⟨g, o + k * 3 + 2, none⟩) hg).trans c2; have k3 := (hS.cell (p := ⟨g2, o2 + k * 3, none⟩) hg2).trans d0; have k4 := (hS.cell (p := ⟨g2, o2 + k * 3 + 1, none⟩) hg2).trans d1; have k5 := (hS.cell (p := ⟨g2, o2 + k * 3 + 2, none⟩) hg2).trans d2; first | (refine Free.run_yes (by rfl) ?_; go_simp; refine Free.o hK hS ?_; exact rfl) | (refine Free.run_no (by rfl) (Free.o hK hS ?_); exact rfl)
        exact Free.nil
        clear hvo
        intro w' hS; intro v0; intro v1; intro v2; intro v3; intro v4; intro v5; intro v6; intro v7; (rintro _ rfl); (try simp only [Act.put, List.setIfInBounds_toArray, List.set_cons_zero, List.set_cons_succ]); refine Free.toldE_nil ?_
        go_wp2
        go_ret
        exact ⟨(show Ending.returned (.bool false) = .returned (.bool R) from by rewrite [← hres.out, hno.out]; rfl), hS⟩
    · have hkn : n = k := by omega
      have hyes := Lib.hid (allV_yes (L := L) (M := M) (by omega) (fun i a b hi ha hb => hall.out i a b (by omega) ha hb))
      subst hkn
      go_wp2
      go_ret
      exact ⟨(show Ending.returned (.bool true) = .returned (.bool R) from by rewrite [← hres.out, hyes.out]; rfl), bl⟩
def sameR (a b : RowR) : Bool := a.t == b.t && allV a.V b.V
theorem row_same (t : Int) (A : Option Addr) (n c : Nat) (L : List ValR) (t2 : Int) (A2 : Option Addr) (n2 c2 : Nat) (M : List ValR) (r : Bool) (w : World) (h : RV w A n c L) (h2 : RV w A2 n2 c2 M) (hr : sameR ⟨t, L⟩ ⟨t2, M⟩ = r) :
    Calls Try.prog 19 #[.agg #[.int .i64 t, .slice A n c], .agg #[.int .i64 t2, .slice A2 n2 c2]] w fun e w' => e = .returned (.bool r) ∧ Below w.heap.size w w' := by
  have bb : Below w.heap.size w ((w.alloc (.cells #[.int .i64 t, .slice A n c] 26)).alloc (.cells #[.int .i64 t2, .slice A2 n2 c2] 26)) := (by repeat (first | exact Below.refl _ _ | assumption | apply below_drewN' | apply Below.drew | refine Below.alloc ?_ (by first | omega | (simp; done) | (simp; omega)) _ | refine Below.setCell ?_ (by first | omega | (simp; done) | (simp; omega)) _))
  have HE := Lib.hid (fun w h h2 => equal_vals A n c L A2 n2 c2 M w h h2)
  obtain ⟨y, hy⟩ : ∃ y, allV L M = y := ⟨_, rfl⟩
  unfold sameR at hr
  simp only at hr
  rw [hy] at hr HE
  have hr := Lib.hid hr
  clear hy
  by_cases e : t = t2
  · have e1 : (t == t2) = true := by rw [beq_iff_eq]; exact e
    have e2 := Lib.hid e1
    clear e
    go_enter Try.func19, Try.ntmps19
    go_wp2_with fail
    refine (HE.out _ (h.below bb) (h2.below bb)).mono ?_
    rintro x w2 ⟨rfl, b2⟩
    go_wp2
    go_ret
    exact ⟨(show Ending.returned (.bool y) = .returned (.bool r) from by rw [← hr.out, e2.out]; rfl), Below.next bb b2 (by omega)⟩
  · have e1 : (t == t2) = false := by rw [beq_eq_false_iff_ne]; exact e
    have e2 := Lib.hid e1
    go_enter Try.func19, Try.ntmps19
    go_wp2
    go_ret
    exact ⟨(show Ending.returned (.bool false) = .returned (.bool r) from by rw [← hr.out, e2.out]; rfl), bb⟩
set_option maxHeartbeats 4000000 in
theorem ref_values (A : Option Addr) (n c : Nat) (L : List ValR) (A2 : Option Addr) (n2 c2 : Nat) (M : List ValR) (w : World) (h : RV w A n c L) (h2 : RV w A2 n2 c2 M) :
    Calls Try.prog 49 #[.slice A n c, .slice A2 n2 c2] w fun e w' => e = .returned (.bool (allV L M)) ∧ Below w.heap.size w w' := by
  obtain ⟨R, hR⟩ : ∃ R, allV L M = R := ⟨_, rfl⟩
  rw [hR]
  have hres := Lib.hid hR
  clear hR
  have hnm : n ≤ maxLen := Nat.le_trans h.cap h.max
  have hnm2 : n2 ≤ maxLen := Nat.le_trans h2.cap h2.max
  unfold maxLen at hnm hnm2
  have hLn := h.len
  have hMn := h2.len
  by_cases hl : n = n2
  rotate_left
  · have hno := Lib.hid (allV_len (L := L) (M := M) (by omega))
    have e1 : ((n : Int) != (n2 : Int)) = true := by rw [bne_iff_ne]; omega
    go_enter Try.func49, Try.ntmps49
    go_wp2
    go_ret
    exact ⟨(show Ending.returned (.bool false) = .returned (.bool R) from by rewrite [← hres.out, hno.out]; rfl), Below.refl _ _⟩
  subst hl
  go_enter Try.func49, Try.ntmps49
  go_wp2
  go_loopw [5] (fun i wr => ∃ k : Nat, k ≤ n ∧ i = .int .i64 k ∧ Below w.heap.size w wr ∧ Hid (∀ i a b, i < k → L[i]? = some a → M[i]? = some b → same1V a b = true)) (fun i _ => n - (intOf i).toNat)
  case atStart => exact ⟨0, by omega, rfl, (by repeat (first | exact Below.refl _ _ | assumption | apply below_drewN' | apply Below.drew | refine Below.alloc ?_ (by first | omega | (simp; done) | (simp; omega)) _ | refine Below.setCell ?_ (by first | omega | (simp; done) | (simp; omega)) _)), Lib.hid (fun i a b hi => absurd hi (by omega))⟩
  case round =>
    obtain ⟨k, hk, rfl, bl, hall⟩ := hrel
    by_cases hlt : k < n
    · obtain ⟨p, hp⟩ : ∃ p, L[k]? = some p := ⟨_, List.getElem?_eq_getElem (by omega)⟩
      obtain ⟨q, hq⟩ : ∃ q, M[k]? = some q := ⟨_, List.getElem?_eq_getElem (by omega)⟩
      obtain ⟨g, o, rfl, hc⟩ := h.at_ (by omega)
      obtain ⟨c0, c1, c2'⟩ := hc k p hp
      obtain ⟨g2, o2, rfl, hd⟩ := h2.at_ (by omega)
      obtain ⟨d0, d1, d2⟩ := hd k q hq
      have c2 := c2'
      have hph := Lib.hid hp
      have hqh := Lib.hid hq
      clear hc hd hp hq c2'
      have hg2 := World.block_lt_of_cell? w _ d0
      have hg := World.block_lt_of_cell? w _ c0
      obtain ⟨r, hr⟩ : ∃ r, same1V p q = r := ⟨_, rfl⟩
      have HS := Lib.hid (fun w => (show Calls Try.prog 74 #[.agg #[.int .i64 (p.k), .int .i64 (p.n), .string (str (p.s))], .agg #[.int .i64 (q.k), .int .i64 (q.n), .string (str (q.s))]] w fun e w' => e = .returned (.bool r) ∧ Below w.heap.size w w' from hr ▸ ref_same p.k p.n p.s q.k q.n q.s w))
      have hr := Lib.hid hr
      have keep := fun {w' w'' : World} (h : Below w.heap.size w w') (hb : Below w'.heap.size w' w'') => Below.next h hb (Nat.le_refl _)
      cases r with
      | true =>
        go_wp2_with fail
        have hvo := Free.val
        refine Free.wp_facts (M := [0, 0, 3, 7, 0, 0, 48, 112, 255, 511]) (D := [[], [], [(0, 17), (1, 18)], [(2, 19)], [], [], [(4, 21), (5, 22)], [(6, 23)], [(3, 20), (7, 24)], [(8, 25)]]) (outs := [9]) (soles := []) (E := [(0, 17, false), (1, 18, false), (2, 19, false), (3, 20, false), (4, 21, false), (5, 22, false), (6, 23, false), (7, 24, false), (8, 25, false), (9, 26, true)]) (N := 27) (S := (fun w' => Below w.heap.size w w')) [Free.Fact.is ?_, Free.Fact.is ?_, Free.Fact.is ?_, Free.Fact.is ?_, Free.Fact.is ?_, Free.Fact.is ?_, Free.Fact.is ?_, Free.Fact.is ?_, Free.Fact.is ?_, Free.Fact.is ?_] (by kernel_rfl) (by kernel_rfl) rfl (bl.drew) ?_ ?_
        rotate_left 10
        refine Free.cons ?_ ?_
        · intro w' hS; intro K hK; have k0 := (hS.cell (p := ⟨g, o + k * 3, none⟩) hg).trans c0; have k1 := (hS.cell (p := ⟨g, o + k * 3 + 1, none⟩) hg).trans c1; have k2 := (hS.cell (p := ⟨g, o + k * 3 + 2, none⟩) hg).trans c2; have k3 := (hS.cell (p := ⟨g2, o2 + k * 3, none⟩) hg2).trans d0; have k4 := (hS.cell (p := ⟨g2, o2 + k * 3 + 1, none⟩) hg2).trans d1; have k5 := (hS.cell (p := ⟨g2, o2 + k * 3 + 2, none⟩) hg2).trans d2; first | (refine Free.run_yes (by rfl) ?_; go_simp; refine Free.o hK hS ?_; exact rfl) | (refine Free.run_no (by rfl) (Free.o hK hS ?_); exact rfl)
        refine Free.cons ?_ ?_
        · intro w' hS; intro K hK; have k0 := (hS.cell (p := ⟨g, o + k * 3, none⟩) hg).trans c0; have k1 := (hS.cell (p := ⟨g, o + k * 3 + 1, none⟩) hg).trans c1; have k2 := (hS.cell (p := ⟨g, o + k * 3 + 2, none⟩) hg).trans c2; have k3 := (hS.cell (p := ⟨g2, o2 + k * 3, none⟩) hg2).trans d0; have k4 := (hS.cell (p := ⟨g2, o2 + k * 3 + 1, none⟩) hg2).trans d1; have k5 := (hS.cell (p := ⟨g2, o2 + k * 3 + 2, none⟩) hg2).trans d2; first | (refine Free.run_yes (by rfl) ?_; go_simp; refine Free.o hK hS ?_; exact rfl) | (refine Free.run_no (by rfl) (Free.o hK hS ?_); exact rfl)
        refine Free.cons ?_ ?_
        · intro w' hS; (rintro _ rfl); (rintro _ rfl); intro K hK; have k0 := (hS.cell (p := ⟨g, o + k * 3, none⟩) hg).trans c0; have k1 := (hS.cell (p := ⟨g, o + k * 3 + 1, none⟩) hg).trans c1; have k2 := (hS.cell (p := ⟨g, o + k * 3 + 2, none⟩) hg).trans c2; have k3 := (hS.cell (p := ⟨g2, o2 + k * 3, none⟩) hg2).trans d0; have k4 := (hS.cell (p := ⟨g2, o2 + k * 3 + 1, none⟩) hg2).trans d1; have k5 := (hS.cell (p := ⟨g2, o2 + k * 3 + 2, none⟩) hg2).trans d2; first | (refine Free.run_yes (by rfl) ?_; go_simp; refine Free.o hK hS ?_; exact rfl) | (refine Free.run_no (by rfl) (Free.o hK hS ?_); exact rfl)
        refine Free.cons ?_ ?_
        · intro w' hS; (rintro _ rfl); intro K hK; have k0 := (hS.cell (p := ⟨g, o + k * 3, none⟩) hg).trans c0; have k1 := (hS.cell (p := ⟨g, o + k * 3 + 1, none⟩) hg).trans c1; have k2 := (hS.cell (p := ⟨g, o + k * 3 + 2, none⟩) hg).trans c2; have k3 := (hS.cell (p := ⟨g2, o2 + k * 3, none⟩) hg2).trans d0; have k4 := (hS.cell (p := ⟨g2, o2 + k * 3 + 1, none⟩) hg2).trans d1; have k5 := (hS.cell (p := ⟨g2, o2 + k * 3 + 2, none⟩) hg2).trans d2; first | (refine Free.run_yes (by rfl) ?_; go_simp; refine Free.o hK hS ?_; exact rfl) | (refine Free.run_no (by rfl) (Free.o hK hS ?_); exact rfl)
        refine Free.cons ?_ ?_
        · intro w' hS; intro K hK; have k0 := (hS.cell (p := ⟨g, o + k * 3, none⟩) hg).trans c0; have k1 := (hS.cell (p := ⟨g, o + k * 3 + 1, none⟩) hg).trans c1; have k2 := (hS.cell (p := ⟨g, o + k * 3 + 2, none⟩) hg).trans c2; have k3 := (hS.cell (p := ⟨g2, o2 + k * 3, none⟩) hg2).trans d0; have k4 := (hS.cell (p := ⟨g2, o2 + k * 3 + 1, none⟩) hg2).trans d1; have k5 := (hS.cell (p := ⟨g2, o2 + k * 3 + 2, none⟩) hg2).trans d2; first | (refine Free.run_yes (by rfl) ?_; go_simp; refine Free.o hK hS ?_; exact rfl) | (refine Free.run_no (by rfl) (Free.o hK hS ?_); exact rfl)
        refine Free.cons ?_ ?_
        · intro w' hS; intro K hK; have k0 := (hS.cell (p := ⟨g, o + k * 3, none⟩) hg).trans c0; have k1 := (hS.cell (p := ⟨g, o + k * 3 + 1, none⟩) hg).trans c1; have k2 := (hS.cell (p := ⟨g, o + k * 3 + 2, none⟩) hg).trans c2; have k3 := (hS.cell (p := ⟨g2, o2 + k * 3, none⟩) hg2).trans d0; have k4 := (hS.cell (p := ⟨g2, o2 + k * 3 + 1, none⟩) hg2).trans d1; have k5 := (hS.cell (p := ⟨g2, o2 + k * 3 + 2, none⟩) hg2).trans d2; first | (refine Free.run_yes (by rfl) ?_; go_simp; refine Free.o hK hS ?_; exact rfl) | (refine Free.run_no (by rfl) (Free.o hK hS ?_); exact rfl)
        refine Free.cons ?_ ?_
        · intro w' hS; (rintro _ rfl); (rintro _ rfl); intro K hK; have k0 := (hS.cell (p := ⟨g, o + k * 3, none⟩) hg).trans c0; have k1 := (hS.cell (p := ⟨g, o + k * 3 + 1, none⟩) hg).trans c1; have k2 := (hS.cell (p := ⟨g, o + k * 3 + 2, none⟩) hg).trans c2; have k3 := (hS.cell (p := ⟨g2, o2 + k * 3, none⟩) hg2).trans d0; have k4 := (hS.cell (p := ⟨g2, o2 + k * 3 + 1, none⟩) hg2).trans d1; have k5 := (hS.cell (p := ⟨g2, o2 + k * 3 + 2, none⟩) hg2).trans d2; first | (refine Free.run_yes (by rfl) ?_; go_simp; refine Free.o hK hS ?_; exact rfl) | (refine Free.run_no (by rfl) (Free.o hK hS ?_); exact rfl)
        refine Free.cons ?_ ?_
        · intro w' hS; (rintro _ rfl); intro K hK; have k0 := (hS.cell (p := ⟨g, o + k * 3, none⟩) hg).trans c0; have k1 := (hS.cell (p := ⟨g, o + k * 3 + 1, none⟩) hg).trans c1; have k2 := (hS.cell (p := ⟨g, o + k * 3 + 2, none⟩) hg).trans c2; have k3 := (hS.cell (p := ⟨g2, o2 + k * 3, none⟩) hg2).trans d0; have k4 := (hS.cell (p := ⟨g2, o2 + k * 3 + 1, none⟩) hg2).trans d1; have k5 := (hS.cell (p := ⟨g2, o2 + k * 3 + 2, none⟩) hg2).trans d2; first | (refine Free.run_yes (by rfl) ?_; go_simp; refine Free.o hK hS ?_; exact rfl) | (refine Free.run_no (by rfl) (Free.o hK hS ?_); exact rfl)
        refine Free.cons ?_ ?_
        · intro w' hS; (rintro _ rfl); (rintro _ rfl); intro K hK; have k0 := (hS.cell (p := ⟨g, o + k * 3, none⟩) hg).trans c0; have k1 := (hS.cell (p := ⟨g, o + k * 3 + 1, none⟩) hg).trans c1; have k2 := (hS.cell (p := ⟨g, o + k * 3 + 2, none⟩) hg).trans c2; have k3 := (hS.cell (p := ⟨g2, o2 + k * 3, none⟩) hg2).trans d0; have k4 := (hS.cell (p := ⟨g2, o2 + k * 3 + 1, none⟩) hg2).trans d1; have k5 := (hS.cell (p := ⟨g2, o2 + k * 3 + 2, none⟩) hg2).trans d2; refine Free.run_yes (by rfl) ?_; (go_simp; go_at_call 74; refine (HS.out _).mono ?_; rintro e w' ⟨rfl, hb⟩; go_simp; refine Free.c hK (keep hS hb) hb ?_; exact rfl)
        refine Free.cons ?_ ?_
        · intro w' hS; (rintro _ rfl); intro K hK; have k0 := (hS.cell (p := ⟨g, o + k * 3, none⟩) hg).trans c0; have k1 := (hS.cell (p := ⟨g, o + k * 3 + 1, none⟩) hg).trans c1; have k2 := (hS.cell (p := ⟨g, o + k * 3 + 2, none⟩) hg).trans c2; have k3 := (hS.cell (p := ⟨g2, o2 + k * 3, none⟩) hg2).trans d0; have k4 := (hS.cell (p := ⟨g2, o2 + k * 3 + 1, none⟩) hg2).trans d1; have k5 := (hS.cell (p := ⟨g2, o2 + k * 3 + 2, none⟩) hg2).trans d2; first | (refine Free.run_yes (by rfl) ?_; go_simp; refine Free.o hK hS ?_; exact rfl) | (refine Free.run_no (by rfl) (Free.o hK hS ?_); exact rfl)
        exact Free.nil
        clear hvo
        intro w' hS; intro v0; intro v1; intro v2; intro v3; intro v4; intro v5; intro v6; intro v7; intro v8; (rintro _ rfl); (try simp only [Act.put, List.setIfInBounds_toArray, List.set_cons_zero, List.set_cons_succ]); refine Free.toldE_nil ?_
        go_wp2
        go_roundw
        case rel =>
          refine ⟨k + 1, by omega, by go_num, hS, Lib.hid fun i a b hi ha hb => ?_⟩
          by_cases ei : i = k
          · subst ei; rw [hph.out] at ha; rw [hqh.out] at hb; injection ha with ha; injection hb with hb; rw [← ha, ← hb]; exact hr.out
          · exact hall.out i a b (by omega) ha hb
        case measure => simp [intOf]; omega
      | false =>
        have hno := Lib.hid (allV_no hph.out hqh.out hr.out)
        go_wp2_with fail
        have hvo := Free.val
        refine Free.wp_facts (M := [0, 0, 3, 7, 0, 0, 48, 112, 255, 511]) (D := [[], [], [(0, 17), (1, 18)], [(2, 19)], [], [], [(4, 21), (5, 22)], [(6, 23)], [(3, 20), (7, 24)], [(8, 25)]]) (outs := [9]) (soles := []) (E := [(0, 17, false), (1, 18, false), (2, 19, false), (3, 20, false), (4, 21, false), (5, 22, false), (6, 23, false), (7, 24, false), (8, 25, false), (9, 26, true)]) (N := 27) (S := (fun w' => Below w.heap.size w w')) [Free.Fact.is ?_, Free.Fact.is ?_, Free.Fact.is ?_, Free.Fact.is ?_, Free.Fact.is ?_, Free.Fact.is ?_, Free.Fact.is ?_, Free.Fact.is ?_, Free.Fact.is ?_, Free.Fact.is ?_] (by kernel_rfl) (by kernel_rfl) rfl (bl.drew) ?_ ?_
        rotate_left 10
        refine Free.cons ?_ ?_
        · intro w' hS; intro K hK; have k0 := (hS.cell (p := ⟨g, o + k * 3, none⟩) hg).trans c0; have k1 := (hS.cell (p := ⟨g, o + k * 3 + 1, none⟩) hg).trans c1; have k2 := (hS.cell (p := ⟨g, o + k * 3 + 2, none⟩) hg).trans c2; have k3 := (hS.cell (p := ⟨g2, o2 + k * 3, none⟩) hg2).trans d0; have k4 := (hS.cell (p := ⟨g2, o2 + k * 3 + 1, none⟩) hg2).trans d1; have k5 := (hS.cell (p := ⟨g2, o2 + k * 3 + 2, none⟩) hg2).trans d2; first | (refine Free.run_yes (by rfl) ?_; go_simp; refine Free.o hK hS ?_; exact rfl) | (refine Free.run_no (by rfl) (Free.o hK hS ?_); exact rfl)
        refine Free.cons ?_ ?_
        · intro w' hS; intro K hK; have k0 := (hS.cell (p := ⟨g, o + k * 3, none⟩) hg).trans c0; have k1 := (hS.cell (p := ⟨g, o + k * 3 + 1, none⟩) hg).trans c1; have k2 := (hS.cell (p := ⟨g, o + k * 3 + 2, none⟩) hg).trans c2; have k3 := (hS.cell (p := ⟨g2, o2 + k * 3, none⟩) hg2).trans d0; have k4 := (hS.cell (p := ⟨g2, o2 + k * 3 + 1, none⟩) hg2).trans d1; have k5 := (hS.cell (p := ⟨g2, o2 + k * 3 + 2, none⟩) hg2).trans d2; first | (refine Free.run_yes (by rfl) ?_; go_simp; refine Free.o hK hS ?_; exact rfl) | (refine Free.run_no (by rfl) (Free.o hK hS ?_); exact rfl)
        refine Free.cons ?_ ?_
        · intro w' hS; (rintro _ rfl); (rintro _ rfl); intro K hK; have k0 := (hS.cell (p := ⟨g, o + k * 3, none⟩) hg).trans c0; have k1 := (hS.cell (p := ⟨g, o + k * 3 + 1, none⟩) hg).trans c1; have k2 := (hS.cell (p := ⟨g, o + k * 3 + 2, none⟩) hg).trans c2; have k3 := (hS.cell (p := ⟨g2, o2 + k * 3, none⟩) hg2).trans d0; have k4 := (hS.cell (p := ⟨g2, o2 + k * 3 + 1, none⟩) hg2).trans d1; have k5 := (hS.cell (p := ⟨g2, o2 + k * 3 + 2, none⟩) hg2).trans d2; first | (refine Free.run_yes (by rfl) ?_; go_simp; refine Free.o hK hS ?_; exact rfl) | (refine Free.run_no (by rfl) (Free.o hK hS ?_); exact rfl)
        refine Free.cons ?_ ?_
        · intro w' hS; (rintro _ rfl); intro K hK; have k0 := (hS.cell (p := ⟨g, o + k * 3, none⟩) hg).trans c0; have k1 := (hS.cell (p := ⟨g, o + k * 3 + 1, none⟩) hg).trans c1; have k2 := (hS.cell (p := ⟨g, o + k * 3 + 2, none⟩) hg).trans c2; have k3 := (hS.cell (p := ⟨g2, o2 + k * 3, none⟩) hg2).trans d0; have k4 := (hS.cell (p := ⟨g2, o2 + k * 3 + 1, none⟩) hg2).trans d1; have k5 := (hS.cell (p := ⟨g2, o2 + k * 3 + 2, none⟩) hg2).trans d2; first | (refine Free.run_yes (by rfl) ?_; go_simp; refine Free.o hK hS ?_; exact rfl) | (refine Free.run_no (by rfl) (Free.o hK hS ?_); exact rfl)
        refine Free.cons ?_ ?_
        · intro w' hS; intro K hK; have k0 := (hS.cell (p := ⟨g, o + k * 3, none⟩) hg).trans c0; have k1 := (hS.cell (p := ⟨g, o + k * 3 + 1, none⟩) hg).trans c1; have k2 := (hS.cell (p := ⟨g, o + k * 3 + 2, none⟩) hg).trans c2; have k3 := (hS.cell (p := ⟨g2, o2 + k * 3, none⟩) hg2).trans d0; have k4 := (hS.cell (p := ⟨g2, o2 + k * 3 + 1, none⟩) hg2).trans d1; have k5 := (hS.cell (p := ⟨g2, o2 + k * 3 + 2, none⟩) hg2).trans d2; first | (refine Free.run_yes (by rfl) ?_; go_simp; refine Free.o hK hS ?_; exact rfl) | (refine Free.run_no (by rfl) (Free.o hK hS ?_); exact rfl)
        refine Free.cons ?_ ?_
        · intro w' hS; intro K hK; have k0 := (hS.cell (p := ⟨g, o + k * 3, none⟩) hg).trans c0; have k1 := (hS.cell (p := ⟨g, o + k * 3 + 1, none⟩) hg).trans c1; have k2 := (hS.cell (p := ⟨g, o + k * 3 + 2, none⟩) hg).trans c2; have k3 := (hS.cell (p := ⟨g2, o2 + k * 3, none⟩) hg2).trans d0; have k4 := (hS.cell (p := ⟨g2, o2 + k * 3 + 1, none⟩) hg2).trans d1; have k5 := (hS.cell (p := ⟨g2, o2 + k * 3 + 2, none⟩) hg2).trans d2; first | (refine Free.run_yes (by rfl) ?_; go_simp; refine Free.o hK hS ?_; exact rfl) | (refine Free.run_no (by rfl) (Free.o hK hS ?_); exact rfl)
        refine Free.cons ?_ ?_
        · intro w' hS; (rintro _ rfl); (rintro _ rfl); intro K hK; have k0 := (hS.cell (p := ⟨g, o + k * 3, none⟩) hg).trans c0; have k1 := (hS.cell (p := ⟨g, o + k * 3 + 1, none⟩) hg).trans c1; have k2 := (hS.cell (p := ⟨g, o + k * 3 + 2, none⟩) hg).trans c2; have k3 := (hS.cell (p := ⟨g2, o2 + k * 3, none⟩) hg2).trans d0; have k4 := (hS.cell (p := ⟨g2, o2 + k * 3 + 1, none⟩) hg2).trans d1; have k5 := (hS.cell (p := ⟨g2, o2 + k * 3 + 2, none⟩) hg2).trans d2; first | (refine Free.run_yes (by rfl) ?_; go_simp; refine Free.o hK hS ?_; exact rfl) | (refine Free.run_no (by rfl) (Free.o hK hS ?_); exact rfl)
        refine Free.cons ?_ ?_
        · intro w' hS; (rintro _ rfl); intro K hK; have k0 := (hS.cell (p := ⟨g, o + k * 3, none⟩) hg).trans c0; have k1 := (hS.cell (p := ⟨g, o + k * 3 + 1, none⟩) hg).trans c1; have k2 := (hS.cell (p := ⟨g, o + k * 3 + 2, none⟩) hg).trans c2; have k3 := (hS.cell (p := ⟨g2, o2 + k * 3, none⟩) hg2).trans d0; have k4 := (hS.cell (p := ⟨g2, o2 + k * 3 + 1, none⟩) hg2).trans d1; have k5 := (hS.cell (p := ⟨g2, o2 + k * 3 + 2, none⟩) hg2).trans d2; first | (refine Free.run_yes (by rfl) ?_; go_simp; refine Free.o hK hS ?_; exact rfl) | (refine Free.run_no (by rfl) (Free.o hK hS ?_); exact rfl)
        refine Free.cons ?_ ?_
        · intro w' hS; (rintro _ rfl); (rintro _ rfl); intro K hK; have k0 := (hS.cell (p := ⟨g, o + k * 3, none⟩) hg).trans c0; have k1 := (hS.cell (p := ⟨g, o + k * 3 + 1, none⟩) hg).trans c1; have k2 := (hS.cell (p := ⟨g, o + k * 3 + 2, none⟩) hg).trans c2; have k3 := (hS.cell (p := ⟨g2, o2 + k * 3, none⟩) hg2).trans d0; have k4 := (hS.cell (p := ⟨g2, o2 + k * 3 + 1, none⟩) hg2).trans d1; have k5 := (hS.cell (p := ⟨g2, o2 + k * 3 + 2, none⟩) hg2).trans d2; refine Free.run_yes (by rfl) ?_; (go_simp; go_at_call 74; refine (HS.out _).mono ?_; rintro e w' ⟨rfl, hb⟩; go_simp; refine Free.c hK (keep hS hb) hb ?_; exact rfl)
        refine Free.cons ?_ ?_
        · intro w' hS; (rintro _ rfl); intro K hK; have k0 := (hS.cell (p := ⟨g, o + k * 3, none⟩) hg).trans c0; have k1 := (hS.cell (p := ⟨g, o + k * 3 + 1, none⟩) hg).trans c1; have k2 := (hS.cell (p := ⟨g, o + k * 3 + 2, none⟩) hg).trans c2; have k3 := (hS.cell (p := ⟨g2, o2 + k * 3, none⟩) hg2).trans d0; have k4 := (hS.cell (p := ⟨g2, o2 + k * 3 + 1, none⟩) hg2).trans d1; have k5 := (hS.cell (p := ⟨g2, o2 + k * 3 + 2, none⟩) hg2).trans d2; first | (refine Free.run_yes (by rfl) ?_; go_simp; refine Free.o hK hS ?_; exact rfl) | (refine Free.run_no (by rfl) (Free.o hK hS ?_); exact rfl)
        exact Free.nil
        clear hvo
        intro w' hS; intro v0; intro v1; intro v2; intro v3; intro v4; intro v5; intro v6; intro v7; intro v8; (rintro _ rfl); (try simp only [Act.put, List.setIfInBounds_toArray, List.set_cons_zero, List.set_cons_succ]); refine Free.toldE_nil ?_
        go_wp2
        go_ret
        exact ⟨(show Ending.returned (.bool false) = .returned (.bool R) from by rewrite [← hres.out, hno.out]; rfl), hS⟩
    · have hkn : n = k := by omega
      have hyes := Lib.hid (allV_yes (L := L) (M := M) (by omega) (fun i a b hi ha hb => hall.out i a b (by omega) ha hb))
      subst hkn
      go_wp2
      go_ret
      exact ⟨(show Ending.returned (.bool true) = .returned (.bool R) from by rewrite [← hres.out, hyes.out]; rfl), bl⟩
theorem ref_row (t : Int) (A : Option Addr) (n c : Nat) (L : List ValR) (t2 : Int) (A2 : Option Addr) (n2 c2 : Nat) (M : List ValR) (r : Bool) (w : World) (h : RV w A n c L) (h2 : RV w A2 n2 c2 M) (hr : sameR ⟨t, L⟩ ⟨t2, M⟩ = r) :
    Calls Try.prog 16 #[.agg #[.int .i64 t, .slice A n c], .agg #[.int .i64 t2, .slice A2 n2 c2]] w fun e w' => e = .returned (.bool r) ∧ Below w.heap.size w w' := by
  have bb : Below w.heap.size w ((w.alloc (.cells #[.int .i64 t, .slice A n c] 26)).alloc (.cells #[.int .i64 t2, .slice A2 n2 c2] 26)) := (by repeat (first | exact Below.refl _ _ | assumption | apply below_drewN' | apply Below.drew | refine Below.alloc ?_ (by first | omega | (simp; done) | (simp; omega)) _ | refine Below.setCell ?_ (by first | omega | (simp; done) | (simp; omega)) _))
  have HE := Lib.hid (fun w h h2 => ref_values A n c L A2 n2 c2 M w h h2)
  obtain ⟨y, hy⟩ : ∃ y, allV L M = y := ⟨_, rfl⟩
  unfold sameR at hr
  simp only at hr
  rw [hy] at hr HE
  have hr := Lib.hid hr
  clear hy
  by_cases e : t = t2
  · have e1 : (t == t2) = true := by rw [beq_iff_eq]; exact e
    have e2 := Lib.hid e1
    clear e
    go_enter Try.func16, Try.ntmps16
    go_wp2_with fail
    refine (HE.out _ (h.below bb) (h2.below bb)).mono ?_
    rintro x w2 ⟨rfl, b2⟩
    go_wp2
    go_ret
    exact ⟨(show Ending.returned (.bool y) = .returned (.bool r) from by rw [← hr.out, e2.out]; rfl), Below.next bb b2 (by omega)⟩
  · have e1 : (t == t2) = false := by rw [beq_eq_false_iff_ne]; exact e
    have e2 := Lib.hid e1
    go_enter Try.func16, Try.ntmps16
    go_wp2
    go_ret
    exact ⟨(show Ending.returned (.bool false) = .returned (.bool r) from by rw [← hr.out, e2.out]; rfl), bb⟩
end Go.Proofs.Ytfldmejjepakeaa
