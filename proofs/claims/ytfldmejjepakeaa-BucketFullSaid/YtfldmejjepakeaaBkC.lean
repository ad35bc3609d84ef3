/- May blocks be: the document's. -/
import Derived.Test.YtfldmejjepakeaaBkB
namespace Go.Proofs.Ytfldmejjepakeaa
open Go.ChangeShapes Go.WideShapes Go.ChangeAt Go.RowKit
open Go.ChangeMaps (open_string shut_string)
set_option linter.unusedVariables false
set_option linter.unusedSimpArgs false
set_option maxRecDepth 100000
open Go.Deep

set_option maxHeartbeats 4000000 in
theorem ref_MayB (A : Option Addr) (n c : Nat) (L : List BlkR) (w : World) (h : RK w A n c L) : Calls Try.prog 27 #[.slice A n c] w fun e w' => e = .returned (.bool (mayB L)) ∧ Below w.heap.size w w' := by
  obtain ⟨R, hR⟩ : ∃ R, mayB L = R := ⟨_, rfl⟩
  rw [hR]
  have hres := Lib.hid hR
  clear hR
  have hnm : n ≤ maxLen := Nat.le_trans h.cap h.max
  unfold maxLen at hnm
  have hLn := h.len
  go_enter Try.func27, Try.ntmps27
  go_wp2
  go_loopw [3] (fun i wr => ∃ (k : Nat), k ≤ n ∧ i = .int .i64 k ∧ Below w.heap.size w wr ∧ Hid (∀ (i : Nat) (b : BlkR), i < k → L[i]? = some b → okB b = true ∧ seenB L i b.id = false)) (fun i _ => n - (intOf i).toNat)
  case atStart => exact ⟨0, by omega, rfl, (by repeat (first | exact Below.refl _ _ | assumption | apply below_drewN' | apply Below.drew | refine Below.alloc ?_ (by first | omega | (simp; done) | (simp; omega)) _ | refine Below.setCell ?_ (by first | omega | (simp; done) | (simp; omega)) _)), Lib.hid (fun i b hi => absurd hi (by omega))⟩
  case round =>
    obtain ⟨k, hk, rfl, bl, hall⟩ := hrel
    by_cases hlt : k < n
    · obtain ⟨q, hq⟩ : ∃ q, L[k]? = some q := ⟨_, List.getElem?_eq_getElem (by omega)⟩
      obtain ⟨g, o, rfl, hc⟩ := (h.below bl).at_ (by omega)
      obtain ⟨B, m, kk, hE, hc0, hc1⟩ := hc k q hq
      have hml := hE.len
      have hmm : m ≤ maxLen := Nat.le_trans hE.cap hE.max
      unfold maxLen at hmm
      have hc := Lib.hid hc
      rcases (show q.id < 0 ∨ (¬ q.id < 0 ∧ 64 ≤ q.id) ∨ (¬ q.id < 0 ∧ ¬ 64 ≤ q.id) by omega) with i1 | ⟨i1, i2⟩ | ⟨i1, i2⟩
      · have hno := Lib.hid (mayB_no hq (.inl (by simp [okB]; omega)))
        go_wp2
        go_ret
        exact ⟨(show Ending.returned (.bool false) = .returned (.bool R) from by rewrite [← hres.out, hno.out]; rfl), bl⟩
      · have hno := Lib.hid (mayB_no hq (.inl (by simp [okB]; omega)))
        go_wp2
        go_ret
        exact ⟨(show Ending.returned (.bool false) = .returned (.bool R) from by rewrite [← hres.out, hno.out]; rfl), bl⟩
      by_cases hm : m = 37
      rotate_left
      · have hno := Lib.hid (mayB_no hq (.inl (by simp [okB]; omega)))
        have hm1 : ((m : Int) != 37) = true := by rw [bne_iff_ne]; omega
        go_wp2
        go_ret
        exact ⟨(show Ending.returned (.bool false) = .returned (.bool R) from by rewrite [← hres.out, hno.out]; rfl), bl⟩
      have hok := Lib.hid (show okB q = true from okB_iff.2 ⟨by omega, by omega, by omega⟩)
      have hqh := Lib.hid hq
      have hml := Lib.hid hml
      clear hq
      subst hm
      obtain ⟨W1, rfl⟩ : ∃ W1, W1 = wr := ⟨_, rfl⟩
      have hgl : g < W1.heap.size := World.block_lt_of_cell? W1 _ hc0
      go_wp2
      go_loopw [4] (fun i wq => ∃ (j : Nat), j ≤ k ∧ i = .int .i64 j ∧ Below W1.heap.size W1 wq ∧ Hid (∀ (i : Nat) (b : BlkR), i < j → L[i]? = some b → b.id ≠ q.id)) (fun i _ => k - (intOf i).toNat)
      case atStart => exact ⟨0, by omega, rfl, Below.refl _ _, Lib.hid (fun i b hi => absurd hi (by omega))⟩
      case round =>
        obtain ⟨j, hj, rfl, bq, hdif⟩ := hrel
        by_cases hjk : j < k
        · have hjn : j < n := by omega
          obtain ⟨p, hp⟩ : ∃ p, L[j]? = some p := ⟨_, List.getElem?_eq_getElem (by omega)⟩
          obtain ⟨B2, m2, kk2, _, hd0, _⟩ := hc.out j p hp
          have hph := Lib.hid hp
          clear hp
          by_cases e : p.id = q.id
          · have ke : (p.id == q.id) = true := by rw [beq_iff_eq]; exact e
            have hno := Lib.hid (mayB_no hqh.out (.inr (by rw [← e]; exact seenB_some hph.out hjk)))
            clear e
            go_wp2_with fail
            have hvo := Free.val
            refine Free.wp_facts (M := [0, 0, 3, 7, 15, 0, 0, 96, 224, 480, 1023]) (D := [[], [], [(0, 39), (1, 40)], [(2, 41)], [(3, 42)], [], [], [(5, 44), (6, 45)], [(7, 46)], [(8, 47)], [(4, 43), (9, 48)]]) (outs := [10]) (soles := []) (E := [(0, 39, false), (1, 40, false), (2, 41, false), (3, 42, false), (4, 43, false), (5, 44, false), (6, 45, false), (7, 46, false), (8, 47, false), (9, 48, false), (10, 49, true)]) (N := 50) (S := (fun w' => Below W1.heap.size W1 w')) [Free.Fact.is ?_, Free.Fact.is ?_, Free.Fact.is ?_, Free.Fact.is ?_, Free.Fact.is ?_, Free.Fact.is ?_, Free.Fact.is ?_, Free.Fact.is ?_, Free.Fact.is ?_, Free.Fact.is ?_, Free.Fact.is ?_] (by kernel_rfl) (by kernel_rfl) rfl (bq.drew) ?_ ?_
            rotate_left 11
            refine Free.cons ?_ ?_
            · intro w' hS; intro K hK; have k0 := (hS.cell (p := ⟨g, o + k * 2, none⟩) hgl).trans hc0; have k1 := (hS.cell (p := ⟨g, o + j * 2, none⟩) hgl).trans hd0; first | (refine Free.run_yes (by rfl) ?_; go_simp; refine Free.o hK hS ?_; exact rfl) | (refine Free.run_no (by rfl) (Free.o hK hS ?_); exact rfl)
            refine Free.cons ?_ ?_
            · intro w' hS; intro K hK; have k0 := (hS.cell (p := ⟨g, o + k * 2, none⟩) hgl).trans hc0; have k1 := (hS.cell (p := ⟨g, o + j * 2, none⟩) hgl).trans hd0; first | (refine Free.run_yes (by rfl) ?_; go_simp; refine Free.o hK hS ?_; exact rfl) | (refine Free.run_no (by rfl) (Free.o hK hS ?_); exact rfl)
            refine Free.cons ?_ ?_
            · intro w' hS; (rintro _ rfl); (rintro _ rfl); intro K hK; have k0 := (hS.cell (p := ⟨g, o + k * 2, none⟩) hgl).trans hc0; have k1 := (hS.cell (p := ⟨g, o + j * 2, none⟩) hgl).trans hd0; first | (refine Free.run_yes (by rfl) ?_; go_simp; refine Free.o hK hS ?_; exact rfl) | (refine Free.run_no (by rfl) (Free.o hK hS ?_); exact rfl)
            refine Free.cons ?_ ?_
            · intro w' hS; (rintro _ rfl); intro K hK; have k0 := (hS.cell (p := ⟨g, o + k * 2, none⟩) hgl).trans hc0; have k1 := (hS.cell (p := ⟨g, o + j * 2, none⟩) hgl).trans hd0; first | (refine Free.run_yes (by rfl) ?_; go_simp; refine Free.o hK hS ?_; exact rfl) | (refine Free.run_no (by rfl) (Free.o hK hS ?_); exact rfl)
            refine Free.cons ?_ ?_
            · intro w' hS; (rintro _ rfl); intro K hK; have k0 := (hS.cell (p := ⟨g, o + k * 2, none⟩) hgl).trans hc0; have k1 := (hS.cell (p := ⟨g, o + j * 2, none⟩) hgl).trans hd0; first | (refine Free.run_yes (by rfl) ?_; go_simp; refine Free.o hK hS ?_; exact rfl) | (refine Free.run_no (by rfl) (Free.o hK hS ?_); exact rfl)
            refine Free.cons ?_ ?_
            · intro w' hS; intro K hK; have k0 := (hS.cell (p := ⟨g, o + k * 2, none⟩) hgl).trans hc0; have k1 := (hS.cell (p := ⟨g, o + j * 2, none⟩) hgl).trans hd0; first | (refine Free.run_yes (by rfl) ?_; go_simp; refine Free.o hK hS ?_; exact rfl) | (refine Free.run_no (by rfl) (Free.o hK hS ?_); exact rfl)
            refine Free.cons ?_ ?_
            · intro w' hS; intro K hK; have k0 := (hS.cell (p := ⟨g, o + k * 2, none⟩) hgl).trans hc0; have k1 := (hS.cell (p := ⟨g, o + j * 2, none⟩) hgl).trans hd0; first | (refine Free.run_yes (by rfl) ?_; go_simp; refine Free.o hK hS ?_; exact rfl) | (refine Free.run_no (by rfl) (Free.o hK hS ?_); exact rfl)
            refine Free.cons ?_ ?_
            · intro w' hS; (rintro _ rfl); (rintro _ rfl); intro K hK; have k0 := (hS.cell (p := ⟨g, o + k * 2, none⟩) hgl).trans hc0; have k1 := (hS.cell (p := ⟨g, o + j * 2, none⟩) hgl).trans hd0; first | (refine Free.run_yes (by rfl) ?_; go_simp; refine Free.o hK hS ?_; exact rfl) | (refine Free.run_no (by rfl) (Free.o hK hS ?_); exact rfl)
            refine Free.cons ?_ ?_
            · intro w' hS; (rintro _ rfl); intro K hK; have k0 := (hS.cell (p := ⟨g, o + k * 2, none⟩) hgl).trans hc0; have k1 := (hS.cell (p := ⟨g, o + j * 2, none⟩) hgl).trans hd0; first | (refine Free.run_yes (by rfl) ?_; go_simp; refine Free.o hK hS ?_; exact rfl) | (refine Free.run_no (by rfl) (Free.o hK hS ?_); exact rfl)
            refine Free.cons ?_ ?_
            · intro w' hS; (rintro _ rfl); intro K hK; have k0 := (hS.cell (p := ⟨g, o + k * 2, none⟩) hgl).trans hc0; have k1 := (hS.cell (p := ⟨g, o + j * 2, none⟩) hgl).trans hd0; first | (refine Free.run_yes (by rfl) ?_; go_simp; refine Free.o hK hS ?_; exact rfl) | (refine Free.run_no (by rfl) (Free.o hK hS ?_); exact rfl)
            refine Free.cons ?_ ?_
            · intro w' hS; (rintro _ rfl); (rintro _ rfl); intro K hK; have k0 := (hS.cell (p := ⟨g, o + k * 2, none⟩) hgl).trans hc0; have k1 := (hS.cell (p := ⟨g, o + j * 2, none⟩) hgl).trans hd0; first | (refine Free.run_yes (by rfl) ?_; go_simp; refine Free.o hK hS ?_; exact rfl) | (refine Free.run_no (by rfl) (Free.o hK hS ?_); exact rfl)
            exact Free.nil
            clear hvo
            intro w' hS; intro v0; intro v1; intro v2; intro v3; intro v4; intro v5; intro v6; intro v7; intro v8; intro v9; (rintro _ rfl); (try simp only [Act.put, List.setIfInBounds_toArray, List.set_cons_zero, List.set_cons_succ]); refine Free.toldE_nil ?_
            go_wp2
            go_ret
            exact ⟨(show Ending.returned (.bool false) = .returned (.bool R) from by rewrite [← hres.out, hno.out]; rfl), Below.next bl hS (Nat.le_refl _)⟩
          · have ke : (p.id == q.id) = false := by rw [beq_eq_false_iff_ne]; exact e
            have he := Lib.hid e
            clear e
            go_wp2_with fail
            have hvo := Free.val
            refine Free.wp_facts (M := [0, 0, 3, 7, 15, 0, 0, 96, 224, 480, 1023]) (D := [[], [], [(0, 39), (1, 40)], [(2, 41)], [(3, 42)], [], [], [(5, 44), (6, 45)], [(7, 46)], [(8, 47)], [(4, 43), (9, 48)]]) (outs := [10]) (soles := []) (E := [(0, 39, false), (1, 40, false), (2, 41, false), (3, 42, false), (4, 43, false), (5, 44, false), (6, 45, false), (7, 46, false), (8, 47, false), (9, 48, false), (10, 49, true)]) (N := 50) (S := (fun w' => Below W1.heap.size W1 w')) [Free.Fact.is ?_, Free.Fact.is ?_, Free.Fact.is ?_, Free.Fact.is ?_, Free.Fact.is ?_, Free.Fact.is ?_, Free.Fact.is ?_, Free.Fact.is ?_, Free.Fact.is ?_, Free.Fact.is ?_, Free.Fact.is ?_] (by kernel_rfl) (by kernel_rfl) rfl (bq.drew) ?_ ?_
            rotate_left 11
            refine Free.cons ?_ ?_
            · intro w' hS; intro K hK; have k0 := (hS.cell (p := ⟨g, o + k * 2, none⟩) hgl).trans hc0; have k1 := (hS.cell (p := ⟨g, o + j * 2, none⟩) hgl).trans hd0; first | (refine Free.run_yes (by rfl) ?_; go_simp; refine Free.o hK hS ?_; exact rfl) | (refine Free.run_no (by rfl) (Free.o hK hS ?_); exact rfl)
            refine Free.cons ?_ ?_
            · intro w' hS; intro K hK; have k0 := (hS.cell (p := ⟨g, o + k * 2, none⟩) hgl).trans hc0; have k1 := (hS.cell (p := ⟨g, o + j * 2, none⟩) hgl).trans hd0; first | (refine Free.run_yes (by rfl) ?_; go_simp; refine Free.o hK hS ?_; exact rfl) | (refine Free.run_no (by rfl) (Free.o hK hS ?_); exact rfl)
            refine Free.cons ?_ ?_
            · intro w' hS; (rintro _ rfl); (rintro _ rfl); intro K hK; have k0 := (hS.cell (p := ⟨g, o + k * 2, none⟩) hgl).trans hc0; have k1 := (hS.cell (p := ⟨g, o + j * 2, none⟩) hgl).trans hd0; first | (refine Free.run_yes (by rfl) ?_; go_simp; refine Free.o hK hS ?_; exact rfl) | (refine Free.run_no (by rfl) (Free.o hK hS ?_); exact rfl)
            refine Free.cons ?_ ?_
            · intro w' hS; (rintro _ rfl); intro K hK; have k0 := (hS.cell (p := ⟨g, o + k * 2, none⟩) hgl).trans hc0; have k1 := (hS.cell (p := ⟨g, o + j * 2, none⟩) hgl).trans hd0; first | (refine Free.run_yes (by rfl) ?_; go_simp; refine Free.o hK hS ?_; exact rfl) | (refine Free.run_no (by rfl) (Free.o hK hS ?_); exact rfl)
            refine Free.cons ?_ ?_
            · intro w' hS; (rintro _ rfl); intro K hK; have k0 := (hS.cell (p := ⟨g, o + k * 2, none⟩) hgl).trans hc0; have k1 := (hS.cell (p := ⟨g, o + j * 2, none⟩) hgl).trans hd0; first | (refine Free.run_yes (by rfl) ?_; go_simp; refine Free.o hK hS ?_; exact rfl) | (refine Free.run_no (by rfl) (Free.o hK hS ?_); exact rfl)
            refine Free.cons ?_ ?_
            · intro w' hS; intro K hK; have k0 := (hS.cell (p := ⟨g, o + k * 2, none⟩) hgl).trans hc0; have k1 := (hS.cell (p := ⟨g, o + j * 2, none⟩) hgl).trans hd0; first | (refine Free.run_yes (by rfl) ?_; go_simp; refine Free.o hK hS ?_; exact rfl) | (refine Free.run_no (by rfl) (Free.o hK hS ?_); exact rfl)
            refine Free.cons ?_ ?_
            · intro w' hS; intro K hK; have k0 := (hS.cell (p := ⟨g, o + k * 2, none⟩) hgl).trans hc0; have k1 := (hS.cell (p := ⟨g, o + j * 2, none⟩) hgl).trans hd0; first | (refine Free.run_yes (by rfl) ?_; go_simp; refine Free.o hK hS ?_; exact rfl) | (refine Free.run_no (by rfl) (Free.o hK hS ?_); exact rfl)
            refine Free.cons ?_ ?_
            · intro w' hS; (rintro _ rfl); (rintro _ rfl); intro K hK; have k0 := (hS.cell (p := ⟨g, o + k * 2, none⟩) hgl).trans hc0; have k1 := (hS.cell (p := ⟨g, o + j * 2, none⟩) hgl).trans hd0; first | (refine Free.run_yes (by rfl) ?_; go_simp; refine Free.o hK hS ?_; exact rfl) | (refine Free.run_no (by rfl) (Free.o hK hS ?_); exact rfl)
            refine Free.cons ?_ ?_
            · intro w' hS; (rintro _ rfl); intro K hK; have k0 := (hS.cell (p := ⟨g, o + k * 2, none⟩) hgl).trans hc0; have k1 := (hS.cell (p := ⟨g, o + j * 2, none⟩) hgl).trans hd0; first | (refine Free.run_yes (by rfl) ?_; go_simp; refine Free.o hK hS ?_; exact rfl) | (refine Free.run_no (by rfl) (Free.o hK hS ?_); exact rfl)
            refine Free.cons ?_ ?_
            · intro w' hS; (rintro _ rfl); intro K hK; have k0 := (hS.cell (p := ⟨g, o + k * 2, none⟩) hgl).trans hc0; have k1 := (hS.cell (p := ⟨g, o + j * 2, none⟩) hgl).trans hd0; first | (refine Free.run_yes (by rfl) ?_; go_simp; refine Free.o hK hS ?_; exact rfl) | (refine Free.run_no (by rfl) (Free.o hK hS ?_); exact rfl)
            refine Free.cons ?_ ?_
            · intro w' hS; (rintro _ rfl); (rintro _ rfl); intro K hK; have k0 := (hS.cell (p := ⟨g, o + k * 2, none⟩) hgl).trans hc0; have k1 := (hS.cell (p := ⟨g, o + j * 2, none⟩) hgl).trans hd0; first | (refine Free.run_yes (by rfl) ?_; go_simp; refine Free.o hK hS ?_; exact rfl) | (refine Free.run_no (by rfl) (Free.o hK hS ?_); exact rfl)
            exact Free.nil
            clear hvo
            intro w' hS; intro v0; intro v1; intro v2; intro v3; intro v4; intro v5; intro v6; intro v7; intro v8; intro v9; (rintro _ rfl); (try simp only [Act.put, List.setIfInBounds_toArray, List.set_cons_zero, List.set_cons_succ]); refine Free.toldE_nil ?_
            go_wp2
            go_roundw
            case rel =>
              refine ⟨j + 1, by omega, by go_num, hS, Lib.hid fun i b hi hb => ?_⟩
              by_cases ei : i = j
              · subst ei; rw [hph.out] at hb; injection hb with hb; rw [← hb]; exact he.out
              · exact hdif.out i b (by omega) hb
            case measure => simp [intOf]; omega
        · have hjk2 : k = j := by omega
          have hns := Lib.hid (show seenB L k q.id = false from seenB_none (fun i b hi hb => hdif.out i b (by omega) hb))
          have bl4 := Below.next bl bq (Nat.le_refl _)
          clear hjk2
          go_wp2
          go_roundw
          case rel =>
            refine ⟨k + 1, by omega, by go_num, bl4, Lib.hid fun i b hi hb => ?_⟩
            by_cases ei : i = k
            · subst ei; rw [hqh.out] at hb; injection hb with hb; rw [← hb]; exact ⟨hok.out, hns.out⟩
            · exact hall.out i b (by omega) hb
          case measure => simp [intOf]; omega
    · have hkn : n = k := by omega
      have hyes := Lib.hid (mayB_yes (L := L) (fun i b hi hb => hall.out i b (by omega) hb))
      subst hkn
      go_wp2
      go_ret
      exact ⟨(show Ending.returned (.bool true) = .returned (.bool R) from by rewrite [← hres.out, hyes.out]; rfl), bl⟩
end Go.Proofs.Ytfldmejjepakeaa
