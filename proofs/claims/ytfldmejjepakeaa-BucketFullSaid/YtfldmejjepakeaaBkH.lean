/- oublaw9.first. -/
import Derived.Test.YtfldmejjepakeaaBkG
namespace Go.Proofs.Ytfldmejjepakeaa
open Go.ChangeShapes Go.WideShapes Go.ChangeAt Go.RowKit
open Go.ChangeMaps (open_string shut_string)
set_option linter.unusedVariables false
set_option linter.unusedSimpArgs false
set_option maxRecDepth 100000
open Go.Deep

theorem RK.one {W : World} {g t : Nat} {id : Int} {B : Option Addr} {m k : Nat} {d : List UInt8} (h : Blk W g #[.int .i64 id, .slice B m k] t) (hd : RB W B m k d) : RK W (some ⟨g, 0, none⟩) 1 1 [⟨id, d⟩] := by
  refine ⟨rfl, Nat.le_refl _, (by decide), (fun h => by cases h), fun _ => ⟨g, 0, rfl, fun i q hq => ?_⟩⟩
  have hi : i = 0 := by have := (List.getElem?_eq_some_iff.1 hq).1; simp at this; exact this
  subst hi
  simp at hq
  subst hq
  exact ⟨B, m, k, hd, h.cell 0 rfl, h.cell 1 rfl⟩
def zs (n : Nat) : List UInt8 := List.replicate n 0
theorem zs_length (n : Nat) : (zs n).length = n := by simp [zs]
theorem encK_nil : encKE 1 [] = 0 ∧ encKT 1 [] = zs 38 := ⟨by decide, by decide⟩
theorem encK_four : encKE 2 [⟨4, zs 37⟩] = 0 ∧ encKT 2 [⟨4, zs 37⟩] = 5 :: zs 75 := ⟨by decide, by decide⟩
theorem run_mk' (n : Nat) (z : Int) (h : z = n) (hn : n ≤ 70368744177664) (w : World) : (Instr.makeSlice 22 (.int .i64 z) (.int .i64 z)).run Try.prog w = .ok (.slice (some ⟨w.heap.size, 0, none⟩) n n) (w.alloc (.cells (bcells (zs n)) 5)) := by
  subst h
  exact run_mk w n hn
set_option maxHeartbeats 4000000 in
theorem first9_any (w : World) : Calls Try.prog 21 #[] w fun e w' => e = .returned (.bool true) ∧ Below w.heap.size w w' := by
  have HE1 := Lib.hid (fun w => (encK_nil.1 ▸ encK_nil.2 ▸ bucket_encode 1 none 0 0 [] w (RK.none_ w) : Calls Try.prog 23 #[.int .i64 1, .slice none 0 0] w fun e w' => ∃ v, e = .returned (.tuple #[v, .int .i64 0]) ∧ OB w' w.heap.size v (zs 38) ∧ Below w.heap.size w w'))
  have HE2 := Lib.hid (fun A w (h : RK w A 1 1 [⟨4, zs 37⟩]) => (encK_four.1 ▸ encK_four.2 ▸ bucket_encode 2 A 1 1 [⟨4, zs 37⟩] w h : Calls Try.prog 23 #[.int .i64 2, .slice A 1 1] w fun e w' => ∃ v, e = .returned (.tuple #[v, .int .i64 0]) ∧ OB w' w.heap.size v (5 :: zs 75) ∧ Below w.heap.size w w'))
  have HL := Lib.hid (fun w => bucket_length 0 0 w (by decide))
  have hmk37 := run_mk' 37 37 rfl (by omega)
  have hmk38 := run_mk' 38 38 rfl (by omega)
  go_enter Try.func21, Try.ntmps21
  go_wp2_with fail
  refine (HE1.out _).mono ?_
  rintro e w1 ⟨v1, rfl, ho1, bl⟩
  obtain ⟨A1, c1, rfl, hR1⟩ := OB.sl ho1 38 (by decide)
  clear ho1
  have hb1 := Blk.new w1 (bcells (zs 37)) 5
  have bl1 := bl.alloc bl.size (.cells (bcells (zs 37)) 5)
  have hR1a := hR1.alloc (.cells (bcells (zs 37)) 5)
  have hd1 := (RB.of_row hb1 (by decide))
  have hb2 := Blk.new (w1.alloc (.cells (bcells (zs 37)) 5)) #[.int .i64 4, .slice (some ⟨w1.heap.size, 0, none⟩) 37 37] 70
  have bl2 := bl1.alloc bl1.size (.cells #[.int .i64 4, .slice (some ⟨w1.heap.size, 0, none⟩) 37 37] 70)
  have hR1b := hR1a.alloc (.cells #[.int .i64 4, .slice (some ⟨w1.heap.size, 0, none⟩) 37 37] 70)
  have hk := RK.one hb2 (hd1.alloc (.cells #[.int .i64 4, .slice (some ⟨w1.heap.size, 0, none⟩) 37 37] 70))
  rw [World.size_alloc] at hk
  go_wp2_with fail
  refine (HE2.out _ _ hk).mono ?_
  rintro e w2 ⟨v2, rfl, ho2, e2⟩
  obtain ⟨A2, c2, rfl, hR2⟩ := OB.sl ho2 76 (by decide)
  replace bl2 := Below.next bl2 e2 (Nat.le_refl _)
  have hR1c := hR1b.below e2
  clear ho2 e2 hk hR1 hR1a hR1b hb1 hb2 hd1 bl bl1
  have hb3 := Blk.new w2 (bcells (zs 38)) 5
  have bl3 := bl2.alloc bl2.size (.cells (bcells (zs 38)) 5)
  have hd3 := (RB.of_row hb3 (by decide))
  have hb := ref_Bytes A1 (some ⟨w2.heap.size, 0, none⟩) 38 c1 38 38 (zs 38) (zs 38) _ (hR1c.alloc (.cells (bcells (zs 38)) 5)) hd3
  rw [beq_self_eq_true] at hb
  go_wp2_with fail
  refine hb.mono ?_
  rintro e w3 ⟨rfl, rfl⟩
  obtain ⟨g2, o2, rfl, hc2⟩ := hR2.at_ (by omega)
  have hcell : w2.cell? ⟨g2, o2, none⟩ = some (.int .u8 5) := hc2 0 5 rfl
  have hcell2 := (((Below.refl w2.heap.size w2).alloc (Nat.le_refl _) (.cells (bcells (zs 38)) 5)).cell (p := ⟨g2, o2, none⟩) (World.block_lt_of_cell? w2 _ hcell)).trans hcell
  clear hb hc2 hR2 hR1c hb3 hd3
  go_wp2_with fail
  refine (HL.out _).mono ?_
  rintro e w4 ⟨rfl, e4⟩
  replace bl3 := Below.next bl3 e4 (Nat.le_refl _)
  go_wp2
  go_ret
  exact ⟨rfl, bl3⟩
end Go.Proofs.Ytfldmejjepakeaa
