/- Slices of blocks of the call's own; oublaw9.Plain. -/
import Derived.Test.YtfldmejjepakeaaBkC
import Derived.Test.YtfldmejjepakeaaFreeR
import Derived.Test.YtfldmejjepakeaaFreeW
import Derived.Laws.OwnMore
namespace Go.Proofs.Ytfldmejjepakeaa
open Go.ChangeShapes Go.WideShapes Go.ChangeAt Go.RowKit
open Go.ChangeMaps (open_string shut_string)
set_option linter.unusedVariables false
set_option linter.unusedSimpArgs false
set_option maxRecDepth 100000
open Go.Deep

/-- The cells xs are those of the blocks L; what they point to lies elsewhere than block r. -/
def DK (w : World) (r : Option Nat) (L : List BlkR) (xs : List Value) : Prop :=
  ∀ i b, L[i]? = some b → ∃ B m k, RB w B m k b.d ∧ (0 < m → ∀ a, B = some a → r ≠ some a.block) ∧ xs[i * 2]? = some (.int .i64 b.id) ∧ xs[i * 2 + 1]? = some (.slice B m k)
/-- A slice of new memory that reads as blocks. -/
def OK (e : TypeId) (B0 : Nat) (w : World) (v : Value) (L : List BlkR) : Prop := ∃ xs, w.ownsRow B0 e 2 v L.length xs ∧ DK w v.ownBlock L xs
namespace OK
variable {e : TypeId} {B0 : Nat} {w w' : World} {v : Value} {L : List BlkR}
theorem nil (e : TypeId) (B0 : Nat) (w : World) : OK e B0 w (.slice none 0 0) [] := ⟨[], World.ownsRow_nil w B0 e 2, fun i b h => by simp at h⟩
theorem lt (h : OK e B0 w v L) : ∀ k, v.ownBlock = some k → B0 ≤ k ∧ k < w.heap.size := let ⟨_, h1, _⟩ := h; World.ownsRow.lt h1
theorem rk (h : OK e B0 w v L) : ∃ A c, v = .slice A L.length c ∧ RK w A L.length c L := by
  obtain ⟨xs, ⟨hl, ho⟩, hf⟩ := h
  rcases ho with ⟨rfl, h0⟩ | ⟨g, cap, cur, rfl, hg, hheap, hnc, hcm, hcs, htake⟩
  · obtain rfl : L = [] := List.eq_nil_of_length_eq_zero h0
    exact ⟨none, 0, rfl, RK.none_ w⟩
  · refine ⟨some ⟨g, 0, none⟩, cap, rfl, rfl, hnc, hcm, (fun h => by cases h), fun hn => ⟨g, 0, rfl, fun i p hp => ?_⟩⟩
    obtain ⟨B, m, k, hE, _, h0, h1⟩ := hf i p hp
    have cell : ∀ (j : Nat) (u : Value), xs[j]? = some u → w.cell? ⟨g, 0 + j, none⟩ = some u := by
      intro j u hu
      rw [← htake, List.getElem?_take] at hu
      split at hu
      · rw [Nat.zero_add]
        simp [World.cell?, hheap]
        rw [← Array.getElem?_toList]
        exact hu
      · cases hu
    exact ⟨B, m, k, hE, cell _ _ h0, cell _ _ h1⟩
theorem kept {S : Nat → Prop} (h : OK e B0 w v L) (hk : Keeps S w w') (hS : ∀ k, v.ownBlock = some k → ¬ S k) (hD : ∀ (i : Nat) (b : BlkR), L[i]? = some b → ∀ B m k, RB w B m k b.d → RB w' B m k b.d) : OK e B0 w' v L := by
  obtain ⟨xs, h1, h2⟩ := h
  refine ⟨xs, ?_, fun i b hb => let ⟨B, m, k, hr, r⟩ := h2 i b hb; ⟨B, m, k, hD i b hb B m k hr, r⟩⟩
  obtain ⟨hl, ho⟩ := h1
  refine ⟨hl, ?_⟩
  rcases ho with h | ⟨g, cap, cur, rfl, hg, hheap, h⟩
  · exact .inl h
  · exact .inr ⟨g, cap, cur, rfl, hg, (hk.block g ((Array.getElem?_eq_some_iff.1 hheap).1) (hS g rfl)).trans hheap, h⟩
theorem below (h : OK e B0 w v L) (hb : Below w.heap.size w w') : OK e B0 w' v L := h.kept (S := fun _ => False) (Keeps.of_below hb) (fun _ _ => id) (fun _ _ _ _ _ _ hr => hr.below hb)
theorem drew (h : OK e B0 w v L) : OK e B0 w.drew v L := h.below (Below.refl _ _).drew
end OK
/-- One more block. -/
theorem run_app1 (e T ty : TypeId) (hT : Try.prog.underlying T = some (.slice e)) (hi : (Try.prog.info? e).map (fun i => (i.zero, i.size, i.bytes)) = some (some (.agg #[.int .i64 0, .slice none 0 0]), 2, 32)) (w : World) (B0 : Nat) (v : Value) (L : List BlkR) (h : OK e B0 w v L) (hB : B0 ≤ w.heap.size) (g t : Nat) (b : BlkR) (B : Option Addr) (m k c : Nat)
    (hX : Blk w g #[.int .i64 b.id, .slice B m k] t) (hd : RB w B m k b.d) (hsep : 0 < m → ∀ a, B = some a → v.ownBlock ≠ some a.block) (hsz : L.length ≤ 100000) :
    ∃ v' w', (Builtin.append_ #[T, T] ty #[v, .slice (some ⟨g, 0, none⟩) 1 c]).run Try.prog w = .ok v' w' ∧ OK e B0 w' v' (L ++ [b]) ∧ Keeps (fun k => v.ownBlock = some k) w w' := by
  obtain ⟨i0, hi, hz0, hz1, hz2⟩ := info_parts hi
  obtain ⟨xs, hown, hx⟩ := h
  obtain ⟨v', w', hrun, h1, h2, _, h4⟩ := run_append_own_at (P := Try.prog) w B0 T ty e i0 _ 2 32 hT hi hz0 hz1 hz2 rfl (by decide) v L.length xs hown ⟨g, 0, none⟩ 1 c [.int .i64 b.id, .slice B m k] rfl
    (fun j u hu => by rw [Addr.add_lit, Nat.zero_add]; exact hX.cell j (by rw [← Array.getElem?_toList]; exact hu)) (fun u hu => by simp only [List.mem_cons, List.not_mem_nil, or_false] at hu; rcases hu with rfl | rfl <;> rfl) (by unfold maxLen; omega) (by omega) hB
  have hk : Keeps (fun k => v.ownBlock = some k) w w' := ⟨h2.os, h2.tape, h2.output, h2.size, fun k hk hn => h2.block k hk (fun e => hn e.symm)⟩
  refine ⟨v', w', hrun, ⟨xs ++ [.int .i64 b.id, .slice B m k], by rw [List.length_append]; exact h1, fun i p hp => ?_⟩, hk⟩
  have sep : ∀ (B : Option Addr) (m k : Nat) (d : List UInt8), RB w B m k d → (0 < m → ∀ a, B = some a → v.ownBlock ≠ some a.block) → 0 < m → ∀ a, B = some a → v'.ownBlock ≠ some a.block := by
    intro B m k d hr hs hm a ha
    rcases h4 with h4 | h4
    · rw [h4]; exact hs hm a ha
    · rw [h4]
      have := hr.lt hm a ha
      intro e
      injection e with e
      omega
  have kp : ∀ (B : Option Addr) (m k : Nat) (d : List UInt8), RB w B m k d → (0 < m → ∀ a, B = some a → v.ownBlock ≠ some a.block) → RB w' B m k d := fun B m k d hr hs => hr.keeps hk (fun hm a ha => hs hm a ha)
  by_cases hlt : i < L.length
  · rw [List.getElem?_append_left hlt] at hp
    obtain ⟨B', m', k', hr, hs, h0, h1'⟩ := hx i p hp
    refine ⟨B', m', k', kp _ _ _ _ hr hs, sep _ _ _ _ hr hs, ?_, ?_⟩
    · rw [List.getElem?_append_left (List.getElem?_eq_some_iff.1 h0).1]; exact h0
    · rw [List.getElem?_append_left (List.getElem?_eq_some_iff.1 h1').1]; exact h1'
  · rw [List.getElem?_append_right (by omega)] at hp
    have hi0 : i - L.length = 0 := by have := (List.getElem?_eq_some_iff.1 hp).1; simp at this; omega
    rw [hi0] at hp
    simp at hp
    subst hp
    have hil : i = L.length := by omega
    have hxl : xs.length = L.length * 2 := hown.1
    refine ⟨B, m, k, kp _ _ _ _ hd hsep, sep _ _ _ _ hd hsep, ?_, ?_⟩
    · rw [List.getElem?_append_right (by omega), show i * 2 - xs.length = 0 by omega]; rfl
    · rw [List.getElem?_append_right (by omega), show i * 2 + 1 - xs.length = 1 by omega]; rfl
/-- A slice of one element, built. -/
def Free.FactR.row {R : World → World → Prop} (cs : Array Value) (t : Nat) (hR : ∀ g w w', Blk w g cs t → R w w' → Blk w' g cs t) : Free.FactR R := { f := fun v w => ∃ g, v = .slice (some ⟨g, 0, none⟩) 1 1 ∧ Blk w g cs t, stab := fun _ _ _ ⟨g, h, h2⟩ hb => ⟨g, h, hR g _ _ h2 hb⟩ }
def Free.FactR.ok (e : TypeId) (B0 : Nat) (L : List BlkR) : Free.FactR (fun w w' => Below w.heap.size w w') := { f := fun v w => OK e B0 w v L, stab := fun _ _ _ h hb => h.below hb }
theorem info_rblock : (Try.prog.info? 86).map (fun i => (i.zero, i.size, i.bytes)) = some (some (.agg #[.int .i64 0, .slice none 0 0]), 2, 32) := by kernel_rfl
theorem info_block : (Try.prog.info? 70).map (fun i => (i.zero, i.size, i.bytes)) = some (some (.agg #[.int .i64 0, .slice none 0 0]), 2, 32) := by kernel_rfl
theorem wp_app1 {o : Oper} {a : Act} {w : World} {K : Act → World → Prop} {Q : Exit → Act → World → Prop} (e T : TypeId) (hT : Try.prog.underlying T = some (.slice e)) (hi : (Try.prog.info? e).map (fun i => (i.zero, i.size, i.bytes)) = some (some (.agg #[.int .i64 0, .slice none 0 0]), 2, 32)) (s x : Operand) (hop : o.op = Op.call { callee := Callee.builtin Builtin.append, args := #[s, x], argTypes := #[T, T] })
    (B0 : Nat) (v : Value) (L : List BlkR) (h : OK e B0 w v L) (hB : B0 ≤ w.heap.size) (g t : Nat) (b : BlkR) (B : Option Addr) (m k c : Nat) (hs : a.eval s = v) (hx : a.eval x = .slice (some ⟨g, 0, none⟩) 1 c)
    (hX : Blk w g #[.int .i64 b.id, .slice B m k] t) (hd : RB w B m k b.d) (hsep : 0 < m → ∀ a, B = some a → v.ownBlock ≠ some a.block) (hsz : L.length ≤ 100000)
    (hk : ∀ v' w', OK e B0 w' v' (L ++ [b]) → Keeps (fun k => v.ownBlock = some k) w w' → K (a.put o.dst v') w') : Oper.wp Try.prog o a w K Q := by
  obtain ⟨v', w', hr, h2, h3⟩ := run_app1 e T o.type hT hi w B0 v L h hB g t b B m k c hX hd hsep hsz
  unfold Oper.wp execOp
  simp only [hop, resolve, invoke, builtin, Sem.run_bind, Sem.run_pure, Result.andThen_ok, List.map_toArray, List.map_cons, List.map_nil, hs, hx, hr]
  exact hk v' w' h2 h3

set_option maxHeartbeats 4000000 in
theorem plain9 (A : Option Addr) (n c : Nat) (L : List BlkR) (w : World) (h : RK w A n c L) (hn : n ≤ 200) : Calls Try.prog 25 #[.slice A n c] w fun e w' => ∃ A' c', e = .returned (.slice A' n c') ∧ RK w' A' n c' L ∧ Below w.heap.size w w' := by
  have hLn := h.len
  go_enter Try.func25, Try.ntmps25
  go_wp2
  go_loopw [3, 4] (fun s i wr => ∃ (k : Nat) (u : Value), k ≤ n ∧ s = u ∧ i = .int .i64 k ∧ OK 86 w.heap.size wr u (L.take k) ∧ Below w.heap.size w wr) (fun s i _ => n - (intOf i).toNat)
  case atStart => exact ⟨0, _, by omega, rfl, rfl, OK.nil _ _ _, (by repeat (first | exact Below.refl _ _ | assumption | apply below_drewN' | apply Below.drew | refine Below.alloc ?_ (by first | omega | (simp; done) | (simp; omega)) _ | refine Below.setCell ?_ (by first | omega | (simp; done) | (simp; omega)) _))⟩
  case round =>
    obtain ⟨k, s, hk, hu, rfl, hO, bl⟩ := hrel
    replace hu := hu.symm
    subst hu
    by_cases hlt : k < n
    · obtain ⟨q, hq⟩ : ∃ q, L[k]? = some q := ⟨_, List.getElem?_eq_getElem (by omega)⟩
      have htk := Lib.hid (show L.take (k + 1) = L.take k ++ [q] by rw [List.take_add_one, hq]; rfl)
      have hlk : (L.take k).length ≤ 100000 := by rw [List.length_take]; omega
      obtain ⟨g, o, rfl, hc⟩ := h.at_ (by omega)
      obtain ⟨B, m, kk, hE, hc0, hc1⟩ := hc k q hq
      have hg : g < w.heap.size := World.block_lt_of_cell? w _ hc0
      have hR : ∀ {w w' : World}, Below w.heap.size w w' → Below w.heap.size w w' := fun h => h
      obtain ⟨A', c', rfl, _⟩ := hO.rk
      clear hlk
      generalize (L.take k).length = N at *
      have hsl : ∀ j, (Value.slice A' N c').ownBlock = some j → w.heap.size ≤ j := fun j hj => (hO.lt j hj).1
      clear hc
      go_wp2_with fail
      have hvo := Free.val
      refine Free.wp_factsR (R := (fun w w' => Below w.heap.size w w')) (ss := [13]) (pures := [0, 1, 2, 3, 4, 5, 6, 7, 8, 9, 10, 11]) (M := [0, 0, 0, 6, 14, 30, 0, 0, 192, 448, 960, 2046, 4094, 8191, 16383]) (D := [[], [], [], [(1, 12), (2, 13)], [(3, 14)], [(4, 15)], [], [], [(6, 17), (7, 18)], [(8, 19)], [(9, 20)], [(5, 16), (10, 21)], [(11, 22)], [(0, 11), (12, 23)], [(13, 24)]]) (outs := [14]) (soles := [13]) (E := [(0, 11, false), (1, 12, false), (2, 13, false), (3, 14, false), (4, 15, false), (5, 16, false), (6, 17, false), (7, 18, false), (8, 19, false), (9, 20, false), (10, 21, false), (11, 22, false), (12, 23, false), (13, 24, false), (14, 3, true)]) (N := 26) (S := (fun (d : Nat) w' => Below w.heap.size w w' ∧ (d = 0 → OK 86 w.heap.size w' (.slice A' N c') (L.take k)))) [Free.FactR.is ?_, Free.FactR.is ?_, Free.FactR.is ?_, Free.FactR.is ?_, Free.FactR.is ?_, Free.FactR.is ?_, Free.FactR.is ?_, Free.FactR.is ?_, Free.FactR.is ?_, Free.FactR.is ?_, Free.FactR.is ?_, Free.FactR.is ?_, Free.FactR.row #[.int .i64 q.id, .slice B m kk] 86 (fun _ _ _ h hb => h.below hb h.lt), Free.FactR.ok 86 w.heap.size (L.take k ++ [q]), Free.FactR.ok 86 w.heap.size (L.take k ++ [q])] (by kernel_rfl) (by kernel_rfl) (by kernel_rfl) rfl rfl (by decide) (⟨bl.drew, fun _ => hO.drew⟩) ?_ ?_
      rotate_left 12
      refine Free.cons ?_ ?_
      · intro st hag; (obtain rfl : st = 0 := Nat.le_antisymm hag.2 hag.1); intro w' hS; intro K hK; have k0 := (hS.1.cell (p := ⟨g, o + k * 2, none⟩) hg).trans hc0; have k1 := (hS.1.cell (p := ⟨g, o + k * 2 + 1, none⟩) hg).trans hc1; first | (refine Free.run_yes (by rfl) ?_; go_simp; refine Free.oR hK (hR (Below.refl _ _)) hS ?_; exact rfl) | (refine Free.run_no (by rfl) (Free.oR hK (hR (Below.refl _ _)) hS ?_); exact rfl)
      refine Free.cons ?_ ?_
      · intro st hag; (obtain rfl : st = 0 := Nat.le_antisymm hag.2 hag.1); intro w' hS; intro K hK; have k0 := (hS.1.cell (p := ⟨g, o + k * 2, none⟩) hg).trans hc0; have k1 := (hS.1.cell (p := ⟨g, o + k * 2 + 1, none⟩) hg).trans hc1; first | (refine Free.run_yes (by rfl) ?_; go_simp; refine Free.oR hK (hR (Below.refl _ _)) hS ?_; exact rfl) | (refine Free.run_no (by rfl) (Free.oR hK (hR (Below.refl _ _)) hS ?_); exact rfl)
      refine Free.cons ?_ ?_
      · intro st hag; (obtain rfl : st = 0 := Nat.le_antisymm hag.2 hag.1); intro w' hS; intro K hK; have k0 := (hS.1.cell (p := ⟨g, o + k * 2, none⟩) hg).trans hc0; have k1 := (hS.1.cell (p := ⟨g, o + k * 2 + 1, none⟩) hg).trans hc1; first | (refine Free.run_yes (by rfl) ?_; go_simp; refine Free.oR hK (hR (Below.refl _ _)) hS ?_; exact rfl) | (refine Free.run_no (by rfl) (Free.oR hK (hR (Below.refl _ _)) hS ?_); exact rfl)
      refine Free.cons ?_ ?_
      · intro st hag; (obtain rfl : st = 0 := Nat.le_antisymm hag.2 hag.1); intro w' hS; (rintro _ rfl); (rintro _ rfl); intro K hK; have k0 := (hS.1.cell (p := ⟨g, o + k * 2, none⟩) hg).trans hc0; have k1 := (hS.1.cell (p := ⟨g, o + k * 2 + 1, none⟩) hg).trans hc1; first | (refine Free.run_yes (by rfl) ?_; go_simp; refine Free.oR hK (hR (Below.refl _ _)) hS ?_; exact rfl) | (refine Free.run_no (by rfl) (Free.oR hK (hR (Below.refl _ _)) hS ?_); exact rfl)
      refine Free.cons ?_ ?_
      · intro st hag; (obtain rfl : st = 0 := Nat.le_antisymm hag.2 hag.1); intro w' hS; (rintro _ rfl); intro K hK; have k0 := (hS.1.cell (p := ⟨g, o + k * 2, none⟩) hg).trans hc0; have k1 := (hS.1.cell (p := ⟨g, o + k * 2 + 1, none⟩) hg).trans hc1; first | (refine Free.run_yes (by rfl) ?_; go_simp; refine Free.oR hK (hR (Below.refl _ _)) hS ?_; exact rfl) | (refine Free.run_no (by rfl) (Free.oR hK (hR (Below.refl _ _)) hS ?_); exact rfl)
      refine Free.cons ?_ ?_
      · intro st hag; (obtain rfl : st = 0 := Nat.le_antisymm hag.2 hag.1); intro w' hS; (rintro _ rfl); intro K hK; have k0 := (hS.1.cell (p := ⟨g, o + k * 2, none⟩) hg).trans hc0; have k1 := (hS.1.cell (p := ⟨g, o + k * 2 + 1, none⟩) hg).trans hc1; first | (refine Free.run_yes (by rfl) ?_; go_simp; refine Free.oR hK (hR (Below.refl _ _)) hS ?_; exact rfl) | (refine Free.run_no (by rfl) (Free.oR hK (hR (Below.refl _ _)) hS ?_); exact rfl)
      refine Free.cons ?_ ?_
      · intro st hag; (obtain rfl : st = 0 := Nat.le_antisymm hag.2 hag.1); intro w' hS; intro K hK; have k0 := (hS.1.cell (p := ⟨g, o + k * 2, none⟩) hg).trans hc0; have k1 := (hS.1.cell (p := ⟨g, o + k * 2 + 1, none⟩) hg).trans hc1; first | (refine Free.run_yes (by rfl) ?_; go_simp; refine Free.oR hK (hR (Below.refl _ _)) hS ?_; exact rfl) | (refine Free.run_no (by rfl) (Free.oR hK (hR (Below.refl _ _)) hS ?_); exact rfl)
      refine Free.cons ?_ ?_
      · intro st hag; (obtain rfl : st = 0 := Nat.le_antisymm hag.2 hag.1); intro w' hS; intro K hK; have k0 := (hS.1.cell (p := ⟨g, o + k * 2, none⟩) hg).trans hc0; have k1 := (hS.1.cell (p := ⟨g, o + k * 2 + 1, none⟩) hg).trans hc1; first | (refine Free.run_yes (by rfl) ?_; go_simp; refine Free.oR hK (hR (Below.refl _ _)) hS ?_; exact rfl) | (refine Free.run_no (by rfl) (Free.oR hK (hR (Below.refl _ _)) hS ?_); exact rfl)
      refine Free.cons ?_ ?_
      · intro st hag; (obtain rfl : st = 0 := Nat.le_antisymm hag.2 hag.1); intro w' hS; (rintro _ rfl); (rintro _ rfl); intro K hK; have k0 := (hS.1.cell (p := ⟨g, o + k * 2, none⟩) hg).trans hc0; have k1 := (hS.1.cell (p := ⟨g, o + k * 2 + 1, none⟩) hg).trans hc1; first | (refine Free.run_yes (by rfl) ?_; go_simp; refine Free.oR hK (hR (Below.refl _ _)) hS ?_; exact rfl) | (refine Free.run_no (by rfl) (Free.oR hK (hR (Below.refl _ _)) hS ?_); exact rfl)
      refine Free.cons ?_ ?_
      · intro st hag; (obtain rfl : st = 0 := Nat.le_antisymm hag.2 hag.1); intro w' hS; (rintro _ rfl); intro K hK; have k0 := (hS.1.cell (p := ⟨g, o + k * 2, none⟩) hg).trans hc0; have k1 := (hS.1.cell (p := ⟨g, o + k * 2 + 1, none⟩) hg).trans hc1; first | (refine Free.run_yes (by rfl) ?_; go_simp; refine Free.oR hK (hR (Below.refl _ _)) hS ?_; exact rfl) | (refine Free.run_no (by rfl) (Free.oR hK (hR (Below.refl _ _)) hS ?_); exact rfl)
      refine Free.cons ?_ ?_
      · intro st hag; (obtain rfl : st = 0 := Nat.le_antisymm hag.2 hag.1); intro w' hS; (rintro _ rfl); intro K hK; have k0 := (hS.1.cell (p := ⟨g, o + k * 2, none⟩) hg).trans hc0; have k1 := (hS.1.cell (p := ⟨g, o + k * 2 + 1, none⟩) hg).trans hc1; first | (refine Free.run_yes (by rfl) ?_; go_simp; refine Free.oR hK (hR (Below.refl _ _)) hS ?_; exact rfl) | (refine Free.run_no (by rfl) (Free.oR hK (hR (Below.refl _ _)) hS ?_); exact rfl)
      refine Free.cons ?_ ?_
      · intro st hag; (obtain rfl : st = 0 := Nat.le_antisymm hag.2 hag.1); intro w' hS; (rintro _ rfl); (rintro _ rfl); intro K hK; have k0 := (hS.1.cell (p := ⟨g, o + k * 2, none⟩) hg).trans hc0; have k1 := (hS.1.cell (p := ⟨g, o + k * 2 + 1, none⟩) hg).trans hc1; first | (refine Free.run_yes (by rfl) ?_; go_simp; refine Free.oR hK (hR (Below.refl _ _)) hS ?_; exact rfl) | (refine Free.run_no (by rfl) (Free.oR hK (hR (Below.refl _ _)) hS ?_); exact rfl)
      refine Free.cons ?_ ?_
      · intro st hag; (obtain rfl : st = 0 := Nat.le_antisymm hag.2 hag.1); intro w' hS; (rintro _ rfl); intro K hK; have k0 := (hS.1.cell (p := ⟨g, o + k * 2, none⟩) hg).trans hc0; have k1 := (hS.1.cell (p := ⟨g, o + k * 2 + 1, none⟩) hg).trans hc1; refine Free.run_yes (by rfl) ?_; (go_simp; refine hK.out _ _ ⟨_, rfl, Blk.new _ _ _⟩ ⟨hS.1.alloc hS.1.size _, fun _ => (hS.2 rfl).below ((Below.refl _ _).alloc (Nat.le_refl _) _)⟩ (.inr ((Below.refl _ _).alloc (Nat.le_refl _) _)))
      refine Free.cons ?_ ?_
      · intro st hag; (obtain rfl : st = 0 := Nat.le_antisymm hag.2 hag.1); intro w' hS; (rintro _ rfl); (intro v12 h12); intro K hK; have k0 := (hS.1.cell (p := ⟨g, o + k * 2, none⟩) hg).trans hc0; have k1 := (hS.1.cell (p := ⟨g, o + k * 2 + 1, none⟩) hg).trans hc1; refine Free.run_yes (by rfl) ?_; (obtain ⟨g2, rfl, hX⟩ := h12; refine wp_app1 86 42 Try.underlying42 info_rblock (.tmp 11) (.tmp 23) rfl w.heap.size (.slice A' N c') (L.take k) (hS.2 rfl) hS.1.size g2 86 q B m kk 1 rfl rfl hX (hE.below hS.1) (fun hm a ha e => by have := hE.lt hm a ha; have := hsl _ e; omega) (by rw [List.length_take]; omega) ?_; intro v3 w3 ho hk3; refine ⟨rfl, ?_⟩; refine hK.out _ _ ho ⟨hS.1.keeps hk3 (fun i hi e => by have := hsl i e; omega) (Nat.le_refl _), fun e => by cases e⟩ (.inl rfl))
      refine Free.cons ?_ ?_
      · intro st hag; (obtain rfl : st = 1 := Nat.le_antisymm hag.2 hag.1); intro w' hS; (intro v13 h13); intro K hK; have k0 := (hS.1.cell (p := ⟨g, o + k * 2, none⟩) hg).trans hc0; have k1 := (hS.1.cell (p := ⟨g, o + k * 2 + 1, none⟩) hg).trans hc1; first | (refine Free.run_yes (by rfl) ?_; go_simp; refine Free.oR hK (hR (Below.refl _ _)) hS ?_; first | exact rfl | assumption) | (refine Free.run_no (by rfl) (Free.oR hK (hR (Below.refl _ _)) hS ?_); exact rfl)
      exact Free.nil
      clear hvo
      intro w' hS; intro v0; intro v1; intro v2; intro v3; intro v4; intro v5; intro v6; intro v7; intro v8; intro v9; intro v10; intro v11; intro v12; intro v13; intro v14 h14; (try simp only [Act.put, List.setIfInBounds_toArray, List.set_cons_zero, List.set_cons_succ]); refine Free.toldE_nil ?_
      have h14 : OK 86 w.heap.size w' v14 (L.take (k + 1)) := by rw [htk.out]; exact h14
      have bl2 := hS.1
      clear hS hO hsl hc0 hc1
      go_wp2
      go_roundw
      case rel => exact ⟨k + 1, _, by omega, rfl, by go_num, h14, bl2⟩
      case measure => simp [intOf]; omega
    · have hkn : n = k := by omega
      obtain ⟨A', c', rfl, hrk⟩ := hO.rk
      have e : L.take k = L := List.take_of_length_le (by omega)
      rw [e, hLn] at hrk
      have hl : (L.take k).length = n := by rw [e, hLn]
      rw [hl] at *
      have hkn := Lib.hid hkn
      clear hl e
      go_wp2
      go_ret
      exact ⟨_, _, rfl, hrk, bl⟩
end Go.Proofs.Ytfldmejjepakeaa
