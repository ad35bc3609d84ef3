/- bucket.Encode. -/
import Derived.Test.YtfldmejjepakeaaBkE
import Derived.Test.YtfldmejjepakeaaRaw1
namespace Go.Proofs.Ytfldmejjepakeaa
open Go.ChangeShapes Go.WideShapes Go.ChangeAt Go.RowKit
open Go.ChangeMaps (open_string shut_string)
set_option linter.unusedVariables false
set_option linter.unusedSimpArgs false
set_option maxRecDepth 100000
open Go.Deep

theorem num_one (l : List UInt8) (x : Int) (h0 : 0 ≤ x) (h1 : x < 255) : numsL l false 1 [x] = (l ++ [UInt8.ofNat x.toNat], false) := by
  have hb : badNum 1 x = false := by
    have e1 : mayW 1 = true := by decide
    have e2 : topW (1 : Int).toNat = 255 := by decide
    unfold badNum
    rw [e1, e2, decide_eq_false (by omega), decide_eq_false (by omega)]
    rfl
  have e3 : be (1 : Int).toNat x = [UInt8.ofNat x.toNat] := by
    show [byteAt x 0] = _
    unfold byteAt
    rw [show (2 : Int) ^ (8 * 0) = 1 from rfl, Int.ediv_one, Int.emod_eq_of_lt h0 (by omega)]
  unfold numsL numsL numL
  rw [hb, e3]
  rfl
/-- A block's bytes; a bucket's. -/
def encK1 (b : BlkR) : List UInt8 := UInt8.ofNat (b.id + 1).toNat :: b.d
def bytesK (L : List BlkR) : List UInt8 := L.flatMap encK1
theorem bytesK_snoc (L : List BlkR) (b : BlkR) : bytesK (L ++ [b]) = bytesK L ++ [UInt8.ofNat (b.id + 1).toNat] ++ b.d := by simp [bytesK, encK1]
theorem bytesK_length (L : List BlkR) (h : ∀ b ∈ L, b.d.length = 37) : (bytesK L).length = 38 * L.length := by
  induction L with
  | nil => rfl
  | cons b r ih =>
    have h1 := h b (by simp)
    have h2 := ih (fun c hc => h c (by simp [hc]))
    unfold bytesK at *
    rw [List.flatMap_cons, List.length_append, h2, List.length_cons]
    unfold encK1
    rw [List.length_cons, h1]
    omega
/-- The text of a bucket, or why there is none. -/
def encKE (z : Int) (L : List BlkR) : Int := if mayZ z = true ∧ mayB L = true then (if z < L.length then 4 else 0) else 1
def encKT (z : Int) (L : List BlkR) : List UInt8 := if encKE z L = 0 then fill (bytesK L) (z.toNat * 38) else []
theorem encKE_zero {z : Int} {L : List BlkR} (h : encKE z L = 0) : mayZ z = true ∧ mayB L = true ∧ (L.length : Int) ≤ z := by
  unfold encKE at h
  split at h
  · rename_i hh
    split at h
    · cases h
    · exact ⟨hh.1, hh.2, by omega⟩
  · cases h
theorem mayB_len {L : List BlkR} (h : mayB L = true) : ∀ b ∈ L, b.d.length = 37 ∧ 0 ≤ b.id ∧ b.id < 64 := by
  intro b hb
  obtain ⟨i, hi⟩ := List.mem_iff_getElem?.1 hb
  have := okB_iff.1 (mayB_all h hi).1
  exact ⟨this.2.2, this.1, this.2.1⟩
theorem Wr.new (w : World) : Wr (w.alloc (.cells #[.slice none 0 0, .bool false] 81)) w.heap.size (.slice none 0 0) [] false := ⟨Blk.new _ _ _, OB.nil _ _, by simp [Value.ownBlock]⟩
theorem Wr.apart {w : World} {p g t : Nat} {v : Value} {l : List UInt8} {br : Bool} {cs : Array Value} (h : Wr w p v l br) (hg : Blk w g cs t) (ht : t ≠ 5) : v.ownBlock ≠ some g := by
  intro e
  obtain ⟨_, ho⟩ := h.own
  rcases ho with ⟨rfl, _⟩ | ⟨g2, cap, cur, rfl, _, hheap, _⟩
  · simp [Value.ownBlock] at e
  · simp [Value.ownBlock] at e
    subst e
    rw [hg] at hheap
    injection hheap with h1
    injection h1 with _ h2
    exact ht h2
theorem Blk.uniq {w : World} {g t t' : Nat} {cs cs' : Array Value} (h : Blk w g cs t) (h' : Blk w g cs' t') : t = t' := by
  unfold Blk at h h'
  rw [h] at h'
  injection h' with h1
  injection h1
/-- A slice of one element, in a block that the writer has nothing of. -/
def Free.FactR.rowX (p : Nat) (v : Value) (cs : Array Value) (t : Nat) : Free.FactR (fun w w' => Keeps (fun k => k = p ∨ v.ownBlock = some k) w w') :=
  { f := fun u w => ∃ g, u = .slice (some ⟨g, 0, none⟩) 1 1 ∧ Blk w g cs t ∧ g ≠ p ∧ v.ownBlock ≠ some g
    stab := fun _ _ _ ⟨g, h, h2, h3, h4⟩ hb => ⟨g, h, h2.keeps hb (fun e => e.elim h3 h4), h3, h4⟩ }
set_option maxHeartbeats 4000000 in
theorem bucket_encode (z : Int) (A : Option Addr) (n c : Nat) (L : List BlkR) (w : World) (h : RK w A n c L) :
    Calls Try.prog 23 #[.int .i64 z, .slice A n c] w fun e w' => ∃ v, e = .returned (.tuple #[v, .int .i64 (encKE z L)]) ∧ OB w' w.heap.size v (encKT z L) ∧ Below w.heap.size w w' := by
  have hnm : n ≤ maxLen := Nat.le_trans h.cap h.max
  unfold maxLen at hnm
  have hLn := h.len
  obtain ⟨b1, hb1⟩ : ∃ b, mayZ z = b := ⟨_, rfl⟩
  obtain ⟨b2, hb2⟩ : ∃ b, mayB L = b := ⟨_, rfl⟩
  have HZ := Lib.hid (fun w => bucket_may z b1 w hb1)
  have HB := Lib.hid (fun w h => hb2 ▸ bucket_May A n c L w h)
  obtain ⟨E, hE⟩ : ∃ E, encKE z L = E := ⟨_, rfl⟩
  have hres := Lib.hid hE
  rw [hE]
  cases b1 with
  | false =>
    have e1 := Lib.hid (show encKE z L = 1 by unfold encKE; rw [if_neg]; rw [hb1]; simp)
    clear hE
    go_enter Try.func23, Try.ntmps23
    go_wp2_with fail
    refine (HZ.out _).mono ?_
    rintro e w2 ⟨rfl, bl⟩
    go_wp2
    go_ret2
    exact ⟨_, (show Ending.returned (.tuple #[.slice none 0 0, .int .i64 1]) = .returned (.tuple #[_, .int .i64 E]) from by rw [← hres.out, e1.out]), (show OB w2 w.heap.size (.slice none 0 0) (encKT z L) from by unfold encKT; rw [if_neg (by rw [e1.out]; decide)]; exact OB.nil _ _), bl⟩
  | true =>
  cases b2 with
  | false =>
    have e1 := Lib.hid (show encKE z L = 1 by unfold encKE; rw [if_neg]; rw [hb2]; simp)
    clear hE
    go_enter Try.func23, Try.ntmps23
    go_wp2_with fail
    refine (HZ.out _).mono ?_
    rintro e w2 ⟨rfl, bl⟩
    go_wp2_with fail
    refine (HB.out _ (h.below bl)).mono ?_
    rintro e w3 ⟨rfl, b3⟩
    replace bl := Below.next bl b3 (Nat.le_refl _)
    go_wp2
    go_ret2
    exact ⟨_, (show Ending.returned (.tuple #[.slice none 0 0, .int .i64 1]) = .returned (.tuple #[_, .int .i64 E]) from by rw [← hres.out, e1.out]), (show OB w3 w.heap.size (.slice none 0 0) (encKT z L) from by unfold encKT; rw [if_neg (by rw [e1.out]; decide)]; exact OB.nil _ _), bl⟩
  | true =>
  have hz := mayZ_true hb1
  by_cases hn : z < n
  · have e1 := Lib.hid (show encKE z L = 4 by unfold encKE; rw [if_pos ⟨hb1, hb2⟩, if_pos (by rw [hLn]; exact hn)])
    clear hE
    go_enter Try.func23, Try.ntmps23
    go_wp2_with fail
    refine (HZ.out _).mono ?_
    rintro e w2 ⟨rfl, bl⟩
    go_wp2_with fail
    refine (HB.out _ (h.below bl)).mono ?_
    rintro e w3 ⟨rfl, b3⟩
    replace bl := Below.next bl b3 (Nat.le_refl _)
    go_wp2
    go_ret2
    exact ⟨_, (show Ending.returned (.tuple #[.slice none 0 0, .int .i64 4]) = .returned (.tuple #[_, .int .i64 E]) from by rw [← hres.out, e1.out]), (show OB w3 w.heap.size (.slice none 0 0) (encKT z L) from by unfold encKT; rw [if_neg (by rw [e1.out]; decide)]; exact OB.nil _ _), bl⟩
  · have e1 := Lib.hid (show encKE z L = 0 by unfold encKE; rw [if_pos ⟨hb1, hb2⟩, if_neg (by rw [hLn]; exact hn)])
    clear hE
    obtain ⟨zn, rfl⟩ := Int.eq_ofNat_of_zero_le (show 0 ≤ z by omega)
    have hnn : decide (zn < n) = false := decide_eq_false (by omega)
    have hnn2 : ¬ zn < n := by omega
    have hlen := Lib.hid (mayB_len hb2)
    have hll := Lib.hid (bytesK_length L (fun b hb => (hlen.out b hb).1))
    have HL := Lib.hid (fun w => bucket_length (zn : Int) (zn * 38 : Nat) w (by unfold lenZ; rw [hb1, if_pos rfl]; omega))
    clear hb1 hb2
    go_enter Try.func23, Try.ntmps23
    go_wp2_with fail
    refine (HZ.out _).mono ?_
    rintro e w2 ⟨rfl, bl⟩
    go_wp2_with fail
    refine (HB.out _ (h.below bl)).mono ?_
    rintro e w3 ⟨rfl, b3⟩
    replace bl := Below.next bl b3 (Nat.le_refl _)
    clear b3
    have hW0 := Wr.new w3
    have bl0 := bl.alloc bl.size (.cells #[.slice none 0 0, .bool false] 81)
    have hpw := bl.size
    go_wp2
    generalize w3.heap.size = p at *
    generalize w3.alloc (.cells #[.slice none 0 0, .bool false] 81) = W0 at *
    go_loopw [25] (fun i wr => ∃ (k : Nat) (v : Value), k ≤ n ∧ i = .int .i64 k ∧ Wr wr p v (bytesK (L.take k)) false ∧ (∀ j, v.ownBlock = some j → w.heap.size ≤ j) ∧ Below w.heap.size w wr) (fun i _ => n - (intOf i).toNat)
    case atStart => exact ⟨0, _, by omega, rfl, hW0, (fun j hj => by simp [Value.ownBlock] at hj), bl0⟩
    case round =>
      obtain ⟨k, v, hk, rfl, hW, hown, bl⟩ := hrel
      clear hW0 bl0
      by_cases hlt : k < n
      · obtain ⟨q, hq⟩ : ∃ q, L[k]? = some q := ⟨_, List.getElem?_eq_getElem (by omega)⟩
        obtain ⟨hq37, hq0, hq64⟩ := hlen.out q (List.mem_of_getElem? hq)
        obtain ⟨g, o, rfl, hc⟩ := h.at_ (by omega)
        obtain ⟨B, m, kk, hD, hd0, hd1⟩ := hc k q hq
        have hml := hD.len
        have hnx := Lib.hid (show bytesK (L.take (k + 1)) = bytesK (L.take k) ++ [UInt8.ofNat (q.id + 1).toNat] ++ q.d by rw [List.take_add_one, hq]; exact bytesK_snoc _ _)
        have hlk := Lib.hid (show (bytesK (L.take k)).length ≤ 1000 by rw [bytesK_length _ (fun b hb => (hlen.out b (List.mem_of_mem_take hb)).1), List.length_take]; omega)
        have hgw := World.block_lt_of_cell? w _ hd0
        have hc0 := (bl.cell (p := ⟨g, o + k * 2, none⟩) hgw).trans hd0
        have hc1 := (bl.cell (p := ⟨g, o + k * 2 + 1, none⟩) hgw).trans hd1
        have HN := Lib.hid (num_one (bytesK (L.take k)) (q.id + 1) (by omega) (by omega))
        have hw1 : IntKind.i64.wrap (q.id + 1) = q.id + 1 := IntWalk.i64_in _ (by omega)
        clear hc hq
        generalize bytesK (L.take k) = l at *
        generalize UInt8.ofNat (q.id + 1).toNat = x at *
        have hX := Blk.new wr #[.int .i64 q.id, .slice B m kk] 70
        have hW2 := hW.alloc (.cells #[.int .i64 q.id, .slice B m kk] 70)
        have bl2 := bl.alloc bl.size (.cells #[.int .i64 q.id, .slice B m kk] 70)
        go_wp2_with fail
        generalize wr.heap.size = gb at *
        generalize wr.alloc (.cells #[.int .i64 q.id, .slice B m kk] 70) = W1 at *
        clear hW hc0 hc1
        have hap := Lib.hid (hW2.apart hX (by decide))
        have hgp : gb ≠ p := fun e => absurd (Blk.uniq hX (e ▸ hW2.blk)) (by decide)
        have holt := Lib.hid hW2.olt
        have hplt := hW2.lt
        have hownH := Lib.hid hown
        have hR : ∀ {w w' : World}, Below w.heap.size w w' → Keeps (fun k => k = p ∨ v.ownBlock = some k) w w' := fun h => Keeps.of_below h
        clear hown
        have hvo := Free.val
        refine Free.wp_factsR (R := (fun w w' => Keeps (fun k => k = p ∨ v.ownBlock = some k) w w')) (ss := [4, 8]) (pures := [0, 1, 2, 4, 5, 6, 8]) (M := [0, 1, 3, 7, 15, 0, 32, 96, 255]) (D := [[], [(0, 29)], [(1, 30)], [(2, 31)], [(3, 32)], [], [(5, 34)], [(6, 35)], [(4, 33), (7, 36)]]) (outs := []) (soles := [8]) (E := [(0, 29, false), (1, 30, false), (2, 31, false), (3, 32, false), (4, 33, false), (5, 34, false), (6, 35, false), (7, 36, false), (8, 37, false)]) (N := 44) (S := (fun (st : Nat) w' => Below w.heap.size w w' ∧ W1.heap.size ≤ w'.heap.size ∧ (st ≤ 1 → Blk w' gb #[.int .i64 q.id, .slice B m kk] 70) ∧ (st = 0 → Wr w' p v l false) ∧ (st = 1 → ∃ v1, Wr w' p v1 (l ++ [x]) false ∧ ∀ j, v1.ownBlock = some j → w.heap.size ≤ j) ∧ (st = 2 → ∃ v2, Wr w' p v2 (l ++ [x] ++ q.d) false ∧ ∀ j, v2.ownBlock = some j → w.heap.size ≤ j))) [Free.FactR.is ?_, Free.FactR.is ?_, Free.FactR.is ?_, Free.FactR.rowX p v #[.int .i64 (q.id + 1)] 3, Free.FactR.is ?_, Free.FactR.is ?_, Free.FactR.is ?_, Free.FactR.rowX p v #[.slice B m kk] 22, Free.FactR.is ?_] (by kernel_rfl) (by kernel_rfl) (by kernel_rfl) rfl rfl (by decide) (⟨bl2.drew, Nat.le_refl _, fun _ => hX.drew, fun _ => hW2.drew, fun e => absurd e (by decide), fun e => absurd e (by decide)⟩) ?_ ?_
        rotate_left 7
        refine Free.cons ?_ ?_
        · intro st hag; (obtain rfl : st = 0 := Nat.le_antisymm hag.2 hag.1); intro w' hS; intro K hK; first | (refine Free.run_yes (by rfl) ?_; go_simp; refine Free.oR hK (hR (Below.refl _ _)) hS ?_; exact rfl) | (refine Free.run_no (by rfl) (Free.oR hK (hR (Below.refl _ _)) hS ?_); exact rfl)
        refine Free.cons ?_ ?_
        · intro st hag; (obtain rfl : st = 0 := Nat.le_antisymm hag.2 hag.1); intro w' hS; (rintro _ rfl); intro K hK; refine Free.run_yes (by rfl) ?_; (have k0 := (hS.2.2.1 (by omega)).cell 0 (v := .int .i64 q.id) rfl; go_simp; refine Free.oR hK (hR (Below.refl _ _)) hS ?_; exact rfl)
        refine Free.cons ?_ ?_
        · intro st hag; (obtain rfl : st = 0 := Nat.le_antisymm hag.2 hag.1); intro w' hS; (rintro _ rfl); intro K hK; first | (refine Free.run_yes (by rfl) ?_; go_simp; refine Free.oR hK (hR (Below.refl _ _)) hS ?_; exact rfl) | (refine Free.run_no (by rfl) (Free.oR hK (hR (Below.refl _ _)) hS ?_); exact rfl)
        refine Free.cons ?_ ?_
        · intro st hag; (obtain rfl : st = 0 := Nat.le_antisymm hag.2 hag.1); intro w' hS; (rintro _ rfl); intro K hK; refine Free.run_yes (by rfl) ?_; (go_simp; refine hK.out _ _ ⟨_, rfl, Blk.new _ _ _, by have := hS.2.1; omega, fun e => by have := holt.out _ e; have := hS.2.1; omega⟩ ⟨hS.1.alloc hS.1.size _, by simp; have := hS.2.1; omega, fun h => (hS.2.2.1 h).alloc _, fun h => (hS.2.2.2.1 h).alloc _, (fun e => absurd e (by decide)), (fun e => absurd e (by decide))⟩ (.inr (hR ((Below.refl _ _).alloc (Nat.le_refl _) _))))
        refine Free.cons ?_ ?_
        · intro st hag; (obtain rfl : st = 0 := Nat.le_antisymm hag.2 hag.1); intro w' hS; (intro v3 h3); intro K hK; refine Free.run_yes (by rfl) ?_; (obtain ⟨g3, rfl, hX3, hg3p, hg3v⟩ := h3; go_simp; go_at_call 53; refine (Num_any p v l false 1 [q.id + 1] (some ⟨g3, 0, none⟩) 1 1 w' (hS.2.2.2.1 rfl) (RI.of_blk hX3 rfl rfl (by unfold maxLen; omega)) (fun _ a ha => by injection ha with ha; subst ha; exact ⟨hg3p, hg3v, hX3.lt⟩) (by have := hlk.out; omega)).mono ?_; rintro e w5 ⟨rfl, v1, hw5, hst⟩; rw [show (false || !mayW 1) = false from by decide, HN.out] at hw5; refine hK.out _ _ ?_ ⟨hS.1.keeps hst.keeps (fun i hi e => by rcases e with e | e; omega; have := hownH.out _ e; omega) (Nat.le_refl _), Nat.le_trans hS.2.1 hst.keeps.size, fun _ => (hS.2.2.1 (by omega)).keeps hst.keeps (fun e => by rcases e with e | e; exact hgp e; exact hap.out e), (fun e => absurd e (by decide)), fun _ => ⟨v1, hw5, fun j hj => by rcases hst.own j hj with e | e; exact hownH.out _ e; have := hS.1.size; omega⟩, (fun e => absurd e (by decide))⟩ (.inr hst.keeps); exact rfl)
        refine Free.cons ?_ ?_
        · intro st hag w' hS; intro K hK; first | (refine Free.run_yes (by rfl) ?_; go_simp; refine Free.oR hK (hR (Below.refl _ _)) hS ?_; exact rfl) | (refine Free.run_no (by rfl) (Free.oR hK (hR (Below.refl _ _)) hS ?_); exact rfl)
        refine Free.cons ?_ ?_
        · intro st hag w' hS; (rintro _ rfl); intro K hK; refine Free.run_yes (by rfl) ?_; (have k1 := (hS.2.2.1 hag.2).cell 1 (v := .slice B m kk) rfl; go_simp; refine Free.oR hK (hR (Below.refl _ _)) hS ?_; exact rfl)
        refine Free.cons ?_ ?_
        · intro st hag w' hS; (rintro _ rfl); intro K hK; refine Free.run_yes (by rfl) ?_; (go_simp; refine hK.out _ _ ⟨_, rfl, Blk.new _ _ _, by have := hS.2.1; omega, fun e => by have := holt.out _ e; have := hS.2.1; omega⟩ ⟨hS.1.alloc hS.1.size _, by simp; have := hS.2.1; omega, fun h => (hS.2.2.1 h).alloc _, fun h => (hS.2.2.2.1 h).alloc _, fun h => (let ⟨u, hu, hu2⟩ := hS.2.2.2.2.1 h; ⟨u, hu.alloc _, hu2⟩), fun h => (let ⟨u, hu, hu2⟩ := hS.2.2.2.2.2 h; ⟨u, hu.alloc _, hu2⟩)⟩ (.inr (hR ((Below.refl _ _).alloc (Nat.le_refl _) _))))
        refine Free.cons ?_ ?_
        · intro st hag; (obtain rfl : st = 1 := Nat.le_antisymm hag.2 hag.1); intro w' hS; (rintro _ rfl); (intro v7 h7); intro K hK; refine Free.run_yes (by rfl) ?_; (obtain ⟨g7, rfl, hX7, _, _⟩ := h7; obtain ⟨v1, hw1', hown1⟩ := hS.2.2.2.2.1 rfl; go_simp; go_at_call 54; refine (raw_one p v1 (l ++ [x]) g7 22 B m kk q.d w' hw1' hX7 (hD.below hS.1) (by omega) (by have := hlk.out; simp; omega)).mono ?_; rintro e w5 ⟨rfl, v2, hw5, hst⟩; refine hK.out _ _ ?_ ⟨hS.1.keeps hst.keeps (fun i hi e => by rcases e with e | e; omega; have := hown1 _ e; omega) (Nat.le_refl _), Nat.le_trans hS.2.1 hst.keeps.size, (fun e => absurd e (by decide)), (fun e => absurd e (by decide)), (fun e => absurd e (by decide)), fun _ => ⟨v2, hw5, fun j hj => by rcases hst.own j hj with e | e; exact hown1 _ e; have := hS.1.size; omega⟩⟩ (.inl rfl); exact rfl)
        exact Free.nil
        clear hvo
        intro w' hS; intro v0; intro v1; intro v2; intro v3; intro v4; intro v5; intro v6; intro v7; intro v8; (try simp only [Act.put, List.setIfInBounds_toArray, List.set_cons_zero, List.set_cons_succ]); refine Free.toldE_nil ?_
        obtain ⟨v2, hw2, hown2⟩ := hS.2.2.2.2.2 rfl
        rw [← hnx.out] at hw2
        have bl3 := hS.1
        clear hS bl2 hX hW2 hap hgp holt hplt hR hownH
        go_wp2
        go_roundw
        case rel => exact ⟨k + 1, v2, by omega, by go_num, hw2, hown2, bl3⟩
        case measure => simp [intOf]; omega
      · have hkn : n = k := by omega
        have e : L.take k = L := List.take_of_length_le (by omega)
        rw [e] at hW
        have hk38 : (bytesK L).length ≤ zn * 38 := by rw [hll.out]; omega
        have HS := Lib.hid (fun w h => sealed_ok p v (bytesK L) (zn * 38) w h (by omega) hk38)
        clear e hkn
        go_wp2_with fail
        refine (HL.out _).mono ?_
        rintro e w5 ⟨rfl, b5⟩
        replace bl := Below.next bl b5 (Nat.le_refl _)
        replace hW := hW.below b5
        go_wp2_with fail
        refine (HS.out _ hW).mono ?_
        rintro e w6 ⟨rfl, hbk, b6⟩
        have hb0 := bl.size
        replace bl := Below.next bl b6 (Nat.le_refl _)
        go_wp2
        go_ret2
        refine ⟨_, (show Ending.returned (.tuple #[_, .int .i64 0]) = .returned (.tuple #[_, .int .i64 E]) from by rw [← hres.out, e1.out]), ?_, bl⟩
        have e9 : encKT (zn : Int) L = fill (bytesK L) (zn * 38) := by unfold encKT; rw [if_pos e1.out]; rfl
        rw [e9]
        have := OB.of_row (B := w.heap.size) hbk (by rw [fill_length]; unfold maxLen; omega) hb0
        rw [fill_length] at this
        exact this
end Go.Proofs.Ytfldmejjepakeaa
