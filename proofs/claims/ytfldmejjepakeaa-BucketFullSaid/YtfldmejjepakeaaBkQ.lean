/- BucketFull. -/
import Derived.Test.YtfldmejjepakeaaBkO
namespace Go.Proofs.Ytfldmejjepakeaa
open Go.ChangeShapes Go.WideShapes Go.ChangeAt Go.RowKit
open Go.ChangeMaps (open_string shut_string)
set_option linter.unusedVariables false
set_option linter.unusedSimpArgs false
set_option maxRecDepth 100000
open Go.Deep

def blkF (c : UInt8) (i : Nat) : BlkR := ⟨9 - (i : Int), (zs 37).set i c⟩
def fullB (c : UInt8) (k : Nat) : List BlkR := (List.range k).map (blkF c)
theorem fullB_len (c : UInt8) (k : Nat) : (fullB c k).length = k := by simp [fullB]
theorem fullB_at (c : UInt8) (k i : Nat) (h : i < k) : (fullB c k)[i]? = some (blkF c i) := by simp [fullB, h]
theorem fullB_next (c : UInt8) (k : Nat) : fullB c (k + 1) = fullB c k ++ [blkF c k] := by simp [fullB, List.range_succ]
theorem fullB_take (c : UInt8) (k : Nat) : (fullB c (k + 1)).take k = fullB c k := by
  rw [fullB_next, List.take_append_of_le_length (by rw [fullB_len]; exact Nat.le_refl _), List.take_of_length_le (by rw [fullB_len]; exact Nat.le_refl _)]
theorem fullB_may (c : UInt8) (k : Nat) (h : k ≤ 5) : mayB (fullB c k) = true := by
  refine mayB_yes fun i b hi hb => ?_
  rw [fullB_len] at hi
  rw [fullB_at c k i hi] at hb
  injection hb with hb
  subst hb
  refine ⟨okB_iff.2 ⟨?_, ?_, ?_⟩, seenB_none fun j b' hj hb' => ?_⟩
  · show (0 : Int) ≤ 9 - (i : Int); omega
  · show 9 - (i : Int) < 64; omega
  · show ((zs 37).set i c).length = 37; rw [List.length_set, zs_length]
  · rw [fullB_at c k j (by omega)] at hb'
    injection hb' with hb'
    subst hb'
    show 9 - (j : Int) ≠ 9 - (i : Int)
    omega
theorem full_over (c : UInt8) (zn : Nat) (h1 : 1 ≤ zn) (h4 : zn ≤ 4) : encKE zn (fullB c (zn + 1)) = 4 := by
  unfold encKE
  rw [if_pos ⟨by simp [mayZ]; omega, fullB_may c _ (by omega)⟩, if_pos (by rw [fullB_len]; omega)]
theorem full_ok (c : UInt8) (zn : Nat) (h1 : 1 ≤ zn) (h4 : zn ≤ 4) : encKE zn (fullB c zn) = 0 := by
  unfold encKE
  rw [if_pos ⟨by simp [mayZ]; omega, fullB_may c _ (by omega)⟩, if_neg (by rw [fullB_len]; omega)]
theorem enc_not (z : Int) (L : List BlkR) (h : mayB L = false) : encKE z L = 1 ∧ encKT z L = [] := by
  have e : encKE z L = 1 := by unfold encKE; rw [if_neg]; rw [h]; simp
  exact ⟨e, by unfold encKT; rw [if_neg (by rw [e]; decide)]⟩
theorem RK.take {w : World} {A : Option Addr} {n c : Nat} {L : List BlkR} (h : RK w A n c L) (k : Nat) (hk : k ≤ n) : RK w A k c (L.take k) := by
  refine ⟨by have := h.len; rw [List.length_take]; omega, Nat.le_trans hk h.cap, h.max, h.nil, fun hp => ?_⟩
  obtain ⟨g, o, e, hc⟩ := h.at_ (by omega)
  refine ⟨g, o, e, fun i b hb => hc i b ?_⟩
  rw [List.getElem?_take] at hb
  split at hb
  · exact hb
  · cases hb
theorem under_blocks : Try.prog.underlying 38 = some (.slice (Try.prog.elem 38)) := by rw [show Try.prog.elem 38 = 70 from by kernel_rfl]; exact Try.underlying38
theorem run_sizeBk (w : World) : (sizeOf (Try.prog.elem 38)).run Try.prog w = .ok 2 w := by rw [show Try.prog.elem 38 = 70 from by kernel_rfl]; rfl
theorem run_takeK (A : Option Addr) (n c cut : Nat) (w : World) (h : cut ≤ c) : (Instr.slice 38 (.slice A n c) none (some (.int .i64 cut)) none).run Try.prog w = .ok (.slice A cut c) w := by
  have := run_slice_h (P := Try.prog) w 38 A n c under_blocks .i64 cut (by omega) (by omega)
  rw [this, run_sizeBk]
  simp only [Result.andThen_ok, sliced, Int.toNat_natCast, Nat.sub_zero, Nat.zero_mul]
  congr 2
  split
  · rfl
  · cases A with
    | none => rfl
    | some a => simp [Addr.add]
theorem run_from (A : Option Addr) (n c lo : Nat) (x : Int) (hx : x = lo) (w : World) (h : lo ≤ n) : (Instr.slice 22 (.slice A n c) (some (.int .i64 x)) none none).run Try.prog w = .ok (.slice (if c = lo then A else A.map (·.add lo)) (n - lo) (c - lo)) w := by
  subst hx
  have := run_slice_l (P := Try.prog) w 22 A n c under_bytes .i64 lo (by omega) (by omega)
  rw [this, run_sizeU8]
  simp only [Result.andThen_ok, sliced, Int.toNat_natCast, Nat.mul_one]
theorem zs_at (n i : Nat) (h : i < n) : (zs n)[i]? = some 0 := by simp [zs, h]
theorem RB.drop1 {w : World} {B : Option Addr} {kk : Nat} {d : List UInt8} (h : RB w B 37 kk d) (hk : 37 ≤ kk) : RB w (if kk = 1 then B else B.map (·.add 1)) 36 (kk - 1) (d.drop 1) := by
  have := h.cut 1 37 (by omega) (Nat.le_refl _)
  rw [List.take_of_length_le (by rw [h.len]; exact Nat.le_refl _)] at this
  exact this
theorem bcells_set (l : List UInt8) (i : Nat) (c : UInt8) : (bcells l).setIfInBounds i (bv c) = bcells (l.set i c) := by
  apply Array.ext_getElem?
  intro j
  rw [bcells_at, Array.getElem?_setIfInBounds, bcells_size, List.getElem?_set]
  by_cases e : i = j
  · subst e
    by_cases hl : i < l.length
    · simp [hl]
    · simp [hl, bcells_at, List.getElem?_eq_none (Nat.le_of_not_lt hl)]
  · simp [e, bcells_at]
/-- Two blocks beside each other. -/
theorem RK.two {W : World} {g t : Nat} {b : BlkR} {B : Option Addr} {m k : Nat} (h : Blk W g #[.int .i64 b.id, .slice B m k, .int .i64 b.id, .slice B m k] t) (hd : RB W B m k b.d) : RK W (some ⟨g, 0, none⟩) 2 2 [b, b] := by
  refine ⟨rfl, Nat.le_refl _, (by decide), (fun h => by cases h), fun _ => ⟨g, 0, rfl, fun i q hq => ?_⟩⟩
  match i, hq with
  | 0, hq => simp at hq; subst hq; exact ⟨B, m, k, hd, h.cell 0 rfl, h.cell 1 rfl⟩
  | 1, hq => simp at hq; subst hq; exact ⟨B, m, k, hd, h.cell 2 rfl, h.cell 3 rfl⟩
  | i + 2, hq => simp at hq
def Free.Fact.rowN (n : Nat) (cs : Array Value) (t : Nat) : Free.Fact := ⟨fun u w => ∃ g, u = .slice (some ⟨g, 0, none⟩) n n ∧ Blk w g cs t, fun _ _ _ ⟨g, h, h2⟩ hb => ⟨g, h, h2.below hb h2.lt⟩⟩
def Free.Fact.pair (x : Value) : Free.Fact := ⟨fun u _ => ∃ v, u = .tuple #[v, x], fun _ _ _ h _ => h⟩
set_option maxHeartbeats 8000000 in
theorem full9 (z c : Int) (w : World) (hc : 0 ≤ c ∧ c < 256) : Calls Try.prog 12 #[.int .i64 z, .int .u8 c] w fun e w' => e = .returned (.bool true) ∧ Below w.heap.size w w' := by
  by_cases hz : z < 1 ∨ 4 < z
  · have hm : mayZ z = false := by simp [mayZ]; omega
    have HE := Lib.hid (fun w => (show Calls Try.prog 23 #[.int .i64 z, .slice none 0 0] w fun e w' => ∃ v, e = .returned (.tuple #[v, .int .i64 1]) ∧ OB w' w.heap.size v [] ∧ Below w.heap.size w w' from by
      have := bucket_encode z none 0 0 [] w (RK.none_ w)
      have e1 : encKE z [] = 1 := by unfold encKE; rw [if_neg]; rw [hm]; simp
      have e2 : encKT z [] = [] := by unfold encKT; rw [if_neg (by rw [e1]; decide)]
      rw [e1, e2] at this
      exact this))
    have HL := Lib.hid (fun w => bucket_length z 0 w (by unfold lenZ; rw [hm]; rfl))
    have hz2 := Lib.hid hz
    clear hm
    rcases (show z < 1 ∨ (¬ z < 1 ∧ 4 < z) by omega) with h1 | ⟨h1, h2⟩
    all_goals
      clear hz
      go_enter Try.func12, Try.ntmps12
      go_wp2_with fail
      refine (first9_any _).mono ?_
      rintro e w2 ⟨rfl, bl⟩
      go_wp2_with fail
      refine (HE.out _).mono ?_
      rintro e w3 ⟨v, rfl, ho, e3⟩
      obtain ⟨A3, c3, rfl, _⟩ := OB.sl ho 0 rfl
      replace bl := Below.next bl e3 (Nat.le_refl _)
      go_wp2_with fail
      refine (first9_any _).mono ?_
      rintro e w4 ⟨rfl, e4⟩
      replace bl := Below.next bl e4 (Nat.le_refl _)
      go_wp2_with fail
      refine (HL.out _).mono ?_
      rintro e w5 ⟨rfl, e5⟩
      replace bl := Below.next bl e5 (Nat.le_refl _)
      go_wp2
      go_ret
      exact ⟨rfl, bl⟩
  obtain ⟨zn, rfl⟩ := Int.eq_ofNat_of_zero_le (show 0 ≤ z by omega)
  have z1 : ¬ (zn : Int) < 1 := by omega
  have z4 : ¬ 4 < (zn : Int) := by omega
  have n1 : 1 ≤ zn := by omega
  have n4 : zn ≤ 4 := by omega
  clear hz
  obtain ⟨cb, hcb⟩ : ∃ cb : UInt8, (cb.toNat : Int) = c := ⟨UInt8.ofNat c.toNat, by rw [u8_small _ (by omega)]; omega⟩
  subst hcb
  clear hc
  have hmk37 := run_mk' 37 37 rfl (by omega)
  go_enter Try.func12, Try.ntmps12
  go_wp2_with fail
  refine (first9_any _).mono ?_
  rintro e w2 ⟨rfl, bl⟩
  go_wp2
  go_loopw [7, 8] (fun s i wr => ∃ (k : Nat) (v : Value), k ≤ zn + 1 ∧ s = v ∧ i = .int .i64 k ∧ OK 70 w.heap.size wr v (fullB cb k) ∧ Below w.heap.size w wr) (fun s i _ => 10 - (intOf i).toNat)
  case atStart => exact ⟨0, _, by omega, rfl, rfl, OK.nil _ _ _, bl⟩
  case round =>
    clear bl
    obtain ⟨k, v, hk, hv, rfl, hO, bl⟩ := hrel
    replace hv := hv.symm
    subst hv
    obtain ⟨A', c', rfl, hRK⟩ := hO.sl k (fullB_len cb k)
    by_cases hlt : k ≤ zn
    · have hlt2 : (k : Int) ≤ (zn : Int) := by omega
      have hk37 : (k : Int) < 37 := by omega
      have hnx := Lib.hid (fullB_next cb k)
      have hw9 : IntKind.i64.wrap (9 - (k : Int)) = 9 - (k : Int) := IntWalk.i64_in _ (by omega)
      have hfz := (Blk.new wr (bcells (zs 37)) 5).fz k
      have hcell0 : (wr.alloc (.cells (bcells (zs 37)) 5)).cell? ⟨wr.heap.size, k, none⟩ = some (.int .u8 0) := (Blk.new wr (bcells (zs 37)) 5).cell k (by rw [bcells_at, zs_at _ _ (by omega)]; rfl)
      have hb1 : Blk (wr.alloc (.cells ((bcells (zs 37)).setIfInBounds k (.int .u8 cb.toNat)) 5)) wr.heap.size (bcells ((zs 37).set k cb)) 5 := by
        rw [← bcells_set]
        exact Blk.new _ _ _
      have b2 : Below wr.heap.size wr (wr.alloc (.cells ((bcells (zs 37)).setIfInBounds k (.int .u8 cb.toNat)) 5)) := (by repeat (first | exact Below.refl _ _ | assumption | apply below_drewN' | apply Below.drew | refine Below.alloc ?_ (by first | omega | (simp; done) | (simp; omega)) _ | refine Below.setCell ?_ (by first | omega | (simp; done) | (simp; omega)) _))
      have hO2 := hO.below b2
      have hlenb : ((zs 37).set k cb).length = 37 := by rw [List.length_set, zs_length]
      have hd := RB.of_row hb1 (by rw [hlenb]; decide)
      rw [hlenb] at hd
      have hrow := Lib.hid (fun (j : Nat) hj => hO.lt j hj)
      have hsep := Lib.hid (show 0 < 37 → ∀ a, (some (⟨wr.heap.size, 0, none⟩ : Addr)) = some a → (Value.slice A' k c').ownBlock ≠ some a.block from fun _ a ha e => by injection ha with ha; subst ha; have := (hrow.out _ e).2; simp at this)
      clear hlenb
      go_wp2_with (refine wpList_app1 rfl 70 38 Try.underlying38 info_block (.tmp 60) (.tmp 65) rfl w.heap.size (.slice A' k c') (fullB cb k) (hO2.below ((Below.refl _ _).alloc (Nat.le_refl _) _)) (by simp; have := bl.size; omega) _ 70 (blkF cb k) (some ⟨wr.heap.size, 0, none⟩) 37 37 1 rfl rfl (Blk.new2 wr _ _ _) (hd.alloc _) hsep.out (by rw [fullB_len]; omega) ?_; intro v7 w7 ho7 hk7; obtain ⟨A7, c7, rfl, _⟩ := ho7.sl (k + 1) (by rw [List.length_append, fullB_len]; rfl))
      have bl7 : Below w.heap.size w w7 := (Below.next (Below.next bl b2 (Nat.le_refl _)) ((Below.refl _ _).alloc (Nat.le_refl _) _) (Nat.le_refl _)).keeps hk7 (fun j hj e => by have := (hrow.out j e).1; omega) (Nat.le_refl _)
      rw [← hnx.out] at ho7
      go_roundw
      case rel => exact ⟨k + 1, _, by omega, rfl, by go_num, ho7, bl7⟩
      case measure => simp [intOf]; omega
    · have hkz : k = zn + 1 := by omega
      have hle2 : ¬ (k : Int) ≤ (zn : Int) := by omega
      have hck := hRK.cap
      have hk0 : 0 < k := by omega
      have hk0i : (0 : Int) < (k : Int) := by omega
      have hkl := Lib.hid (show zn ≤ k by omega)
      have hsl := fun w => run_takeK A' k c' zn w (by omega)
      obtain ⟨g, o, rfl, hc⟩ := hRK.at_ (by omega)
      obtain ⟨B, m, kk, hd, h0, h1⟩ := hc 0 (blkF cb 0) (fullB_at cb k 0 (by omega))
      have hd0 : (blkF cb 0).d = (zs 37).set 0 cb := rfl
      rw [hd0] at hd
      obtain rfl : m = 37 := by rw [← hd.len, List.length_set, zs_length]
      have h0 : wr.cell? ⟨g, o, none⟩ = some (.int .i64 9) := h0
      have h1 : wr.cell? ⟨g, o + 1, none⟩ = some (.slice B 37 kk) := h1
      have hg : g < wr.heap.size := World.block_lt_of_cell? wr _ h0
      have hkk := hd.cap
      clear hc hd0
      have HE1 := Lib.hid (fun w (h : RK w (some ⟨g, o, none⟩) k c' (fullB cb k)) => (show Calls Try.prog 23 #[.int .i64 (zn : Int), .slice (some ⟨g, o, none⟩) k c'] w fun e w' => ∃ v, e = .returned (.tuple #[v, .int .i64 4]) ∧ OB w' w.heap.size v [] ∧ Below w.heap.size w w' from by have := bucket_encode (zn : Int) (some ⟨g, o, none⟩) k c' (fullB cb k) w h; have e1 : encKE (zn : Int) (fullB cb k) = 4 := (by rw [hkz]; exact full_over cb zn n1 n4); have e2 : encKT (zn : Int) (fullB cb k) = [] := (by unfold encKT; rw [if_neg (by rw [e1]; decide)]); rw [e1, e2] at this; exact this))
      have hT := Lib.hid (encK_len (full_ok cb zn n1 n4)).1
      have hD := Lib.hid (decK_yes (⟨full_ok cb zn n1 n4, rfl⟩ : IsK (zn : Int) (encKT (zn : Int) (fullB cb zn)) (fullB cb zn)))
      obtain ⟨T, hTT⟩ : ∃ T, encKT (zn : Int) (fullB cb zn) = T := ⟨_, rfl⟩
      rw [hTT] at hT hD
      have HE2 := Lib.hid (fun w (h : RK w (some ⟨g, o, none⟩) k c' (fullB cb k)) => (show Calls Try.prog 23 #[.int .i64 (zn : Int), .slice (some ⟨g, o, none⟩) zn c'] w fun e w' => ∃ v, e = .returned (.tuple #[v, .int .i64 0]) ∧ OB w' w.heap.size v T ∧ Below w.heap.size w w' from by have hh := h.take zn hkl.out; rw [hkz, fullB_take] at hh; have := bucket_encode (zn : Int) (some ⟨g, o, none⟩) zn c' (fullB cb zn) w hh; rw [full_ok cb zn n1 n4, hTT] at this; exact this))
      obtain ⟨t, ht⟩ : ∃ t, T.length = t := ⟨_, rfl⟩
      have htl : t ≤ 152 := by have := hT.out; rw [ht] at this; simp at this; omega
      have ht := Lib.hid ht
      have HD := Lib.hid (fun A c w (h : RB w A t c T) => (show Calls Try.prog 43 #[.int .i64 (zn : Int), .slice A t c] w fun e w' => ∃ v, e = .returned (.tuple #[v, .int .i64 0]) ∧ OK 70 w.heap.size w' v (fullB cb zn) ∧ Below w.heap.size w w' from by have := bucket_decode (zn : Int) A t c T w h (by omega); rw [hD.out] at this; exact this))
      have HS := Lib.hid (fun A c w (h : RK w A zn c (fullB cb zn)) (h2 : RK w (some ⟨g, o, none⟩) k c' (fullB cb k)) => (show Calls Try.prog 30 #[.slice A zn c, .slice (some ⟨g, o, none⟩) zn c'] w fun e w' => e = .returned (.bool true) ∧ Below w.heap.size w w' from by have hh := h2.take zn hkl.out; rw [hkz, fullB_take] at hh; have := bucket_Same A zn c (fullB cb zn) (some ⟨g, o, none⟩) zn c' (fullB cb zn) w h hh; rw [sameK_iff.2 rfl] at this; exact this))
      have HE3 := Lib.hid (fun g2 w (h : RK w (some ⟨g2, 0, none⟩) 2 2 [⟨9, (zs 37).set 0 cb⟩, ⟨9, (zs 37).set 0 cb⟩]) => (show Calls Try.prog 23 #[.int .i64 (zn : Int), .slice (some ⟨g2, 0, none⟩) 2 2] w fun e w' => ∃ v, e = .returned (.tuple #[v, .int .i64 1]) ∧ OB w' w.heap.size v [] ∧ Below w.heap.size w w' from by have := bucket_encode (zn : Int) _ 2 2 _ w h; have e := enc_not (zn : Int) _ (mayB_no (L := [⟨9, (zs 37).set 0 cb⟩, ⟨9, (zs 37).set 0 cb⟩]) (i := 1) rfl (.inr (by simp [seenB]))); rw [e.1, e.2] at this; exact this))
      have HE4 := Lib.hid (fun g2 w (h : RK w (some ⟨g2, 0, none⟩) 1 1 [⟨1, ((zs 37).set 0 cb).drop 1⟩]) => (show Calls Try.prog 23 #[.int .i64 (zn : Int), .slice (some ⟨g2, 0, none⟩) 1 1] w fun e w' => ∃ v, e = .returned (.tuple #[v, .int .i64 1]) ∧ OB w' w.heap.size v [] ∧ Below w.heap.size w w' from by have := bucket_encode (zn : Int) _ 1 1 _ w h; have e := enc_not (zn : Int) _ (mayB_no (L := [⟨1, ((zs 37).set 0 cb).drop 1⟩]) (i := 0) rfl (.inl (by simp [okB, zs_length]))); rw [e.1, e.2] at this; exact this))
      have HE5 := Lib.hid (fun g2 w (h : RK w (some ⟨g2, 0, none⟩) 1 1 [⟨64, (zs 37).set 0 cb⟩]) => (show Calls Try.prog 23 #[.int .i64 (zn : Int), .slice (some ⟨g2, 0, none⟩) 1 1] w fun e w' => ∃ v, e = .returned (.tuple #[v, .int .i64 1]) ∧ OB w' w.heap.size v [] ∧ Below w.heap.size w w' from by have := bucket_encode (zn : Int) _ 1 1 _ w h; have e := enc_not (zn : Int) _ (mayB_no (L := [⟨64, (zs 37).set 0 cb⟩]) (i := 0) rfl (.inl (by simp [okB]))); rw [e.1, e.2] at this; exact this))
      have hc1 := hd.drop1 (by omega)
      have hs1 := fun w => run_from B 37 kk 1 1 rfl w (by omega)
      simp only [Nat.reduceSub] at hs1
      generalize (if kk = 1 then B else B.map (·.add 1)) = B4 at *
      replace hkz := Lib.hid hkz
      have bw := Below.refl wr.heap.size wr
      clear hO hck hT hD hTT hkl
      have hLz := Lib.hid (fullB_len cb zn)
      generalize fullB cb k = Lk at *
      generalize fullB cb zn = Lz at *
      generalize (zs 37).set 0 cb = d0 at *
      go_wp2_with fail
      refine (HE1.out _ (hRK.below bw)).mono ?_
      rintro e w3 ⟨v3, rfl, ho3, e3⟩
      replace bl := Below.next bl e3 (Nat.le_refl _)
      replace bw := Below.next bw e3 (Nat.le_refl _)
      obtain ⟨A3, c3, rfl, _⟩ := OB.sl ho3 0 rfl
      clear ho3
      clear e3
      go_wp2_with fail
      refine (HE2.out _ (hRK.below bw)).mono ?_
      rintro e w4 ⟨v4, rfl, ho4, e3⟩
      replace bl := Below.next bl e3 (Nat.le_refl _)
      replace bw := Below.next bw e3 (Nat.le_refl _)
      obtain ⟨A4, c4, rfl, hR4⟩ := OB.sl ho4 t ht.out
      clear ho4
      clear e3
      go_wp2_with fail
      refine (HD.out _ _ _ hR4).mono ?_
      rintro e w5 ⟨v5, rfl, ho5, e3⟩
      replace bl := Below.next bl e3 (Nat.le_refl _)
      replace bw := Below.next bw e3 (Nat.le_refl _)
      obtain ⟨A5, c5, rfl, hR5⟩ := ho5.sl zn hLz.out
      clear ho5 hR4
      clear e3
      have keep := fun {w' w'' : World} (h : Below w.heap.size w w' ∧ Below wr.heap.size wr w' ∧ RK w' A5 zn c5 Lz) (hb : Below w'.heap.size w' w'') => (⟨Below.next h.1 hb (Nat.le_refl _), Below.next h.2.1 hb (Nat.le_refl _), h.2.2.below hb⟩ : Below w.heap.size w w'' ∧ Below wr.heap.size wr w'' ∧ RK w'' A5 zn c5 Lz)
      go_wp2_with fail
      have hvo := Free.val
      refine Free.wp_facts (M := [0, 0, 2, 6, 0, 16, 48, 126, 255, 511, 1023, 1023, 2047, 8191]) (D := [[], [], [(1, 89)], [(2, 90)], [], [(4, 92)], [(5, 93)], [(3, 91), (6, 94)], [(0, 88), (7, 95)], [(8, 96)], [(9, 87)], [(9, 87)], [(10, 97)], [(11, 98)]]) (outs := [13]) (soles := []) (E := [(0, 88, false), (1, 89, false), (2, 90, false), (3, 91, false), (4, 92, false), (5, 93, false), (6, 94, false), (7, 95, false), (8, 96, false), (9, 87, false), (10, 97, false), (11, 98, false), (12, 16, false), (13, 17, true)]) (N := 154) (S := (fun w' => Below w.heap.size w w' ∧ Below wr.heap.size wr w' ∧ RK w' A5 zn c5 Lz)) [Free.Fact.is ?_, Free.Fact.is ?_, Free.Fact.is ?_, Free.Fact.is ?_, Free.Fact.is ?_, Free.Fact.is ?_, Free.Fact.is ?_, Free.Fact.rowN 2 #[.int .i64 9, .slice B 37 kk, .int .i64 9, .slice B 37 kk] 70, Free.Fact.pair (.int .i64 1), Free.Fact.pair (.int .i64 1), Free.Fact.any, Free.Fact.is ?_, Free.Fact.any, Free.Fact.is ?_] (by kernel_rfl) (by kernel_rfl) rfl (⟨bl.drew, bw.drew, hR5.below (Below.refl _ _).drew⟩) ?_ ?_
      rotate_left 9
      refine Free.cons ?_ ?_
      · intro w' hS; intro K hK; have k0 := (hS.2.1.cell (p := ⟨g, o, none⟩) hg).trans h0; have k1 := (hS.2.1.cell (p := ⟨g, o + 1, none⟩) hg).trans h1; first | (refine Free.run_yes (by rfl) ?_; go_simp; refine Free.o hK hS ?_; exact rfl) | (refine Free.run_no (by rfl) (Free.o hK hS ?_); exact rfl)
      refine Free.cons ?_ ?_
      · intro w' hS; intro K hK; have k0 := (hS.2.1.cell (p := ⟨g, o, none⟩) hg).trans h0; have k1 := (hS.2.1.cell (p := ⟨g, o + 1, none⟩) hg).trans h1; first | (refine Free.run_yes (by rfl) ?_; go_simp; refine Free.o hK hS ?_; exact rfl) | (refine Free.run_no (by rfl) (Free.o hK hS ?_); exact rfl)
      refine Free.cons ?_ ?_
      · intro w' hS; (rintro _ rfl); intro K hK; have k0 := (hS.2.1.cell (p := ⟨g, o, none⟩) hg).trans h0; have k1 := (hS.2.1.cell (p := ⟨g, o + 1, none⟩) hg).trans h1; first | (refine Free.run_yes (by rfl) ?_; go_simp; refine Free.o hK hS ?_; exact rfl) | (refine Free.run_no (by rfl) (Free.o hK hS ?_); exact rfl)
      refine Free.cons ?_ ?_
      · intro w' hS; (rintro _ rfl); intro K hK; have k0 := (hS.2.1.cell (p := ⟨g, o, none⟩) hg).trans h0; have k1 := (hS.2.1.cell (p := ⟨g, o + 1, none⟩) hg).trans h1; first | (refine Free.run_yes (by rfl) ?_; go_simp; refine Free.o hK hS ?_; exact rfl) | (refine Free.run_no (by rfl) (Free.o hK hS ?_); exact rfl)
      refine Free.cons ?_ ?_
      · intro w' hS; intro K hK; have k0 := (hS.2.1.cell (p := ⟨g, o, none⟩) hg).trans h0; have k1 := (hS.2.1.cell (p := ⟨g, o + 1, none⟩) hg).trans h1; first | (refine Free.run_yes (by rfl) ?_; go_simp; refine Free.o hK hS ?_; exact rfl) | (refine Free.run_no (by rfl) (Free.o hK hS ?_); exact rfl)
      refine Free.cons ?_ ?_
      · intro w' hS; (rintro _ rfl); intro K hK; have k0 := (hS.2.1.cell (p := ⟨g, o, none⟩) hg).trans h0; have k1 := (hS.2.1.cell (p := ⟨g, o + 1, none⟩) hg).trans h1; first | (refine Free.run_yes (by rfl) ?_; go_simp; refine Free.o hK hS ?_; exact rfl) | (refine Free.run_no (by rfl) (Free.o hK hS ?_); exact rfl)
      refine Free.cons ?_ ?_
      · intro w' hS; (rintro _ rfl); intro K hK; have k0 := (hS.2.1.cell (p := ⟨g, o, none⟩) hg).trans h0; have k1 := (hS.2.1.cell (p := ⟨g, o + 1, none⟩) hg).trans h1; first | (refine Free.run_yes (by rfl) ?_; go_simp; refine Free.o hK hS ?_; exact rfl) | (refine Free.run_no (by rfl) (Free.o hK hS ?_); exact rfl)
      refine Free.cons ?_ ?_
      · intro w' hS; (rintro _ rfl); (rintro _ rfl); intro K hK; have k0 := (hS.2.1.cell (p := ⟨g, o, none⟩) hg).trans h0; have k1 := (hS.2.1.cell (p := ⟨g, o + 1, none⟩) hg).trans h1; refine Free.run_yes (by rfl) ?_; (go_simp; refine hK.out _ _ ⟨_, rfl, Blk.new _ _ _⟩ (keep hS ((Below.refl _ _).alloc (Nat.le_refl _) _)) (.inr ((Below.refl _ _).alloc (Nat.le_refl _) _)))
      refine Free.cons ?_ ?_
      · intro w' hS; (rintro _ rfl); (intro v7 h7); intro K hK; have k0 := (hS.2.1.cell (p := ⟨g, o, none⟩) hg).trans h0; have k1 := (hS.2.1.cell (p := ⟨g, o + 1, none⟩) hg).trans h1; refine Free.run_yes (by rfl) ?_; (obtain ⟨g2, rfl, hX⟩ := h7; go_simp; go_at_call 23; refine (HE3.out g2 _ (RK.two (b := ⟨9, d0⟩) hX (hd.below hS.2.1))).mono ?_; rintro e w' ⟨v, rfl, _, hb⟩; simp only [Free.valOf, Act.put, List.setIfInBounds_toArray, List.set_cons_zero, List.set_cons_succ, Array.getD_eq_getD_getElem?, List.getElem?_toArray, List.getElem?_cons_succ, List.getElem?_cons_zero, Option.getD_some]; refine hK.out _ _ ⟨v, rfl⟩ (keep hS hb) (.inr hb))
      refine Free.cons ?_ ?_
      · intro w' hS; (intro v8 h8); intro K hK; have k0 := (hS.2.1.cell (p := ⟨g, o, none⟩) hg).trans h0; have k1 := (hS.2.1.cell (p := ⟨g, o + 1, none⟩) hg).trans h1; first | (refine Free.run_yes (by rfl) ?_; go_simp; refine Free.o hK hS ?_; first | exact rfl | assumption) | (refine Free.run_no (by rfl) (Free.o hK hS ?_); exact rfl)
      refine Free.cons ?_ ?_
      · intro w' hS; (intro v9 h9); intro K hK; have k0 := (hS.2.1.cell (p := ⟨g, o, none⟩) hg).trans h0; have k1 := (hS.2.1.cell (p := ⟨g, o + 1, none⟩) hg).trans h1; refine Free.run_yes (by rfl) ?_; (obtain ⟨v, rfl⟩ := h9; go_simp; refine hK.out _ _ trivial hS (.inr (Below.refl _ _)))
      refine Free.cons ?_ ?_
      · intro w' hS; (intro v9 h9); intro K hK; have k0 := (hS.2.1.cell (p := ⟨g, o, none⟩) hg).trans h0; have k1 := (hS.2.1.cell (p := ⟨g, o + 1, none⟩) hg).trans h1; refine Free.run_yes (by rfl) ?_; (obtain ⟨v, rfl⟩ := h9; go_simp; refine Free.o hK hS ?_; exact rfl)
      refine Free.cons ?_ ?_
      · intro w' hS; (intro v10 h10); intro K hK; have k0 := (hS.2.1.cell (p := ⟨g, o, none⟩) hg).trans h0; have k1 := (hS.2.1.cell (p := ⟨g, o + 1, none⟩) hg).trans h1; refine Free.run_yes (by rfl) ?_; (go_simp; refine hK.out _ _ trivial hS (.inr (Below.refl _ _)))
      refine Free.cons ?_ ?_
      · intro w' hS; (rintro _ rfl); intro K hK; have k0 := (hS.2.1.cell (p := ⟨g, o, none⟩) hg).trans h0; have k1 := (hS.2.1.cell (p := ⟨g, o + 1, none⟩) hg).trans h1; first | (refine Free.run_yes (by rfl) ?_; go_simp; refine Free.o hK hS ?_; exact rfl) | (refine Free.run_no (by rfl) (Free.o hK hS ?_); exact rfl)
      exact Free.nil
      clear hvo
      intro w' hS; intro v0; intro v1; intro v2; intro v3; intro v4; intro v5; intro v6; intro v7; intro v8; intro v9; intro v10; intro v11; intro v12; (rintro _ rfl); (try simp only [Act.put, List.setIfInBounds_toArray, List.set_cons_zero, List.set_cons_succ]); refine Free.toldE_nil ?_
      replace bl := hS.1
      replace bw := hS.2.1
      replace hR5 := hS.2.2
      clear hS keep
      have k0 := (bw.cell (p := ⟨g, o, none⟩) hg).trans h0
      have k1 := (bw.cell (p := ⟨g, o + 1, none⟩) hg).trans h1
      have hx := Blk.new w' #[.int .i64 1, .slice B4 36 (kk - 1)] 70
      have ba : Below w'.heap.size w' (w'.alloc (.cells #[.int .i64 1, .slice B4 36 (kk - 1)] 70)) := (by repeat (first | exact Below.refl _ _ | assumption | apply below_drewN' | apply Below.drew | refine Below.alloc ?_ (by first | omega | (simp; done) | (simp; omega)) _ | refine Below.setCell ?_ (by first | omega | (simp; done) | (simp; omega)) _))
      replace bl := Below.next bl ba (Nat.le_refl _)
      replace bw := Below.next bw ba (Nat.le_refl _)
      replace hR5 := hR5.below ba
      have ho := RK.one hx (hc1.below bw)
      go_wp2_with fail
      refine (HE4.out _ _ ho).mono ?_
      rintro e w7 ⟨v7, rfl, ho7, e3⟩
      replace bl := Below.next bl e3 (Nat.le_refl _)
      replace bw := Below.next bw e3 (Nat.le_refl _)
      replace hR5 := hR5.below e3
      obtain ⟨A7, c7, rfl, _⟩ := OB.sl ho7 0 rfl
      clear ho7 ho hx ba k0 k1
      clear e3
      have k0 := (bw.cell (p := ⟨g, o, none⟩) hg).trans h0
      have k1 := (bw.cell (p := ⟨g, o + 1, none⟩) hg).trans h1
      have hx := Blk.new w7 #[.int .i64 64, .slice B 37 kk] 70
      have ba : Below w7.heap.size w7 (w7.alloc (.cells #[.int .i64 64, .slice B 37 kk] 70)) := (by repeat (first | exact Below.refl _ _ | assumption | apply below_drewN' | apply Below.drew | refine Below.alloc ?_ (by first | omega | (simp; done) | (simp; omega)) _ | refine Below.setCell ?_ (by first | omega | (simp; done) | (simp; omega)) _))
      replace bl := Below.next bl ba (Nat.le_refl _)
      replace bw := Below.next bw ba (Nat.le_refl _)
      replace hR5 := hR5.below ba
      have ho := RK.one hx (hd.below bw)
      go_wp2_with fail
      refine (HE5.out _ _ ho).mono ?_
      rintro e w8 ⟨v8, rfl, ho8, e3⟩
      replace bl := Below.next bl e3 (Nat.le_refl _)
      replace bw := Below.next bw e3 (Nat.le_refl _)
      replace hR5 := hR5.below e3
      obtain ⟨A8, c8, rfl, _⟩ := OB.sl ho8 0 rfl
      clear ho8 ho hx ba k0 k1
      clear e3
      go_wp2_with fail
      refine (first9_any _).mono ?_
      rintro e w9 ⟨rfl, e3⟩
      replace bl := Below.next bl e3 (Nat.le_refl _)
      replace bw := Below.next bw e3 (Nat.le_refl _)
      replace hR5 := hR5.below e3
      clear e3
      go_wp2_with fail
      refine (HS.out _ _ _ hR5 (hRK.below bw)).mono ?_
      rintro e w10 ⟨rfl, e3⟩
      replace bl := Below.next bl e3 (Nat.le_refl _)
      replace bw := Below.next bw e3 (Nat.le_refl _)
      clear e3
      go_wp2
      go_ret
      exact ⟨rfl, bl⟩
end Go.Proofs.Ytfldmejjepakeaa
