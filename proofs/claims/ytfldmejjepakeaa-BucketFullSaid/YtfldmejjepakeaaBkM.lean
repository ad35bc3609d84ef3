/- The document's DecodeBucket. -/
import Derived.Test.YtfldmejjepakeaaBkL
namespace Go.Proofs.Ytfldmejjepakeaa
open Go.ChangeShapes Go.WideShapes Go.ChangeAt Go.RowKit
open Go.ChangeMaps (open_string shut_string)
set_option linter.unusedVariables false
set_option linter.unusedSimpArgs false
set_option maxRecDepth 100000
open Go.Deep

theorem under_bytes : Try.prog.underlying 22 = some (.slice (Try.prog.elem 22)) := by rw [show Try.prog.elem 22 = 5 from by kernel_rfl]; exact Try.underlying22
theorem run_sizeU8 (w : World) : (sizeOf (Try.prog.elem 22)).run Try.prog w = .ok 1 w := by rw [show Try.prog.elem 22 = 5 from by kernel_rfl]; rfl
/-- A part of a slice of bytes. -/
theorem RB.cut {w : World} {A : Option Addr} {n c : Nat} {l : List UInt8} (h : RB w A n c l) (lo hi : Nat) (h1 : lo ≤ hi) (h2 : hi ≤ n) : RB w (if c = lo then A else A.map (·.add lo)) (hi - lo) (c - lo) ((l.take hi).drop lo) := by
  have hl := h.len
  have hc := h.cap
  have hm := h.max
  refine ⟨by simp; omega, by omega, by omega, ?_, fun hn => ?_⟩
  · intro hA
    by_cases e : c = lo
    · omega
    · rw [if_neg e] at hA
      cases A with
      | none => have := h.nil rfl; omega
      | some a => cases hA
  · obtain ⟨g, o, e, hx⟩ := h.at_ (by omega)
    subst e
    rw [if_neg (by omega)]
    refine ⟨g, o + lo, by rw [Option.map_some, Addr.add_lit], fun i p hp => ?_⟩
    rw [List.getElem?_drop, List.getElem?_take] at hp
    have hlt : lo + i < hi := by
      by_cases hh : lo + i < hi
      · exact hh
      · rw [if_neg hh] at hp; cases hp
    rw [if_pos hlt] at hp
    rw [Nat.add_assoc]
    exact hx (lo + i) p hp
theorem run_cut (A : Option Addr) (n c lo hi : Nat) (x y : Int) (hx : x = lo) (hy : y = hi) (w : World) (h1 : lo ≤ hi) (h2 : hi ≤ c) : (Instr.slice 22 (.slice A n c) (some (.int .i64 x)) (some (.int .i64 y)) none).run Try.prog w = .ok (.slice (if c = lo then A else A.map (·.add lo)) (hi - lo) (c - lo)) w := by
  subst hx hy
  have := run_slice_lh (P := Try.prog) w 22 A n c under_bytes .i64 .i64 lo hi (by omega) (by omega) (by omega)
  rw [this, run_sizeU8]
  simp only [Result.andThen_ok, sliced, Int.toNat_natCast, Nat.mul_one]
theorem OB.empty (w : World) {B : Nat} (hB : B ≤ w.heap.size) : OB (w.alloc (.cells #[] 5)) B (.slice (some ⟨w.heap.size, 0, none⟩) 0 0) [] :=
  ⟨rfl, .inr ⟨w.heap.size, 0, #[], rfl, hB, Blk.new w #[] 5, Nat.le_refl _, by decide, rfl, rfl⟩⟩
theorem ref_copy (A : Option Addr) (m c : Nat) (l : List UInt8) (w : World) (h : RB w A m c l) (hm : m ≤ 1000000) :
    Calls Try.prog 70 #[.slice A m c] w fun e w' => ∃ v, e = .returned v ∧ OB w' w.heap.size v l ∧ Below w.heap.size w w' := by
  have hl := h.len
  have b0 : Below w.heap.size w (w.alloc (.cells #[] 5)) := (by repeat (first | exact Below.refl _ _ | assumption | apply below_drewN' | apply Below.drew | refine Below.alloc ?_ (by first | omega | (simp; done) | (simp; omega)) _ | refine Below.setCell ?_ (by first | omega | (simp; done) | (simp; omega)) _))
  go_enter Try.func70, Try.ntmps70
  go_wp2_with (refine wpList_app rfl (.tmp 3) (.tmp 4) rfl w.heap.size (.slice (some ⟨w.heap.size, 0, none⟩) 0 0) [] l A m c rfl rfl (OB.empty w (Nat.le_refl _)) (h.alloc _) (by simp; omega) (by simp) ?_; intro v2 w2 ha; obtain ⟨A2, c2, rfl, _⟩ := OB.sl ha.own m (by simp [hl]))
  go_ret
  exact ⟨_, rfl, ha.own, b0.keeps ha.keeps (fun i hi e => by simp [Value.ownBlock] at e; omega) (by simp)⟩
/-- A block's value, its bytes in memory from N0 on; a slice of one such. -/
def Free.FactR.dat (N0 : Nat) (id : Int) (n : Nat) (d : List UInt8) : Free.FactR (fun w w' => Below w.heap.size w w') :=
  { f := fun u w => ∃ B c, u = .agg #[.int .i64 id, .slice B n c] ∧ RB w B n c d ∧ ∀ a, B = some a → N0 ≤ a.block
    stab := fun _ _ _ ⟨B, c, h, h2, h3⟩ hb => ⟨B, c, h, h2.below hb, h3⟩ }
def Free.FactR.rowd (N0 t : Nat) (id : Int) (n : Nat) (d : List UInt8) : Free.FactR (fun w w' => Below w.heap.size w w') :=
  { f := fun u w => ∃ g B c, u = .slice (some ⟨g, 0, none⟩) 1 1 ∧ Blk w g #[.int .i64 id, .slice B n c] t ∧ RB w B n c d ∧ ∀ a, B = some a → N0 ≤ a.block
    stab := fun _ _ _ ⟨g, B, c, h, h1, h2, h3⟩ hb => ⟨g, B, c, h, h1.below hb h1.lt, h2.below hb, h3⟩ }
theorem parseD_nil (k : Nat) : parseD k [] = [] := by cases k <;> rfl
theorem parseD_stop (k : Nat) (x : UInt8) (t : List UInt8) (h : x = 0 ∨ t.length < 37) : parseD k (x :: t) = [] := by
  cases k with
  | zero => rfl
  | succ k => unfold parseD; exact if_pos h
theorem parseD_go (k : Nat) (x : UInt8) (t : List UInt8) (h : ¬ (x = 0 ∨ t.length < 37)) : parseD (k + 1) (x :: t) = ⟨(x.toNat : Int) - 1, t.take 37⟩ :: parseD k (t.drop 37) := by
  show (if x = 0 ∨ t.length < 37 then [] else _) = _
  exact if_neg h
set_option maxHeartbeats 8000000 in
theorem ref_decodeB (z : Int) (A : Option Addr) (n c : Nat) (b : List UInt8) (w : World) (h : RB w A n c b) (hn : n ≤ 100000) :
    Calls Try.prog 44 #[.int .i64 z, .slice A n c] w fun e w' => ∃ v, e = .returned (.tuple #[v, .int .i64 (decK z b).2]) ∧ OK 86 w.heap.size w' v (decK z b).1 ∧ Below w.heap.size w w' := by
  have hbn := h.len
  have hnc := h.cap
  obtain ⟨b1, hb1⟩ : ∃ b, mayZ z = b := ⟨_, rfl⟩
  cases b1 with
  | false =>
    have HZ := Lib.hid (fun w => ref_length z 0 w (by unfold lenZ; rw [hb1]; rfl))
    have e1 : decK z b = ([], 1) := by
      rw [decK_no (fun L hL => by have := (encKE_zero hL.1).1; rw [hb1] at this; cases this), hb1]
      rfl
    rw [e1]
    go_enter Try.func44, Try.ntmps44
    go_wp2_with fail
    refine (HZ.out _).mono ?_
    rintro e w2 ⟨rfl, bl⟩
    go_wp2
    go_ret2
    exact ⟨_, rfl, OK.nil _ _ _, bl⟩
  | true =>
  have hz := mayZ_true hb1
  obtain ⟨r, hr⟩ : ∃ r, lenZ z = r := ⟨_, rfl⟩
  have HZ := Lib.hid (fun w => ref_length z r w hr)
  have hr0 : (r == 0) = false := by rw [beq_eq_false_iff_ne, ← hr]; unfold lenZ; rw [hb1, if_pos rfl]; omega
  have hno := Lib.hid (fun (hL : ∀ L, ¬ IsK z b L) => (show decK z b = ([], 2) from by rw [decK_no hL, hb1]; rfl))
  obtain ⟨F, hF⟩ : ∃ F, b.length + 4 = F := ⟨_, rfl⟩
  have hcase := Lib.hid (decK_parseD (z := z) (b := b) (k := F) (by omega))
  clear hb1 hr
  go_enter Try.func44, Try.ntmps44
  go_wp2_with fail
  refine (HZ.out _).mono ?_
  rintro e w2 ⟨rfl, bl⟩
  go_wp2
  go_loopw [6, 7] (fun s i wr => ∃ (k : Nat) (v : Value) (L : List BlkR), 38 * k ≤ n + 37 ∧ s = v ∧ i = .int .i64 k ∧ OK 86 w.heap.size wr v L ∧ Hid (L ++ parseD (F - k) (b.drop (38 * k)) = parseD F b) ∧ L.length ≤ k ∧ Below w.heap.size w wr) (fun s i _ => 100000 - (intOf i).toNat)
  case atStart => exact ⟨0, _, [], by omega, rfl, rfl, OK.nil _ _ _, Lib.hid rfl, Nat.le_refl _, bl⟩
  case round =>
    clear bl
    obtain ⟨k, v, L, hk, hv, rfl, hO, hps, hLk, bl⟩ := hrel
    replace hv := hv.symm
    subst hv
    obtain ⟨A', c', rfl, hRK⟩ := hO.rk
    obtain ⟨N', hN'⟩ : ∃ a, L.length = a := ⟨_, rfl⟩
    rw [hN'] at hO hRK hLk ⊢
    obtain ⟨a, ha⟩ : ∃ a, 38 * k = a := ⟨_, rfl⟩
    have hkb : k ≤ 10000 := by omega
    have hw0 : IntKind.i64.wrap ((k : Int) * 38) = (a : Int) := by rw [IntWalk.i64_in _ (by omega)]; omega
    rw [ha] at hps hk
    by_cases hlt : a < n
    rotate_left
    · have hlt2 : ¬ (a : Int) < (n : Int) := by omega
      have hL : Hid (L = parseD F b) := Lib.hid (by have := hps.out; rw [List.drop_of_length_le (by omega), parseD_nil, List.append_nil] at this; exact this)
      have haH := Lib.hid ha
      clear ha
      have HE := Lib.hid (fun w (h : RK w A' N' c' L) => ref_encodeB z A' N' c' L w h)
      rw [← hL.out] at hcase
      have hres : Hid (encKE z L = 0 ∧ encKT z L = b → decK z b = (L, 0)) := Lib.hid (fun hh => by rcases hcase.out with h1 | h1; exact h1.2; exact absurd hh h1.1)
      have hres2 : Hid (¬ (encKE z L = 0 ∧ encKT z L = b) → decK z b = ([], 2)) := Lib.hid (fun hh => by rcases hcase.out with h1 | h1; exact absurd h1.1 hh; exact hno.out h1.2)
      generalize encKE z L = E at *
      generalize encKT z L = T at *
      obtain ⟨t, ht⟩ : ∃ t, T.length = t := ⟨_, rfl⟩
      have ht := Lib.hid ht
      obtain ⟨y, hy⟩ : ∃ y, (T == b) = y := ⟨_, rfl⟩
      have hN'' := Lib.hid hN'
      clear hcase hno hps hN'
      go_wp2_with fail
      refine (HE.out _ hRK).mono ?_
      rintro e w5 ⟨v5, rfl, ho5, e5⟩
      obtain ⟨A5, c5, rfl, hR5⟩ := OB.sl ho5 t ht.out
      replace bl := Below.next bl e5 (Nat.le_refl _)
      replace hO := hO.below e5
      have hfin := Lib.hid hO
      clear hO hRK ho5
      by_cases e0 : E = 0
      rotate_left
      · have f0 : (E != 0) = true := by rw [bne_iff_ne]; exact e0
        have hd := Lib.hid (hres2.out (fun hh => e0 hh.1))
        go_wp2
        go_ret2
        rw [hd.out]
        exact ⟨_, rfl, OK.nil _ _ _, bl⟩
      subst e0
      have hB := Lib.hid (fun w (h : RB w A5 t c5 T) (h' : RB w A n c b) => hy ▸ ref_Bytes A5 A t c5 n c T b w h h')
      go_wp2_with fail
      refine (hB.out _ hR5 (h.below bl)).mono ?_
      rintro e w6 ⟨rfl, rfl⟩
      cases y with
      | true =>
        have hd := Lib.hid (hres.out ⟨by first | exact rfl | trivial, by simpa using hy⟩)
        go_wp2
        go_ret2
        rw [hd.out]
        exact ⟨_, rfl, hfin.out, bl⟩
      | false =>
        have hd := Lib.hid (hres2.out (fun hh => by rw [hh.2] at hy; simp at hy))
        go_wp2
        go_ret2
        rw [hd.out]
        exact ⟨_, rfl, OK.nil _ _ _, bl⟩
    · have hlt2 : (a : Int) < (n : Int) := by omega
      obtain ⟨x, hx⟩ : ∃ x, b[a]? = some x := ⟨_, List.getElem?_eq_getElem (by omega)⟩
      have hdr : b.drop a = x :: b.drop (a + 1) := by
        obtain ⟨hl, he⟩ := List.getElem?_eq_some_iff.1 hx
        rw [List.drop_eq_getElem_cons hl, he]
      obtain ⟨g, o, rfl, hc⟩ := h.at_ (by omega)
      have hcx := hc a x hx
      have hcx2 := ((h.below bl).at_ (by omega))
      have hgw := World.block_lt_of_cell? w _ hcx
      have hcw := (bl.cell (p := ⟨g, o + a, none⟩) hgw).trans hcx
      have hbd : (b.drop (a + 1)).length = n - (a + 1) := by rw [List.length_drop, hbn]
      clear hcx2 hc hx
      rw [hdr] at hps
      unfold bv at hcw hcx
      have hxl := UInt8.toNat_lt x
      by_cases hx0 : x = 0
      · have hx1 : ((x.toNat : Int) == 0) = true := by rw [hx0]; rfl
        have hL : Hid (L = parseD F b) := Lib.hid (by have := hps.out; rw [parseD_stop _ _ _ (.inl hx0), List.append_nil] at this; exact this)
        have haH := Lib.hid ha
        clear ha hx0 hdr hxl hbd
        have HE := Lib.hid (fun w (h : RK w A' N' c' L) => ref_encodeB z A' N' c' L w h)
        rw [← hL.out] at hcase
        have hres : Hid (encKE z L = 0 ∧ encKT z L = b → decK z b = (L, 0)) := Lib.hid (fun hh => by rcases hcase.out with h1 | h1; exact h1.2; exact absurd hh h1.1)
        have hres2 : Hid (¬ (encKE z L = 0 ∧ encKT z L = b) → decK z b = ([], 2)) := Lib.hid (fun hh => by rcases hcase.out with h1 | h1; exact absurd h1.1 hh; exact hno.out h1.2)
        generalize encKE z L = E at *
        generalize encKT z L = T at *
        obtain ⟨t, ht⟩ : ∃ t, T.length = t := ⟨_, rfl⟩
        have ht := Lib.hid ht
        obtain ⟨y, hy⟩ : ∃ y, (T == b) = y := ⟨_, rfl⟩
        have hN'' := Lib.hid hN'
        clear hcase hno hps hN'
        go_wp2_with fail
        refine (HE.out _ hRK).mono ?_
        rintro e w5 ⟨v5, rfl, ho5, e5⟩
        obtain ⟨A5, c5, rfl, hR5⟩ := OB.sl ho5 t ht.out
        replace bl := Below.next bl e5 (Nat.le_refl _)
        replace hO := hO.below e5
        have hfin := Lib.hid hO
        clear hO hRK ho5
        by_cases e0 : E = 0
        rotate_left
        · have f0 : (E != 0) = true := by rw [bne_iff_ne]; exact e0
          have hd := Lib.hid (hres2.out (fun hh => e0 hh.1))
          go_wp2
          go_ret2
          rw [hd.out]
          exact ⟨_, rfl, OK.nil _ _ _, bl⟩
        subst e0
        have hB := Lib.hid (fun w (h : RB w A5 t c5 T) (h' : RB w (some ⟨g, o, none⟩) n c b) => hy ▸ ref_Bytes A5 (some ⟨g, o, none⟩) t c5 n c T b w h h')
        go_wp2_with fail
        refine (hB.out _ hR5 (h.below bl)).mono ?_
        rintro e w6 ⟨rfl, rfl⟩
        cases y with
        | true =>
          have hd := Lib.hid (hres.out ⟨by first | exact rfl | trivial, by simpa using hy⟩)
          go_wp2
          go_ret2
          rw [hd.out]
          exact ⟨_, rfl, hfin.out, bl⟩
        | false =>
          have hd := Lib.hid (hres2.out (fun hh => by rw [hh.2] at hy; simp at hy))
          go_wp2
          go_ret2
          rw [hd.out]
          exact ⟨_, rfl, OK.nil _ _ _, bl⟩
      have hx1 : ((x.toNat : Int) == 0) = false := by
        rw [beq_eq_false_iff_ne]
        intro e
        exact hx0 (UInt8.toNat_inj.1 (by rw [show x.toNat = 0 by omega]; rfl))
      have hw1 : IntKind.i64.wrap ((n : Int) - a) = (n : Int) - a := IntWalk.i64_in _ (by omega)
      by_cases hsh : n < a + 38
      · have hs1 : (n : Int) - a < 38 := by omega
        have hL : Hid (L = parseD F b) := Lib.hid (by have := hps.out; rw [parseD_stop _ _ _ (.inr (by rw [hbd]; omega)), List.append_nil] at this; exact this)
        have haH := Lib.hid ha
        clear ha hdr hxl hbd
        have HE := Lib.hid (fun w (h : RK w A' N' c' L) => ref_encodeB z A' N' c' L w h)
        rw [← hL.out] at hcase
        have hres : Hid (encKE z L = 0 ∧ encKT z L = b → decK z b = (L, 0)) := Lib.hid (fun hh => by rcases hcase.out with h1 | h1; exact h1.2; exact absurd hh h1.1)
        have hres2 : Hid (¬ (encKE z L = 0 ∧ encKT z L = b) → decK z b = ([], 2)) := Lib.hid (fun hh => by rcases hcase.out with h1 | h1; exact absurd h1.1 hh; exact hno.out h1.2)
        generalize encKE z L = E at *
        generalize encKT z L = T at *
        obtain ⟨t, ht⟩ : ∃ t, T.length = t := ⟨_, rfl⟩
        have ht := Lib.hid ht
        obtain ⟨y, hy⟩ : ∃ y, (T == b) = y := ⟨_, rfl⟩
        have hN'' := Lib.hid hN'
        clear hcase hno hps hN'
        go_wp2_with fail
        refine (HE.out _ hRK).mono ?_
        rintro e w5 ⟨v5, rfl, ho5, e5⟩
        obtain ⟨A5, c5, rfl, hR5⟩ := OB.sl ho5 t ht.out
        replace bl := Below.next bl e5 (Nat.le_refl _)
        replace hO := hO.below e5
        have hfin := Lib.hid hO
        clear hO hRK ho5
        by_cases e0 : E = 0
        rotate_left
        · have f0 : (E != 0) = true := by rw [bne_iff_ne]; exact e0
          have hd := Lib.hid (hres2.out (fun hh => e0 hh.1))
          go_wp2
          go_ret2
          rw [hd.out]
          exact ⟨_, rfl, OK.nil _ _ _, bl⟩
        subst e0
        have hB := Lib.hid (fun w (h : RB w A5 t c5 T) (h' : RB w (some ⟨g, o, none⟩) n c b) => hy ▸ ref_Bytes A5 (some ⟨g, o, none⟩) t c5 n c T b w h h')
        go_wp2_with fail
        refine (hB.out _ hR5 (h.below bl)).mono ?_
        rintro e w6 ⟨rfl, rfl⟩
        cases y with
        | true =>
          have hd := Lib.hid (hres.out ⟨by first | exact rfl | trivial, by simpa using hy⟩)
          go_wp2
          go_ret2
          rw [hd.out]
          exact ⟨_, rfl, hfin.out, bl⟩
        | false =>
          have hd := Lib.hid (hres2.out (fun hh => by rw [hh.2] at hy; simp at hy))
          go_wp2
          go_ret2
          rw [hd.out]
          exact ⟨_, rfl, OK.nil _ _ _, bl⟩
      have hs1 : ¬ (n : Int) - a < 38 := by omega
      obtain ⟨d, hd⟩ : ∃ d, (b.drop (a + 1)).take 37 = d := ⟨_, rfl⟩
      have hd37 := Lib.hid (show d.length = 37 by rw [← hd, List.length_take, hbd]; omega)
      have hnx : Hid ((L ++ [⟨(x.toNat : Int) - 1, d⟩]) ++ parseD (F - (k + 1)) (b.drop (38 * (k + 1))) = parseD F b) := Lib.hid (by
        have := hps.out
        rw [show F - k = (F - (k + 1)) + 1 by omega, parseD_go _ _ _ (by rw [hbd]; intro hh; rcases hh with hh | hh; exact hx0 hh; omega), hd, List.drop_drop, show a + 1 + 37 = 38 * (k + 1) by omega] at this
        rw [List.append_assoc]
        exact this)
      have hcut := h.cut (a + 1) (a + 38) (by omega) (by omega)
      rw [List.drop_take, show a + 38 - (a + 1) = 37 by omega, hd] at hcut
      have hsl := fun w => run_cut (some ⟨g, o, none⟩) n c (a + 1) (a + 38) ((a : Int) + 1) ((a : Int) + 1 + 37) (by omega) (by omega) w (by omega) (by omega)
      rw [show a + 38 - (a + 1) = 37 by omega] at hsl
      generalize (if c = a + 1 then (some ⟨g, o, none⟩ : Option Addr) else (some (⟨g, o, none⟩ : Addr)).map (·.add (a + 1))) = A4 at *
      generalize c - (a + 1) = c4 at *
      have hw2 : IntKind.i64.wrap (x.toNat : Int) = (x.toNat : Int) := IntWalk.i64_in _ (by omega)
      have hw3 : IntKind.i64.wrap ((x.toNat : Int) - 1) = (x.toNat : Int) - 1 := IntWalk.i64_in _ (by omega)
      have hw4 : IntKind.i64.wrap ((a : Int) + 1) = (a : Int) + 1 := IntWalk.i64_in _ (by omega)
      have hw5 : IntKind.i64.wrap ((a : Int) + 1 + 37) = (a : Int) + 1 + 37 := IntWalk.i64_in _ (by omega)
      have HC := Lib.hid (fun w (h : RB w A4 37 c4 d) => ref_copy A4 37 c4 d w h (by omega))
      have hrow := Lib.hid (fun (j : Nat) hj => hO.lt j hj)
      have hLl := Lib.hid (show L.length ≤ 100000 by omega)
      have hR : ∀ {w w' : World}, Below w.heap.size w w' → Below w.heap.size w w' := fun h => h
      have haH := Lib.hid ha
      have hN'' := Lib.hid hN'
      obtain ⟨W1, rfl⟩ : ∃ W1, W1 = wr := ⟨_, rfl⟩
      clear ha hdr hbd hd hps hcase hno hRK hN' hx0 hbn
      go_wp2_with fail
      have hvo := Free.val
      refine Free.wp_factsR (R := (fun w w' => Below w.heap.size w w')) (ss := [17]) (pures := [0, 1, 2, 3, 4, 5, 6, 7, 8, 9, 10, 11, 12, 13]) (M := [0, 0, 0, 6, 14, 30, 62, 0, 0, 256, 0, 1024, 3072, 8064, 16256, 32766, 65534, 131071, 262143]) (D := [[], [], [], [(1, 36), (2, 37)], [(3, 38)], [(4, 39)], [(5, 40)], [], [], [(8, 43)], [], [(10, 45)], [(11, 46)], [(7, 42), (9, 44), (12, 47)], [(13, 48)], [(6, 41), (14, 49)], [(15, 50)], [(0, 35), (16, 51)], [(17, 52)]]) (outs := [18]) (soles := [17]) (E := [(0, 35, false), (1, 36, false), (2, 37, false), (3, 38, false), (4, 39, false), (5, 40, false), (6, 41, false), (7, 42, false), (8, 43, false), (9, 44, false), (10, 45, false), (11, 46, false), (12, 47, false), (13, 48, false), (14, 49, false), (15, 50, false), (16, 51, false), (17, 52, false), (18, 6, true)]) (N := 68) (S := (fun (st : Nat) w' => Below w.heap.size w w' ∧ W1.heap.size ≤ w'.heap.size ∧ (st = 0 → OK 86 w.heap.size w' (.slice A' N' c') L))) [Free.FactR.is ?_, Free.FactR.is ?_, Free.FactR.is ?_, Free.FactR.is ?_, Free.FactR.is ?_, Free.FactR.is ?_, Free.FactR.is ?_, Free.FactR.is ?_, Free.FactR.is ?_, Free.FactR.is ?_, Free.FactR.is ?_, Free.FactR.is ?_, Free.FactR.is ?_, Free.FactR.is ?_, Free.FactR.of (Free.Fact.own W1.heap.size d), Free.FactR.dat W1.heap.size ((x.toNat : Int) - 1) 37 d, Free.FactR.rowd W1.heap.size 86 ((x.toNat : Int) - 1) 37 d, Free.FactR.ok 86 w.heap.size (L ++ [⟨(x.toNat : Int) - 1, d⟩]), Free.FactR.ok 86 w.heap.size (L ++ [⟨(x.toNat : Int) - 1, d⟩])] (by kernel_rfl) (by kernel_rfl) (by kernel_rfl) rfl rfl (by decide) (⟨bl.drew, Nat.le_refl _, fun _ => hO.drew⟩) ?_ ?_
      rotate_left 14
      refine Free.cons ?_ ?_
      · intro st hag; (obtain rfl : st = 0 := Nat.le_antisymm hag.2 hag.1); intro w' hS; intro K hK; have k0 := (hS.1.cell (p := ⟨g, o + a, none⟩) hgw).trans hcx; first | (refine Free.run_yes (by rfl) ?_; go_simp; refine Free.oR hK (hR (Below.refl _ _)) hS ?_; exact rfl) | (refine Free.run_no (by rfl) (Free.oR hK (hR (Below.refl _ _)) hS ?_); exact rfl)
      refine Free.cons ?_ ?_
      · intro st hag; (obtain rfl : st = 0 := Nat.le_antisymm hag.2 hag.1); intro w' hS; intro K hK; have k0 := (hS.1.cell (p := ⟨g, o + a, none⟩) hgw).trans hcx; first | (refine Free.run_yes (by rfl) ?_; go_simp; refine Free.oR hK (hR (Below.refl _ _)) hS ?_; exact rfl) | (refine Free.run_no (by rfl) (Free.oR hK (hR (Below.refl _ _)) hS ?_); exact rfl)
      refine Free.cons ?_ ?_
      · intro st hag; (obtain rfl : st = 0 := Nat.le_antisymm hag.2 hag.1); intro w' hS; intro K hK; have k0 := (hS.1.cell (p := ⟨g, o + a, none⟩) hgw).trans hcx; first | (refine Free.run_yes (by rfl) ?_; go_simp; refine Free.oR hK (hR (Below.refl _ _)) hS ?_; exact rfl) | (refine Free.run_no (by rfl) (Free.oR hK (hR (Below.refl _ _)) hS ?_); exact rfl)
      refine Free.cons ?_ ?_
      · intro st hag; (obtain rfl : st = 0 := Nat.le_antisymm hag.2 hag.1); intro w' hS; (rintro _ rfl); (rintro _ rfl); intro K hK; have k0 := (hS.1.cell (p := ⟨g, o + a, none⟩) hgw).trans hcx; first | (refine Free.run_yes (by rfl) ?_; go_simp; refine Free.oR hK (hR (Below.refl _ _)) hS ?_; exact rfl) | (refine Free.run_no (by rfl) (Free.oR hK (hR (Below.refl _ _)) hS ?_); exact rfl)
      refine Free.cons ?_ ?_
      · intro st hag; (obtain rfl : st = 0 := Nat.le_antisymm hag.2 hag.1); intro w' hS; (rintro _ rfl); intro K hK; have k0 := (hS.1.cell (p := ⟨g, o + a, none⟩) hgw).trans hcx; first | (refine Free.run_yes (by rfl) ?_; go_simp; refine Free.oR hK (hR (Below.refl _ _)) hS ?_; exact rfl) | (refine Free.run_no (by rfl) (Free.oR hK (hR (Below.refl _ _)) hS ?_); exact rfl)
      refine Free.cons ?_ ?_
      · intro st hag; (obtain rfl : st = 0 := Nat.le_antisymm hag.2 hag.1); intro w' hS; (rintro _ rfl); intro K hK; have k0 := (hS.1.cell (p := ⟨g, o + a, none⟩) hgw).trans hcx; first | (refine Free.run_yes (by rfl) ?_; go_simp; refine Free.oR hK (hR (Below.refl _ _)) hS ?_; exact rfl) | (refine Free.run_no (by rfl) (Free.oR hK (hR (Below.refl _ _)) hS ?_); exact rfl)
      refine Free.cons ?_ ?_
      · intro st hag; (obtain rfl : st = 0 := Nat.le_antisymm hag.2 hag.1); intro w' hS; (rintro _ rfl); intro K hK; have k0 := (hS.1.cell (p := ⟨g, o + a, none⟩) hgw).trans hcx; first | (refine Free.run_yes (by rfl) ?_; go_simp; refine Free.oR hK (hR (Below.refl _ _)) hS ?_; exact rfl) | (refine Free.run_no (by rfl) (Free.oR hK (hR (Below.refl _ _)) hS ?_); exact rfl)
      refine Free.cons ?_ ?_
      · intro st hag; (obtain rfl : st = 0 := Nat.le_antisymm hag.2 hag.1); intro w' hS; intro K hK; have k0 := (hS.1.cell (p := ⟨g, o + a, none⟩) hgw).trans hcx; first | (refine Free.run_yes (by rfl) ?_; go_simp; refine Free.oR hK (hR (Below.refl _ _)) hS ?_; exact rfl) | (refine Free.run_no (by rfl) (Free.oR hK (hR (Below.refl _ _)) hS ?_); exact rfl)
      refine Free.cons ?_ ?_
      · intro st hag; (obtain rfl : st = 0 := Nat.le_antisymm hag.2 hag.1); intro w' hS; intro K hK; have k0 := (hS.1.cell (p := ⟨g, o + a, none⟩) hgw).trans hcx; first | (refine Free.run_yes (by rfl) ?_; go_simp; refine Free.oR hK (hR (Below.refl _ _)) hS ?_; exact rfl) | (refine Free.run_no (by rfl) (Free.oR hK (hR (Below.refl _ _)) hS ?_); exact rfl)
      refine Free.cons ?_ ?_
      · intro st hag; (obtain rfl : st = 0 := Nat.le_antisymm hag.2 hag.1); intro w' hS; (rintro _ rfl); intro K hK; have k0 := (hS.1.cell (p := ⟨g, o + a, none⟩) hgw).trans hcx; first | (refine Free.run_yes (by rfl) ?_; go_simp; refine Free.oR hK (hR (Below.refl _ _)) hS ?_; exact rfl) | (refine Free.run_no (by rfl) (Free.oR hK (hR (Below.refl _ _)) hS ?_); exact rfl)
      refine Free.cons ?_ ?_
      · intro st hag; (obtain rfl : st = 0 := Nat.le_antisymm hag.2 hag.1); intro w' hS; intro K hK; have k0 := (hS.1.cell (p := ⟨g, o + a, none⟩) hgw).trans hcx; first | (refine Free.run_yes (by rfl) ?_; go_simp; refine Free.oR hK (hR (Below.refl _ _)) hS ?_; exact rfl) | (refine Free.run_no (by rfl) (Free.oR hK (hR (Below.refl _ _)) hS ?_); exact rfl)
      refine Free.cons ?_ ?_
      · intro st hag; (obtain rfl : st = 0 := Nat.le_antisymm hag.2 hag.1); intro w' hS; (rintro _ rfl); intro K hK; have k0 := (hS.1.cell (p := ⟨g, o + a, none⟩) hgw).trans hcx; first | (refine Free.run_yes (by rfl) ?_; go_simp; refine Free.oR hK (hR (Below.refl _ _)) hS ?_; exact rfl) | (refine Free.run_no (by rfl) (Free.oR hK (hR (Below.refl _ _)) hS ?_); exact rfl)
      refine Free.cons ?_ ?_
      · intro st hag; (obtain rfl : st = 0 := Nat.le_antisymm hag.2 hag.1); intro w' hS; (rintro _ rfl); intro K hK; have k0 := (hS.1.cell (p := ⟨g, o + a, none⟩) hgw).trans hcx; first | (refine Free.run_yes (by rfl) ?_; go_simp; refine Free.oR hK (hR (Below.refl _ _)) hS ?_; exact rfl) | (refine Free.run_no (by rfl) (Free.oR hK (hR (Below.refl _ _)) hS ?_); exact rfl)
      refine Free.cons ?_ ?_
      · intro st hag; (obtain rfl : st = 0 := Nat.le_antisymm hag.2 hag.1); intro w' hS; (rintro _ rfl); (rintro _ rfl); (rintro _ rfl); intro K hK; have k0 := (hS.1.cell (p := ⟨g, o + a, none⟩) hgw).trans hcx; first | (refine Free.run_yes (by rfl) ?_; go_simp; refine Free.oR hK (hR (Below.refl _ _)) hS ?_; exact rfl) | (refine Free.run_no (by rfl) (Free.oR hK (hR (Below.refl _ _)) hS ?_); exact rfl)
      refine Free.cons ?_ ?_
      · intro st hag; (obtain rfl : st = 0 := Nat.le_antisymm hag.2 hag.1); intro w' hS; (rintro _ rfl); intro K hK; have k0 := (hS.1.cell (p := ⟨g, o + a, none⟩) hgw).trans hcx; refine Free.run_yes (by rfl) ?_; (go_simp; go_at_call 70; refine (HC.out _ (hcut.below hS.1)).mono ?_; rintro e w5 ⟨v5, rfl, ho5, e5⟩; refine hK.out _ _ (ho5.mono (fun k hk => by have := (ho5.lt k hk).1; have := hS.2.1; omega)) ⟨Below.next hS.1 e5 (Nat.le_refl _), Nat.le_trans hS.2.1 e5.size, fun h => (hS.2.2 h).below e5⟩ (.inr e5))
      refine Free.cons ?_ ?_
      · intro st hag; (obtain rfl : st = 0 := Nat.le_antisymm hag.2 hag.1); intro w' hS; (rintro _ rfl); (intro v14 h14); intro K hK; have k0 := (hS.1.cell (p := ⟨g, o + a, none⟩) hgw).trans hcx; refine Free.run_yes (by rfl) ?_; (obtain ⟨B, c5, rfl, hr5⟩ := OB.sl h14 37 hd37.out; go_simp; refine hK.out _ _ ⟨B, c5, rfl, hr5, fun a ha => by subst ha; exact (OB.lt h14 a.block rfl).1⟩ hS (.inr (Below.refl _ _)))
      refine Free.cons ?_ ?_
      · intro st hag; (obtain rfl : st = 0 := Nat.le_antisymm hag.2 hag.1); intro w' hS; (intro v15 h15); intro K hK; have k0 := (hS.1.cell (p := ⟨g, o + a, none⟩) hgw).trans hcx; refine Free.run_yes (by rfl) ?_; (obtain ⟨B, c5, rfl, hr5, hb5⟩ := h15; go_simp; refine hK.out _ _ ⟨_, B, c5, rfl, Blk.new _ _ _, hr5.alloc _, hb5⟩ ⟨hS.1.alloc hS.1.size _, by simp; have := hS.2.1; omega, fun h => (hS.2.2 h).below ((Below.refl _ _).alloc (Nat.le_refl _) _)⟩ (.inr ((Below.refl _ _).alloc (Nat.le_refl _) _)))
      refine Free.cons ?_ ?_
      · intro st hag; (obtain rfl : st = 0 := Nat.le_antisymm hag.2 hag.1); intro w' hS; (rintro _ rfl); (intro v16 h16); intro K hK; have k0 := (hS.1.cell (p := ⟨g, o + a, none⟩) hgw).trans hcx; refine Free.run_yes (by rfl) ?_; (obtain ⟨g5, B, c5, rfl, hX, hr5, hb5⟩ := h16; refine wp_app1 86 42 Try.underlying42 info_rblock (.tmp 35) (.tmp 51) rfl w.heap.size (.slice A' N' c') L (hS.2.2 rfl) hS.1.size g5 86 ⟨(x.toNat : Int) - 1, d⟩ B 37 c5 1 rfl rfl hX hr5 (fun _ a ha e => by have := hb5 a ha; have := (hrow.out _ e).2; omega) hLl.out ?_; intro v3 w3 ho hk3; refine ⟨rfl, ?_⟩; refine hK.out _ _ ho ⟨hS.1.keeps hk3 (fun i hi e => by have := (hrow.out _ e).1; omega) (Nat.le_refl _), Nat.le_trans hS.2.1 hk3.size, fun e => absurd e (by decide)⟩ (.inl rfl))
      refine Free.cons ?_ ?_
      · intro st hag; (obtain rfl : st = 1 := Nat.le_antisymm hag.2 hag.1); intro w' hS; (intro v17 h17); intro K hK; have k0 := (hS.1.cell (p := ⟨g, o + a, none⟩) hgw).trans hcx; first | (refine Free.run_yes (by rfl) ?_; go_simp; refine Free.oR hK (hR (Below.refl _ _)) hS ?_; first | exact rfl | assumption) | (refine Free.run_no (by rfl) (Free.oR hK (hR (Below.refl _ _)) hS ?_); exact rfl)
      exact Free.nil
      clear hvo
      intro w' hS; intro v0; intro v1; intro v2; intro v3; intro v4; intro v5; intro v6; intro v7; intro v8; intro v9; intro v10; intro v11; intro v12; intro v13; intro v14; intro v15; intro v16; intro v17; intro v18 h18; (try simp only [Act.put, List.setIfInBounds_toArray, List.set_cons_zero, List.set_cons_succ]); refine Free.toldE_nil ?_
      have h18 : OK 86 w.heap.size w' v18 (L ++ [⟨(x.toNat : Int) - 1, d⟩]) := h18
      have bl3 := hS.1
      clear hS bl hO hcw hcx hcut hsl
      go_wp2
      go_roundw
      case rel => exact ⟨k + 1, _, L ++ [⟨(x.toNat : Int) - 1, d⟩], by have := haH.out; omega, rfl, by go_num, h18, hnx, by have := hN''.out; simp; omega, bl3⟩
      case measure => have := haH.out; simp [intOf]; omega
end Go.Proofs.Ytfldmejjepakeaa
