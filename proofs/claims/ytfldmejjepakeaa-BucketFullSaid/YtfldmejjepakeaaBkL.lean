/- bucket.Decode. -/
import Derived.Test.YtfldmejjepakeaaBkK
namespace Go.Proofs.Ytfldmejjepakeaa
open Go.ChangeShapes Go.WideShapes Go.ChangeAt Go.RowKit
open Go.ChangeMaps (open_string shut_string)
set_option linter.unusedVariables false
set_option linter.unusedSimpArgs false
set_option maxRecDepth 100000
open Go.Deep

theorem parseK_succ (k : Nat) (l : List UInt8) (e : Int) : parseK (k + 1) l e = (if (rnumR l e 1).1 = 0 then [] else [⟨(rnumR l e 1).1 - 1, (rawR (rnumR l e 1).2.1 (rnumR l e 1).2.2 37).1⟩]) ++ parseK k (rawR (rnumR l e 1).2.1 (rnumR l e 1).2.2 37).2.1 (rawR (rnumR l e 1).2.1 (rnumR l e 1).2.2 37).2.2 := rfl
theorem parseK_zero (l : List UInt8) (e : Int) : parseK 0 l e = [] := rfl
theorem raw_any (p N : Nat) (l : List UInt8) (e : Int) (w : World) (h : Rd w p N l e) (hl : l.length ≤ 100000) :
    Calls Try.prog 69 #[.pointer (some ⟨p, 0, none⟩), .int .i64 37] w fun r w' => ∃ A m c, r = .returned (.slice A m c) ∧ RB w' A m c (rawR l e 37).1 ∧ (0 < m → ∀ a, A = some a → w.heap.size ≤ a.block) ∧ Rd w' p N (rawR l e 37).2.1 (rawR l e 37).2.2 ∧ Keeps (fun k => k = p) w w' := by
  unfold rawR
  by_cases he : rawE l e 37 = 0
  · rw [if_pos he]
    have h0 : e = 0 ∧ 37 ≤ l.length := by
      unfold rawE at he
      rw [if_neg (by decide)] at he
      split at he
      · exact absurd he (fun h => failE_zero h (by decide))
      · exact ⟨he, by omega⟩
    obtain ⟨rfl, h37⟩ := h0
    refine (raw_ok p N l 37 w h h37 (by omega)).mono ?_
    rintro r w' ⟨v, rfl, ho, hr, hk⟩
    obtain ⟨A, c, rfl, hb⟩ := OB.sl ho 37 (by rw [List.length_take]; omega)
    exact ⟨A, 37, c, rfl, hb, (fun _ a ha => by subst ha; exact (ho.lt a.block rfl).1), hr, hk⟩
  · rw [if_neg he]
    refine (raw_err p N l e 37 w h he).mono ?_
    rintro r w' ⟨rfl, hr, hk⟩
    exact ⟨none, 0, 0, rfl, RB.none_ _, (fun h => absurd h (by omega)), hr, hk⟩
theorem RB.rd {w w' : World} {p N : Nat} {l : List UInt8} {e : Int} {A : Option Addr} {m k : Nat} {d : List UInt8} (h : RB w A m k d) (hr : Rd w p N l e) (hk : Keeps (fun k => k = p) w w') : RB w' A m k d := by
  refine h.keeps hk (fun hm a ha e => ?_)
  obtain ⟨g, o, hA, hc⟩ := h.at_ hm
  obtain ⟨⟨B, c, hb, _⟩, _⟩ := hr
  have hl := h.len
  rw [hA] at ha
  injection ha with ha
  subst ha
  simp at e
  subst e
  have h0 := hc 0 _ (List.getElem?_eq_getElem (by omega))
  rw [hb.at_] at h0
  match o with
  | 0 => simp [bv] at h0
  | 1 => simp [bv] at h0
  | o + 2 => simp at h0
theorem OK.rd {w w' : World} {e : TypeId} {B0 p N : Nat} {l : List UInt8} {er : Int} {v : Value} {L : List BlkR} (h : OK e B0 w v L) (he : e ≠ 109) (hr : Rd w p N l er) (hk : Keeps (fun k => k = p) w w') : OK e B0 w' v L := by
  refine h.kept hk (fun k hv e => ?_) (fun i b hb B m k hd => hd.rd hr hk)
  subst e
  obtain ⟨xs, ⟨_, ho⟩, _⟩ := h
  obtain ⟨⟨B, c, hb, _⟩, _⟩ := hr
  rcases ho with ⟨rfl, _⟩ | ⟨g2, cap, cur, rfl, _, hheap, _⟩
  · simp [Value.ownBlock] at hv
  · simp [Value.ownBlock] at hv
    subst hv
    rw [hb] at hheap
    injection hheap with h1
    injection h1 with _ h2
    exact he h2.symm
theorem OK.sl {w : World} {e : TypeId} {B0 : Nat} {v : Value} {L : List BlkR} (h : OK e B0 w v L) (n : Nat) (hn : L.length = n) : ∃ A c, v = .slice A n c ∧ RK w A n c L := by subst hn; exact h.rk
theorem OK.mono {w : World} {e : TypeId} {B0 B1 : Nat} {v : Value} {L : List BlkR} (h : OK e B0 w v L) (hB : B1 ≤ B0) : OK e B1 w v L := by
  obtain ⟨xs, ⟨hl, ho⟩, hd⟩ := h
  refine ⟨xs, ⟨hl, ?_⟩, hd⟩
  rcases ho with h | ⟨g, cap, cur, h1, h2, h3⟩
  · exact .inl h
  · exact .inr ⟨g, cap, cur, h1, Nat.le_trans hB h2, h3⟩
theorem OK.apart {w : World} {e : TypeId} {B0 : Nat} {v : Value} {L : List BlkR} {A : Option Addr} {m : Nat} (h : OK e B0 w v L) {n0 : Nat} (hn : w.heap.size ≤ n0) (hA : 0 < m → ∀ a, A = some a → n0 ≤ a.block) : 0 < m → ∀ a, A = some a → v.ownBlock ≠ some a.block := by
  intro hm a ha e
  have := (h.lt _ e).2
  have := hA hm a ha
  omega
theorem wpList_app1 {ops : Array Oper} {rest : List Oper} {o : Oper} {a : Act} {w : World} {Q : Exit → Act → World → Prop} (hgd : o.guard = none) (e T : TypeId) (hT : Try.prog.underlying T = some (.slice e)) (hi : (Try.prog.info? e).map (fun i => (i.zero, i.size, i.bytes)) = some (some (.agg #[.int .i64 0, .slice none 0 0]), 2, 32)) (s x : Operand) (hop : o.op = Op.call { callee := Callee.builtin Builtin.append, args := #[s, x], argTypes := #[T, T] })
    (B0 : Nat) (v : Value) (L : List BlkR) (h : OK e B0 w v L) (hB : B0 ≤ w.heap.size) (g t : Nat) (b : BlkR) (B : Option Addr) (m k c : Nat) (hs : a.eval s = v) (hx : a.eval x = .slice (some ⟨g, 0, none⟩) 1 c)
    (hX : Blk w g #[.int .i64 b.id, .slice B m k] t) (hd : RB w B m k b.d) (hsep : 0 < m → ∀ a, B = some a → v.ownBlock ≠ some a.block) (hsz : L.length ≤ 100000)
    (hk : ∀ v' w', OK e B0 w' v' (L ++ [b]) → Keeps (fun k => v.ownBlock = some k) w w' → wpList Try.prog ops Q rest (a.put o.dst v') w') : wpList Try.prog ops Q (o :: rest) a w :=
  wpList_plain hgd fun _ hK => wp_app1 e T hT hi s x hop B0 v L h hB g t b B m k c hs hx hX hd hsep hsz fun v' w' h1 h2 => hK _ _ (hk v' w' h1 h2)
set_option maxHeartbeats 4000000 in
theorem bucket_decode (z : Int) (A : Option Addr) (n c : Nat) (b : List UInt8) (w : World) (h : RB w A n c b) (hn : n ≤ 100000) :
    Calls Try.prog 43 #[.int .i64 z, .slice A n c] w fun e w' => ∃ v, e = .returned (.tuple #[v, .int .i64 (decK z b).2]) ∧ OK 70 w.heap.size w' v (decK z b).1 ∧ Below w.heap.size w w' := by
  have hbn := h.len
  obtain ⟨b1, hb1⟩ : ∃ b, mayZ z = b := ⟨_, rfl⟩
  have HZ := Lib.hid (fun w => bucket_may z b1 w hb1)
  cases b1 with
  | false =>
    have e1 : decK z b = ([], 1) := by
      rw [decK_no (fun L hL => by have := (encKE_zero hL.1).1; rw [hb1] at this; cases this), hb1]
      rfl
    rw [e1]
    go_enter Try.func43, Try.ntmps43
    go_wp2_with fail
    refine (HZ.out _).mono ?_
    rintro e w2 ⟨rfl, bl⟩
    go_wp2
    go_ret2
    exact ⟨_, rfl, OK.nil _ _ _, bl⟩
  | true =>
  have hz := mayZ_true hb1
  obtain ⟨zn, rfl⟩ := Int.eq_ofNat_of_zero_le (show 0 ≤ z by omega)
  have hno := Lib.hid (fun (hL : ∀ L, ¬ IsK (zn : Int) b L) => (show decK (zn : Int) b = ([], 2) from by rw [decK_no hL, hb1]; rfl))
  have hcase := Lib.hid (decK_parse (z := zn) (b := b))
  have hHH := Lib.hid h
  clear hb1
  go_enter Try.func43, Try.ntmps43
  go_wp2_with fail
  refine (HZ.out _).mono ?_
  rintro e w2 ⟨rfl, bl⟩
  go_wp2_with fail
  have hw2 := bl.size
  refine (newReader A n c b _ (h.below bl) (by omega)).mono ?_
  rintro e w3 ⟨p, rfl, hp, hrd, e3⟩
  replace bl := Below.next bl e3 (Nat.le_refl _)
  have hpw : w.heap.size ≤ p := Nat.le_trans hw2 hp
  clear e3 hw2 hp
  generalize w3.heap.size = N at *
  have hpN := hrd.ltN
  have hNw : w.heap.size ≤ N := by omega
  go_wp2
  go_loopw [7, 18] (fun s i wr => ∃ (k : Nat) (v : Value) (L : List BlkR) (l : List UInt8) (e : Int), k ≤ zn ∧ s = v ∧ i = .int .i64 k ∧ OK 70 N wr v L ∧ Rd wr p N l e ∧ Hid (L ++ parseK (zn - k) l e = parseK zn b 0) ∧ L.length ≤ k ∧ l.length ≤ b.length ∧ Below w.heap.size w wr) (fun s i _ => zn - (intOf i).toNat)
  case atStart => exact ⟨0, _, [], b, 0, by omega, rfl, rfl, OK.nil _ _ _, hrd, Lib.hid rfl, Nat.le_refl _, Nat.le_refl _, bl⟩
  case round =>
    clear bl hrd
    obtain ⟨k, v, L, l, e, hk, hv, rfl, hO, hr, hps, hLk, hll, bl⟩ := hrel
    replace hv := hv.symm
    subst hv
    obtain ⟨A', c', rfl, hRK⟩ := hO.rk
    obtain ⟨N', hN'⟩ : ∃ a, L.length = a := ⟨_, rfl⟩
    rw [hN'] at hO hRK hLk ⊢
    by_cases hlt : k < zn
    · obtain ⟨⟨x, l1, e1⟩, hR⟩ : ∃ R, rnumR l e 1 = R := ⟨_, rfl⟩
      obtain ⟨⟨d, l2, e2⟩, hQ⟩ : ∃ Q, rawR l1 e1 37 = Q := ⟨_, rfl⟩
      have hx := rnum_range l e
      have hl1 := rnum_left l e
      have hl2 := raw_left l1 e1 37
      rw [hR] at hx hl1
      rw [hQ] at hl2
      simp only at hx hl1 hl2
      have HN := Lib.hid (fun w (h : Rd w p N l e) => (show Calls Try.prog 68 #[.pointer (some ⟨p, 0, none⟩), .int .i64 1] w fun r w' => r = .returned (.int .i64 x) ∧ Rd w' p N l1 e1 ∧ Keeps (fun i => i = p) w w' from by have := rnum_any p N l e 1 w h (by omega); rw [hR] at this; exact this))
      have HR := Lib.hid (fun w (h : Rd w p N l1 e1) => (show Calls Try.prog 69 #[.pointer (some ⟨p, 0, none⟩), .int .i64 37] w fun r w' => ∃ A m c, r = .returned (.slice A m c) ∧ RB w' A m c d ∧ (0 < m → ∀ a, A = some a → w.heap.size ≤ a.block) ∧ Rd w' p N l2 e2 ∧ Keeps (fun k => k = p) w w' from by have := raw_any p N l1 e1 w h (by omega); rw [hQ] at this; exact this))
      have hnx := Lib.hid (show L ++ ((if x = 0 then [] else [⟨x - 1, d⟩]) ++ parseK (zn - (k + 1)) l2 e2) = parseK zn b 0 from by
        have := hps.out
        rw [show zn - k = (zn - (k + 1)) + 1 by omega, parseK_succ, hR] at this
        simp only [hQ] at this
        exact this)
      have hw1 : IntKind.i64.wrap (x - 1) = x - 1 := IntWalk.i64_in _ (by omega)
      clear hR hQ hps
      go_wp2_with fail
      refine (HN.out _ hr).mono ?_
      rintro y w5 ⟨rfl, hr5, hk5⟩
      have hO5 := hO.rd (by decide) hr hk5
      have bl5 := bl.keeps hk5 (fun i hi e => by omega) (Nat.le_refl _)
      clear hO hr hk5 bl hRK
      go_wp2_with fail
      refine (HR.out _ hr5).mono ?_
      rintro y w6 ⟨B, m, c6, rfl, hd, hdb, hr6, hk6⟩
      have hO6 := hO5.rd (by decide) hr5 hk6
      have bl6 := bl5.keeps hk6 (fun i hi e => by omega) (Nat.le_refl _)
      have hsep := Lib.hid (hO5.apart (Nat.le_refl _) hdb)
      clear hO5 hr5 hk6 bl5 hdb
      by_cases hx0 : x = 0
      · subst hx0
        have hnx2 := Lib.hid (show L ++ parseK (zn - (k + 1)) l2 e2 = parseK zn b 0 from hnx.out)
        go_wp2
        go_roundw
        case rel => exact ⟨k + 1, _, L, l2, e2, by omega, rfl, by go_num, hO6, hr6, hnx2, by omega, by omega, bl6⟩
        case measure => simp [intOf]; omega
      · have hne : (x - 1 != -1) = true := by rw [bne_iff_ne]; omega
        have hnx2 := Lib.hid (show (L ++ [⟨x - 1, d⟩]) ++ parseK (zn - (k + 1)) l2 e2 = parseK zn b 0 from by have := hnx.out; rw [if_neg hx0, ← List.append_assoc] at this; exact this)
        have hX := Blk.new w6 #[.int .i64 (x - 1), .slice B m c6] 70
        have ba : Below w6.heap.size w6 (w6.alloc (.cells #[.int .i64 (x - 1), .slice B m c6] 70)) := (by repeat (first | exact Below.refl _ _ | assumption | apply below_drewN' | apply Below.drew | refine Below.alloc ?_ (by first | omega | (simp; done) | (simp; omega)) _ | refine Below.setCell ?_ (by first | omega | (simp; done) | (simp; omega)) _))
        have hO7 := hO6.below ba
        have hr7 := hr6.below ba hr6.leN
        have bl7 := Below.next bl6 ba (Nat.le_refl _)
        have hNs := hr6.leN
        have hrng := Lib.hid (fun (j : Nat) hj => (hO6.lt j hj).1)
        clear hO6 hr6 bl6
        go_wp2_with (refine wpList_app1 rfl 70 38 Try.underlying38 info_block (.tmp 27) (.tmp 31) rfl N (.slice A' N' c') L hO7 (by simp; omega) w6.heap.size 70 ⟨x - 1, d⟩ B m c6 1 rfl rfl hX (hd.below ba) hsep.out (by rw [hN']; omega) ?_; intro v7 w7 ho7 hk7; obtain ⟨A7, c7, rfl, _⟩ := ho7.sl (N' + 1) (by simp [hN']))
        have hr8 := hr7.keeps hk7 (fun j hj e => by have := hrng.out j e; omega)
        have bl8 := bl7.keeps hk7 (fun j hj e => by have := hrng.out j e; omega) (Nat.le_refl _)
        go_roundw
        case rel => exact ⟨k + 1, _, L ++ [⟨x - 1, d⟩], l2, e2, by omega, rfl, by go_num, ho7, hr8, hnx2, by simp [hN']; omega, by omega, bl8⟩
        case measure => simp [intOf]; omega
    · have hkn : zn = k := by omega
      have hL : Hid (L = parseK zn b 0) := Lib.hid (by have := hps.out; rw [show zn - k = 0 by omega, parseK_zero, List.append_nil] at this; exact this)
      have HE := Lib.hid (fun w (h : RK w A' N' c' L) => bucket_encode (zn : Int) A' N' c' L w h)
      rw [← hL.out] at hcase
      have hres : Hid (encKE (zn : Int) L = 0 ∧ encKT (zn : Int) L = b → decK (zn : Int) b = (L, 0)) := Lib.hid (fun hh => by rcases hcase.out with h1 | h1; exact h1.2; exact absurd hh h1.1)
      have hres2 : Hid (¬ (encKE (zn : Int) L = 0 ∧ encKT (zn : Int) L = b) → decK (zn : Int) b = ([], 2)) := Lib.hid (fun hh => by rcases hcase.out with h1 | h1; exact absurd h1.1 hh; exact hno.out h1.2)
      generalize encKE (zn : Int) L = E at *
      generalize encKT (zn : Int) L = T at *
      obtain ⟨t, ht⟩ : ∃ t, T.length = t := ⟨_, rfl⟩
      have ht := Lib.hid ht
      obtain ⟨y, hy⟩ : ∃ y, (T == b) = y := ⟨_, rfl⟩
      have hN'' := Lib.hid hN'
      clear hcase hno hps hkn hN'
      go_wp2_with fail
      refine (HE.out _ hRK).mono ?_
      rintro e w5 ⟨v5, rfl, ho5, e5⟩
      obtain ⟨A5, c5, rfl, hR5⟩ := OB.sl ho5 t ht.out
      replace bl := Below.next bl e5 (Nat.le_refl _)
      replace hO := hO.below e5
      have hfin := Lib.hid (show OK 70 w.heap.size w5 (.slice A' N' c') L from hO.mono hNw)
      clear hO hRK ho5
      by_cases e0 : E = 0
      rotate_left
      · have f0 : (E != 0) = true := by rw [bne_iff_ne]; exact e0
        have hd := Lib.hid (hres2.out (fun hh => e0 hh.1))
        go_wp2
        go_ret2
        rw [hd.out]
        exact ⟨_, rfl, OK.nil _ _ _, bl⟩
      subst e0
      have hB := Lib.hid (fun w (h : RB w A5 t c5 T) (h' : RB w A n c b) => hy ▸ bytes_equal A5 A t c5 n c T b w h h')
      go_wp2_with fail
      refine (hB.out _ hR5 (h.below bl)).mono ?_
      rintro e w6 ⟨rfl, rfl⟩
      cases y with
      | true =>
        have hd := Lib.hid (hres.out ⟨by first | exact rfl | trivial, by simpa using hy⟩)
        go_wp2
        go_ret2
        rw [hd.out]
        exact ⟨_, rfl, hfin.out, bl⟩
      | false =>
        have hd := Lib.hid (hres2.out (fun hh => by rw [hh.2] at hy; simp at hy))
        go_wp2
        go_ret2
        rw [hd.out]
        exact ⟨_, rfl, OK.nil _ _ _, bl⟩
end Go.Proofs.Ytfldmejjepakeaa
