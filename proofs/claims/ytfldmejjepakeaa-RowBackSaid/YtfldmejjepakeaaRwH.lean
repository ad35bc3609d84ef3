/- row.Decode. -/
import Derived.Test.YtfldmejjepakeaaRwG
import Derived.Test.YtfldmejjepakeaaBytesEq
namespace Go.Proofs.Ytfldmejjepakeaa
open Go.ChangeShapes Go.WideShapes Go.ChangeAt Go.RowKit
open Go.ChangeMaps (open_string shut_string)
set_option linter.unusedVariables false
set_option linter.unusedSimpArgs false
set_option maxRecDepth 100000
open Go.Deep
attribute [local go_sem] Oper.semAt_some

theorem chunk_calls (A : Option Addr) (n c : Nat) (w : World) :
    Calls Try.prog 45 #[.slice A n c, .int .i64 9] w fun e w' => e = .returned (.func (.func 71) #[] #[.pointer (some ⟨w.heap.size, 0, none⟩), .pointer (some ⟨w.heap.size + 1, 0, none⟩)]) ∧ w' = (w.alloc (.cells #[.slice A n c] 22)).alloc (.cells #[.int .i64 9] 3) := by
  go_enter Try.func45, Try.ntmps45
  go_wp2
  go_ret
  exact ⟨rfl, rfl⟩
theorem chunk_stops (F : Fence) (n : Nat) (h7 : F.fn 71) (hro : F.round = none) (hn : 1 ≤ n) (Bs g o c : Nat) (hc : 36 ≤ c) (w : World) (h1 : Blk w Bs #[.slice (some ⟨g, o, none⟩) 36 c] 22) (h2 : Blk w (Bs + 1) #[.int .i64 9] 3) :
    SeqStopsK F n Try.prog 71 #[.pointer (some ⟨Bs, 0, none⟩), .pointer (some ⟨Bs + 1, 0, none⟩)] (encC g o) (KpB Bs) (fun ys => ys = upF 4) (fun pre => ∃ k, k ≤ 4 ∧ pre = upF k) 4 w := fun l J Jx W hW hJ _ hY h0 =>
  chunk1_in F n h7 hro hn l Bs g o c hc J Jx (fun pre W1 hp => hJ pre W1 W1.drew none hp ⟨rfl, rfl, rfl, Nat.le_refl _, fun _ _ _ => rfl⟩ (fun r e => by cases e)) hY W (h1.below hW h1.lt) (h2.below hW h2.lt) h0
theorem kpB_b {Bs : Nat} {w : World} (hn : Bs + 1 < w.heap.size) (W : World) (l : Nat) (o o' : Obj) (hl : w.heap.size ≤ l) (h : W.heap[l]? = some o) (h1 : o.isCells = false) (h2 : o.isWalk = false) : KpB Bs W (W.putObj l o') :=
  fun i hi => (belowK_b (n₀ := Bs + 2) (w := w) (by omega) W l o o' hl h h1 h2).block i (by omega)
theorem RB.piece {w : World} {g o n c : Nat} {l : List UInt8} (h : RB w (some ⟨g, o, none⟩) n c l) (lo m : Nat) (hm : lo + m ≤ n) : RB w (some ⟨g, o + lo, none⟩) m m ((l.drop lo).take m) := by
  have hl := h.len
  have hc := h.cap
  have hx := h.max
  refine ⟨by simp; omega, Nat.le_refl _, by omega, fun e => (by cases e), fun hn => ⟨g, o + lo, rfl, fun i p hp => ?_⟩⟩
  obtain ⟨g', o', e, hat⟩ := h.at_ (by omega)
  injection e with e
  injection e with e1 e2
  subst e1 e2
  rw [List.getElem?_take] at hp
  split at hp
  · rw [List.getElem?_drop] at hp
    rw [Nat.add_assoc]
    exact hat _ p hp
  · cases hp
theorem VO.isCells {w : World} {B : Nat} {v : Value} {V : List ValR} (h : VO w B v V) : ∀ k, v.ownBlock = some k → ∃ cs t z, w.heap[k]? = some (.cells cs t z) := by
  intro k hk
  obtain ⟨hl, ho⟩ := h
  rcases ho with ⟨rfl, h0⟩ | ⟨g, cap, cur, rfl, hg, hheap, _⟩
  · simp [Value.ownBlock] at hk
  · simp [Value.ownBlock] at hk
    subst hk
    exact ⟨_, _, _, hheap⟩
theorem keepsFrom_of {S : Nat → Prop} {B : Nat} {W W' : World} (hk : Keeps S W W') (hS : ∀ k, S k → B ≤ k → ∃ cs t z, W.heap[k]? = some (.cells cs t z)) : KeepsFrom B W W' :=
  ⟨hk.size, fun i o hB hi ho => (hk.block i (Array.getElem?_eq_some_iff.1 hi).1 (fun hs => by
    obtain ⟨cs, t, z, e⟩ := hS i hs hB
    rw [hi] at e
    cases e
    cases ho)).trans hi⟩
def pieceF (b : List UInt8) (x : Fin 4) : List UInt8 := (b.drop (1 + 9 * x.1)).take 9
/-- Between two rounds. -/
def RIn (N : Nat) (t : Int) (b : List UInt8) (pre : List (Fin 4)) (W : World) : Prop :=
  ∃ v V, Blk W N #[.int .i64 0, .slice none 0 0] 26 ∧ Blk W (N + 1) #[.int .i64 t, v] 26 ∧ VO W (N + 4) v V ∧ N + 4 ≤ W.heap.size ∧ pre.map (fun x => dkV (pieceF b x)) = V.map some
/-- Left by a piece that is none. -/
def ROut (N : Nat) (t : Int) (b : List UInt8) (id : Nat) (c : Code) (pre : List (Fin 4)) (W : World) : Prop :=
  c = .exit id ∧ ∃ p x, pre = p ++ [x] ∧ dkV (pieceF b x) = none ∧ RIn N t b p W
theorem RIn.own (N : Nat) (t : Int) (b : List UInt8) (B : Nat) : OwnFrom B (RIn N t b) := by
  intro s W W' row hs hg hr
  obtain ⟨v, V, hX, hY, hO, hN, hV⟩ := hs
  have hk := grown_keeps hg
  have no : ∀ k cs t z, W.heap[k]? = some (.cells cs t z) → ¬ row = some k := fun k cs t z hc e => by
    obtain ⟨_, o, ho, hx⟩ := hr k e
    rw [hc] at ho
    cases ho
    cases hx
  exact ⟨v, V, hX.keeps hk (no _ _ _ _ hX), hY.keeps hk (no _ _ _ _ hY), hO.kept hk (fun k e => by obtain ⟨cs, t, z, hc⟩ := hO.isCells k e; exact no _ _ _ _ hc), Nat.le_trans hN hk.size, hV⟩
theorem ROut.own (N : Nat) (t : Int) (b : List UInt8) (id : Nat) (B : Nat) (c : Code) : OwnFrom B (ROut N t b id c) := by
  intro s W W' row hs hg hr
  obtain ⟨hc, p, x, hp, hx, hI⟩ := hs
  exact ⟨hc, p, x, hp, hx, RIn.own N t b B p W W' row hI hg hr⟩
theorem prs_run {b : List UInt8} : ∀ (V : List ValR) (j m : Nat), (∀ i v, V[i]? = some v → dkV ((b.drop (1 + 9 * (j + i))).take 9) = some v) → V.length ≤ m → prsV m (b.drop (1 + 9 * j)) = V ++ prsV (m - V.length) (b.drop (1 + 9 * (j + V.length))) := by
  intro V
  induction V with
  | nil => intro j m _ _; simp
  | cons v V ih =>
    intro j m h hl
    obtain ⟨m, rfl⟩ : ∃ m', m = m' + 1 := ⟨m - 1, by simp at hl; omega⟩
    rw [prsV_some (l := b.drop (1 + 9 * j)) (v := v) (h 0 v rfl), List.drop_drop, show 1 + 9 * j + 9 = 1 + 9 * (j + 1) by omega, ih (j + 1) m (fun i u hu => by have := h (i + 1) u (by simpa using hu); rw [show j + (i + 1) = j + 1 + i by omega] at this; exact this) (by simp at hl; omega)]
    simp only [List.cons_append, List.length_cons]
    rw [show m + 1 - (V.length + 1) = m - V.length by omega, show j + 1 + V.length = j + (V.length + 1) by omega]
theorem upF_get {k i : Nat} (hk : k ≤ 4) (hi : i < k) : (upF k)[i]? = some ⟨i, by omega⟩ := by
  unfold upF
  rw [List.getElem?_take, if_pos hi]
  match i, (show i < 4 by omega) with
  | 0, _ => rfl
  | 1, _ => rfl
  | 2, _ => rfl
  | 3, _ => rfl
theorem good_get {b : List UInt8} {k : Nat} {V : List ValR} (hk : k ≤ 4) (h : (upF k).map (fun x => dkV (pieceF b x)) = V.map some) : V.length = k ∧ ∀ i v, V[i]? = some v → dkV ((b.drop (1 + 9 * (0 + i))).take 9) = some v := by
  have hl : V.length = k := by have := congrArg List.length h; rw [List.length_map, List.length_map, upF_len hk] at this; exact this.symm
  refine ⟨hl, fun i v hv => ?_⟩
  have hi : i < k := by have := (List.getElem?_eq_some_iff.1 hv).1; omega
  have := congrArg (fun l => l[i]?) h
  simp only [List.getElem?_map, upF_get hk hi, hv, Option.map_some] at this
  injection this with this
  rw [Nat.zero_add]
  exact this
theorem prs_done {b : List UInt8} {V : List ValR} (h : (upF 4).map (fun x => dkV (pieceF b x)) = V.map some) : prsV 4 (b.drop 1) = V := by
  obtain ⟨hl, hg⟩ := good_get (Nat.le_refl 4) h
  have := prs_run V 0 4 hg (by omega)
  rw [hl] at this
  simpa [prsV] using this
theorem prs_stop {b : List UInt8} {V : List ValR} {k : Nat} {p : List (Fin 4)} {x : Fin 4} (hk : k ≤ 4) (hp : p ++ [x] = upF k) (h : p.map (fun x => dkV (pieceF b x)) = V.map some) (hx : dkV (pieceF b x) = none) : prsV 4 (b.drop 1) = V := by
  obtain ⟨j, rfl⟩ : ∃ j, k = j + 1 := ⟨k - 1, by cases k with | zero => simp [upF] at hp | succ k => rfl⟩
  rw [upF_succ (show j < 4 by omega)] at hp
  obtain ⟨rfl, e⟩ := List.append_inj' hp rfl
  injection e with e
  subst e
  obtain ⟨hl, hg⟩ := good_get (show j ≤ 4 by omega) h
  have := prs_run V 0 4 hg (by omega)
  rw [hl, Nat.zero_add, prsV_none hx, List.append_nil] at this
  exact this
theorem put_keeps {W : World} {D : Nat} {o o' : Obj} (h : W.heap[D]? = some o) : Keeps (fun k => k = D) W (W.putObj D o') :=
  (grown_keeps (grownBy_putObj' W D o')).mono (fun k _ e => by injection e with e; exact e.symm)
set_option maxRecDepth 100000 in
set_option maxHeartbeats 8000000 in
theorem row_decode (A : Option Addr) (n c : Nat) (b : List UInt8) (w : World) (h : RB w A n c b) (hn : n ≤ 100000) :
    Calls Try.prog 14 #[.slice A n c] w fun e w' => ∃ A' n' c', e = .returned (.tuple #[.agg #[.int .i64 (decR b).1.t, .slice A' n' c'], .int .i64 (decR b).2]) ∧ RV w' A' n' c' (decR b).1.V ∧ Below w.heap.size w w' := by
  have hbn := h.len
  have hnc := h.cap
  have hcm := h.max
  unfold maxLen at hcm
  have hX0 := Blk.new w #[.int .i64 0, .slice none 0 0] 26
  have bl0 : Below w.heap.size w (w.alloc (.cells #[.int .i64 0, .slice none 0 0] 26)) := (by repeat (first | exact Below.refl _ _ | assumption | apply below_drewN' | apply Below.drew | refine Below.alloc ?_ (by first | omega | (simp; done) | (simp; omega)) _ | refine Below.setCell ?_ (by first | omega | (simp; done) | (simp; omega)) _))
  by_cases h37 : n = 37
  rotate_left
  · have hd := Lib.hid (decR_short (b := b) (by omega))
    have hne : ((n : Int) != 37) = true := by rw [bne_iff_ne]; omega
    go_enter Try.func14, Try.ntmps14
    go_wp2
    refine bodyPost_ret (v := .tuple #[.agg #[.int .i64 0, .slice none 0 0], .int .i64 2]) (by simp [results, Try.results14, go_sem]) rfl ?_
    rw [hd.out]
    exact ⟨none, 0, 0, rfl, RV.none_ _, (by repeat (first | exact Below.refl _ _ | assumption | apply below_drewN' | apply Below.drew | refine Below.alloc ?_ (by first | omega | (simp; done) | (simp; omega)) _ | refine Below.setCell ?_ (by first | omega | (simp; done) | (simp; omega)) _))⟩
  subst h37
  obtain ⟨x, hx⟩ : ∃ x, b[0]? = some x := ⟨_, List.getElem?_eq_getElem (by omega)⟩
  obtain ⟨g, o, rfl, hc⟩ := h.at_ (by omega)
  have hcx : w.cell? ⟨g, o, none⟩ = some (.int .u8 x.toNat) := hc 0 x hx
  have hgw := World.block_lt_of_cell? w _ hcx
  have hxl := UInt8.toNat_lt x
  have hwx : IntKind.i64.wrap (x.toNat : Int) = (x.toNat : Int) := IntWalk.i64_in _ (by omega)
  obtain ⟨t, ht⟩ : ∃ t, t = (x.toNat : Int) - 1 := ⟨_, rfl⟩
  have hwt : IntKind.i64.wrap ((x.toNat : Int) - 1) = t := by rw [ht]; exact IntWalk.i64_in _ (by omega)
  have hP := Lib.hid (show ∀ V, prsV 4 (b.drop 1) = V → rowP b = ⟨t, V⟩ from fun V hV => by unfold rowP; rw [hV, ht, List.getD_eq_getElem?_getD, hx]; rfl)
  have hcH := Lib.hid hc
  replace ht := Lib.hid ht
  clear hc hx hxl
  have hY0 := Blk.new2 w (.cells #[.int .i64 0, .slice none 0 0] 26) #[.int .i64 t, .slice none 0 0] 26
  have hsl1 : ∀ w, (Instr.slice 22 (.slice (some ⟨g, o, none⟩) 37 c) (some (.int .i64 1)) none none).run Try.prog w = .ok (.slice (some ⟨g, o + 1, none⟩) 36 (c - 1)) w := by
    intro w
    rw [run_slice_l (P := Try.prog) w 22 (some ⟨g, o, none⟩) 37 c under_bytes .i64 1 (by omega) (by omega), run_sizeU8]
    simp only [Result.andThen_ok, sliced, Nat.mul_one]
    rw [show (1 : Int).toNat = 1 from rfl, if_neg (by omega), Option.map_some, Addr.add_lit]
  obtain ⟨c1, hc1⟩ : ∃ c1, c - 1 = c1 := ⟨_, rfl⟩
  rw [hc1] at hsl1
  have hc36 : 36 ≤ c1 := by omega
  have HC := Lib.hid (fun w => chunk_calls (some ⟨g, o + 1, none⟩) 36 c1 w)
  refine (callsIn_wide (n := 3)).1 ?_
  refine callsIn_of_wp_marks Try.func14 rfl trivial ?_ rfl
  simp only [Try.ntmps14, List.size_toArray, List.length_cons, List.length_nil, Nat.reduceAdd, Nat.reduceSub, Array.replicate_succ, Array.replicate_zero, List.push_toArray, List.append_toArray, List.nil_append, List.cons_append]
  gi_wp2_with (refine ⟨trivial, ?_⟩; gi_at_call 45; refine (callsIn_wide.2 (HC.out _)).mono ?_; rintro e w2 ⟨rfl, rfl⟩)
  obtain ⟨W0, hW0⟩ : ∃ W0, (((w.alloc (.cells #[.int .i64 0, .slice none 0 0] 26)).alloc (.cells #[.int .i64 t, .slice none 0 0] 26)).alloc (.cells #[.slice (some ⟨g, o + 1, none⟩) 36 c1] 22)).alloc (.cells #[.int .i64 9] 3) = W0 := ⟨_, rfl⟩
  have bl : Below w.heap.size w W0 := hW0 ▸ (by repeat (first | exact Below.refl _ _ | assumption | apply below_drewN' | apply Below.drew | refine Below.alloc ?_ (by first | omega | (simp; done) | (simp; omega)) _ | refine Below.setCell ?_ (by first | omega | (simp; done) | (simp; omega)) _))
  have hX : Blk W0 w.heap.size #[.int .i64 0, .slice none 0 0] 26 := hW0 ▸ (((hX0.alloc _).alloc _).alloc _)
  have hY : Blk W0 (w.heap.size + 1) #[.int .i64 t, .slice none 0 0] 26 := hW0 ▸ ((hY0.alloc _).alloc _)
  have hS : Blk W0 (w.heap.size + 2) #[.slice (some ⟨g, o + 1, none⟩) 36 c1] 22 := by
    rw [← hW0]
    refine Blk.alloc ?_ _
    have := Blk.new ((w.alloc (.cells #[.int .i64 0, .slice none 0 0] 26)).alloc (.cells #[.int .i64 t, .slice none 0 0] 26)) #[.slice (some ⟨g, o + 1, none⟩) 36 c1] 22
    simpa using this
  have hZ : Blk W0 (w.heap.size + 3) #[.int .i64 9] 3 := by
    rw [← hW0]
    have := Blk.new (((w.alloc (.cells #[.int .i64 0, .slice none 0 0] 26)).alloc (.cells #[.int .i64 t, .slice none 0 0] 26)).alloc (.cells #[.slice (some ⟨g, o + 1, none⟩) 36 c1] 22)) #[.int .i64 9] 3
    simpa using this
  have hsz : W0.heap.size = w.heap.size + 4 := by rw [← hW0]; simp
  rw [hW0]
  clear hW0 hX0 hY0 bl0
  have hbs := bl.size
  refine wpIn_rangeFunc_ownG rfl (by omega) (gf := 71) (lb := #[.pointer (some ⟨w.heap.size + 2, 0, none⟩), .pointer (some ⟨w.heap.size + 3, 0, none⟩)]) rfl trivial (enters_of Try.func71 (by kernel_rfl) rfl)
    (chunk_stops Fence.wide 2 trivial rfl (by omega) (w.heap.size + 2) g (o + 1) c1 hc36 W0 hS hZ) KpB.t (kpB_b (by omega)) (Below.refl _ _) (fun _ => rfl)
    (fun pre W => RIn w.heap.size t b pre W ∧ Below w.heap.size w W)
    (fun c pre W => ROut w.heap.size t b 0 c pre W ∧ Below w.heap.size w W)
    (OwnFrom.and (RIn.own _ _ _ _) (ownFrom_below (Nat.le_refl _) (by omega)))
    (fun c => OwnFrom.and (ROut.own _ _ _ _ _ c) (ownFrom_below (Nat.le_refl _) (by omega)))
    ⟨⟨_, [], hX, hY, VO.nil _ _, by omega, rfl⟩, bl⟩
    (fun y => { tmps := #[.slice (some ⟨g, o, none⟩) 37 c, undef, .pointer (some ⟨w.heap.size, 0, none⟩), .int .i64 0, .pointer (some ⟨w.heap.size + 1, 0, none⟩), (.slice (some ⟨g, o + 1 + 9 * y.1, none⟩) 9 9), undef, undef, undef, undef, .slice (some ⟨g, o, none⟩) 37 c, .int .i64 37, .bool false, undef, .slice (some ⟨g, o, none⟩) 37 c, .pointer (some ⟨g, o, none⟩), .int .u8 x.toNat, .int .i64 x.toNat, .int .i64 t, .agg #[.int .i64 t, .slice none 0 0], .slice (some ⟨g, o, none⟩) 37 c, .slice (some ⟨g, o + 1, none⟩) 36 c1, .func (.func 71) #[] #[.pointer (some ⟨w.heap.size + 1 + 1, 0, none⟩), .pointer (some ⟨w.heap.size + 1 + 1 + 1, 0, none⟩)], (.slice (some ⟨g, o + 1 + 9 * y.1, none⟩) 9 9), undef, undef, undef, undef, undef, undef, undef, undef, undef, undef, undef, undef, undef, undef, undef, undef, undef, undef, undef, undef, undef, undef, undef, undef, undef, undef, undef, undef], defers := [] }) ?assign ?body ?done ?stop
  case assign =>
    intro l y W K hK
    unfold encC
    gi_wp2
    exact hK
  case body =>
    rintro l pre y W ⟨⟨v, V, hX, hY, hO, hN, hV⟩, bl⟩ hlt
    obtain ⟨A', c', rfl, hRV⟩ := hO.rv V.length rfl
    obtain ⟨k, hkl⟩ : ∃ k, V.length = k := ⟨_, rfl⟩
    have hk4 : k < 4 := by have := congrArg List.length hV; rw [List.length_map, List.length_map] at this; omega
    rw [hkl] at hRV hO hY
    have y0 := hY.cell 0 (v := .int .i64 t) rfl
    have y1 := hY.cell 1 (v := .slice A' k c') rfl
    have hyl := hY.lt
    have hbz := bl.size
    have hpc := (h.below bl).piece (1 + 9 * y.1) 9 (by omega)
    rw [show o + (1 + 9 * y.1) = o + 1 + 9 * y.1 by omega] at hpc
    have HD := fun w (h : RB w (some ⟨g, o + 1 + 9 * y.1, none⟩) 9 9 (pieceF b y)) => dec_any _ 9 9 _ w h (by omega)
    have hpH := Lib.hid (show RB W (some ⟨g, o + 1 + 9 * y.1, none⟩) 9 9 (pieceF b y) from hpc)
    replace hV := Lib.hid hV
    replace hkl := Lib.hid hkl
    have hSZ := Lib.hid hsz
    clear hpc hRV hS hZ
    generalize o + 1 + 9 * y.1 = q at *
    rcases dkV_cases (pieceF b y) with ⟨hv, hq⟩ | ⟨p, hv, hq⟩
    · rw [show dkL (pieceF b y) = .returned (.tuple #[.agg #[.int .i64 0, .int .i64 0, .string (str [])], .int .i64 2]) from hq] at HD
      replace HD := Lib.hid HD
      replace hv := Lib.hid hv
      clear hq
      gi_wp2_with (refine ⟨trivial, ?_⟩; gi_at_call 46; refine (CallsIn.inRound l (callsIn_wide.2 (HD.out _ hpH.out))).mono ?_; rintro e w4 ⟨rfl, b4⟩)
      have hk := (Keeps.of_below (S := fun _ => False) b4).alloc (.cells #[.int .i64 0, .int .i64 0, .string (str [])] 51)
      exact ⟨keepsFrom_of hk (fun k hk => hk.elim), ⟨rfl, pre, y, rfl, hv.out, _, V, hX.keeps hk (fun e => e), hY.keeps hk (fun e => e), hkl.out ▸ hO.kept hk (fun _ _ e => e), Nat.le_trans hN hk.size, hV.out⟩, bl.keeps hk (fun _ _ e => e) (Nat.le_refl _)⟩
    · rw [show dkL (pieceF b y) = .returned (.tuple #[.agg #[.int .i64 p.k, .int .i64 p.n, .string (str p.s)], .int .i64 0]) from hq] at HD
      replace HD := Lib.hid HD
      replace hv := Lib.hid hv
      obtain ⟨i0, hi, hz0, hz1, hz2⟩ := info_parts info_val
      clear hq
      gi_wp2_with (first | (refine ⟨trivial, ?_⟩; gi_at_call 46; refine (CallsIn.inRound l (callsIn_wide.2 (HD.out _ hpH.out))).mono ?_; rintro e w4 ⟨rfl, b4⟩; have hk1 := Keeps.of_below (S := fun _ => False) b4; have hY4 := hY.keeps hk1 (fun e => e); have hX4 := hX.keeps hk1 (fun e => e); have hO4 := hO.kept hk1 (fun _ _ e => e); have z1 := hY4.cell 1 (v := .slice A' k c') rfl; have zl := hY4.lt) | (gi_at_builtin; refine wpListIn_append_own _ rfl _ _ 24 rfl (w.heap.size + 4) 51 i0 _ 3 32 Try.underlying24 hi hz0 hz1 hz2 rfl (by decide) _ _ _ rfl ((hO4.alloc _).alloc _) ⟨w4.heap.size + 1, 0, none⟩ 1 1 (cellsV [p]) rfl rfl (RV.one (v := p) (Blk.new2 _ _ _ _)).cells (cellsV_one _) (by have := hkl.out; unfold maxLen; omega) (by have := hkl.out; omega) (by have := hY4.lt; have := hSZ.out; have := hk1.size; simp; omega) ?_; intro v6 w6 hown6 hgrow6 _; have ho6 : VO w6 (w.heap.size + 4) v6 (V ++ [p]) := (by unfold VO; rw [cellsV_app, List.length_append]; exact hown6); obtain ⟨A6, c6, rfl, hR6⟩ := ho6.rv (k + 1) (by rw [List.length_append, hkl.out]; rfl); have hk6 := grown_keeps hgrow6; have hY6 := ((hY4.alloc _).alloc _).keeps hk6 (fun e => by have := (hO4.lt _ e).1; omega); have hX6 := ((hX4.alloc _).alloc _).keeps hk6 (fun e => by have := (hO4.lt _ e).1; omega); have q1 := hY6.cell 1 (v := .slice A' k c') rfl; have qf := hY6.fz 1; have ql := hY6.lt; clear hR6))
      have hkT := ((((Keeps.of_below (S := fun i => (Value.slice A' k c').ownBlock = some i ∨ i = w.heap.size + 1) b4).alloc _).alloc _).trans hk6 (fun i e => .inl (.inl e))).setCell (p := ⟨w.heap.size + 1, 1, none⟩) (.inl (.inr rfl)) (.slice A6 (k + 1) c6)
      have hlo := fun i e => (hO.lt i e).1
      refine ⟨keepsFrom_of hkT (fun i hi hB => ?_), fun i hi => hkT.block i (by omega) (fun e => ?_), ⟨_, V ++ [p], hX6.other (p := ⟨w.heap.size + 1, 1, none⟩) (by simp) _, hY6.set 1 _, ho6.set (p := ⟨w.heap.size + 1, 1, none⟩) (fun j hj e => by have := (ho6.lt j hj).1; simp at e; omega) _, Nat.le_trans hN hkT.size, ?_⟩, bl.keeps hkT (fun i hi e => ?_) (Nat.le_refl _)⟩
      · rcases hi with e | e
        · exact hO.isCells i e
        · have := hSZ.out; omega
      · rcases e with e | e
        · have := hlo i e; omega
        · omega
      · rw [List.map_append, List.map_append, hV.out, List.map_cons, List.map_nil, hv.out]; rfl
      · rcases e with e | e
        · have := hlo i e; omega
        · omega
  case done =>
    rintro D ys W hD rfl ⟨⟨v, V, hX, hY, hO, hN, hV⟩, bl⟩ hK
    have hVe := Lib.hid (prs_done hV)
    clear hV
    obtain ⟨A', c', rfl, hRV⟩ := hO.rv V.length rfl
    obtain ⟨k, hVl⟩ : ∃ k, V.length = k := ⟨_, rfl⟩
    rw [hVl] at hRV hO hY
    replace hVl := Lib.hid hVl
    have hPe := Lib.hid (hP.out V hVe.out)
    have HE := Lib.hid (fun w (h : RV w A' k c' V) => row_encode t A' k c' V w h)
    obtain ⟨E, hE⟩ : ∃ E, rowE ⟨t, V⟩ = E := ⟨_, rfl⟩
    obtain ⟨T, hT⟩ : ∃ T, rowT ⟨t, V⟩ = T := ⟨_, rfl⟩
    obtain ⟨tl, htl⟩ : ∃ tl, T.length = tl := ⟨_, rfl⟩
    obtain ⟨q, hq⟩ : ∃ q, (T == b) = q := ⟨_, rfl⟩
    have hres := Lib.hid (show E = 0 → q = true → decR b = (⟨t, V⟩, 0) from fun h0 h1 => by
      have hb : rowB ⟨t, V⟩ = b := by
        rw [← hq, ← hT] at h1
        unfold rowT at h1
        rw [if_pos (hE.trans h0)] at h1
        simpa using h1
      have := decR_yes (b := b) hbn (by rw [hPe.out, hE, h0]) (by rw [hPe.out]; exact hb)
      rw [this, hPe.out])
    have hres2 := Lib.hid (show ¬ (E = 0 ∧ q = true) → decR b = (⟨0, []⟩, 2) from fun hh => decR_no fun h3 => hh (by
      rw [hPe.out] at h3
      refine ⟨hE.symm.trans h3.2.1, ?_⟩
      rw [← hq, ← hT]
      unfold rowT
      rw [if_pos h3.2.1, h3.2.2]
      simp))
    rw [hE, hT] at HE
    replace htl := Lib.hid htl
    replace hq := Lib.hid hq
    replace hK := Lib.hid hK
    have y0 := hY.cell 0 (v := .int .i64 t) rfl
    have y1 := hY.cell 1 (v := .slice A' k c') rfl
    have hSZ := hsz
    clear hE hT hPe hVe
    gi_wp2_with fail
    refine ⟨trivial, ?_⟩
    refine (callsIn_wide.2 (HE.out _ hRV)).mono ?_
    rintro e w5 ⟨v5, rfl, hv5, e5⟩
    obtain ⟨A5, c5, rfl, hR5⟩ := hv5.sl tl htl.out
    replace hK := (e5.block D (Array.getElem?_eq_some_iff.1 hK.out).1).trans hK.out
    replace bl := Below.next bl e5 (Nat.le_refl _)
    replace hX := hX.below e5 hX.lt
    replace hY := hY.below e5 hY.lt
    replace hO := hO.below e5
    replace hK := Lib.hid hK
    have hlt0 := hX.lt
    have hlt1 := hY.lt
    have xf0 := hX.fz 0
    have xf1 := hX.fz 1
    have x0 := hX.cell 0 (v := .int .i64 0) rfl
    have x1 := hX.cell 1 (v := .slice none 0 0) rfl
    have z0 := hY.cell 0 (v := .int .i64 t) rfl
    have z1 := hY.cell 1 (v := .slice A' k c') rfl
    clear y0 y1 hRV
    by_cases e0 : E = 0
    rotate_left
    · have f0 : (E != 0) = true := by rw [bne_iff_ne]; exact e0
      have hd := Lib.hid (hres2.out (fun hh => e0 hh.1))
      gi_wp2
      refine ⟨trivial, ?_⟩
      gi_wp2
      replace hK := hK.out
      have hF0 := ((hX.set 0 (.int .i64 0)).set 1 (.slice none 0 0))
      have bF0 : Below w.heap.size w ((w5.setCell ⟨w.heap.size, 0, none⟩ (.int .i64 0)).setCell ⟨w.heap.size, 1, none⟩ (.slice none 0 0)) := (bl.setCell (p := ⟨w.heap.size, 0, none⟩) (Nat.le_refl _) _).setCell (p := ⟨w.heap.size, 1, none⟩) (Nat.le_refl _) _
      have hK0 : ((w5.setCell ⟨w.heap.size, 0, none⟩ (.int .i64 0)).setCell ⟨w.heap.size, 1, none⟩ (.slice none 0 0)).heap[D]? = some (.deferred (some [])) := (Below.heap_setCell _ _ _ D (by simp; omega)).trans ((Below.heap_setCell _ _ _ D (by simp; omega)).trans hK)
      generalize (w5.setCell ⟨w.heap.size, 0, none⟩ (.int .i64 0)).setCell ⟨w.heap.size, 1, none⟩ (.slice none 0 0) = WG at *
      refine ⟨by simp, .inl ⟨_, _, rfl, run_takeDeferred hK0, ?_⟩⟩
      have hF := hF0.keeps (put_keeps (o' := .deferred none) hK0) (by omega)
      have bF := bF0.keeps (put_keeps (o' := .deferred none) hK0) (fun i hi e => by omega) (Nat.le_refl _)
      generalize WG.putObj D (.deferred none) = WF at *
      have f0 := hF.cell 0 (v := .int .i64 0) rfl
      have f1 := hF.cell 1 (v := .slice none 0 0) rfl
      refine ⟨.tuple #[.agg #[.int .i64 0, .slice none 0 0], .int .i64 2], (by simp [results, Try.results14, go_sem, f0, f1]), ?_⟩
      rw [hd.out]
      exact ⟨none, 0, 0, rfl, RV.none_ _, bF⟩
    subst e0
    have HB := Lib.hid (fun w (h : RB w A5 tl c5 T) (h' : RB w (some ⟨g, o, none⟩) 37 c b) => bytes_equal A5 (some ⟨g, o, none⟩) tl c5 37 c T b w h h')
    rw [hq.out] at HB
    gi_wp2_with fail
    refine ⟨trivial, ?_⟩
    refine (callsIn_wide.2 (HB.out _ hR5 (h.below bl))).mono ?_
    rintro e w6 ⟨rfl, rfl⟩
    cases q with
    | true =>
      have hd := Lib.hid (hres.out (by first | exact rfl | trivial) (by first | exact rfl | trivial))
      gi_wp2
      replace hK := hK.out
      have hF0 := ((hX.set 0 (.int .i64 t)).set 1 (.slice A' k c'))
      have bF0 : Below w.heap.size w ((w5.setCell ⟨w.heap.size, 0, none⟩ (.int .i64 t)).setCell ⟨w.heap.size, 1, none⟩ (.slice A' k c')) := (bl.setCell (p := ⟨w.heap.size, 0, none⟩) (Nat.le_refl _) _).setCell (p := ⟨w.heap.size, 1, none⟩) (Nat.le_refl _) _
      have hO6 : VO ((w5.setCell ⟨w.heap.size, 0, none⟩ (.int .i64 t)).setCell ⟨w.heap.size, 1, none⟩ (.slice A' k c')) (w.heap.size + 4) (.slice A' k c') V := (hO.set (p := ⟨w.heap.size, 0, none⟩) (fun j hj e => by have := (hO.lt j hj).1; simp at e; omega) _).set (p := ⟨w.heap.size, 1, none⟩) (fun j hj e => by have := (hO.lt j hj).1; simp at e; omega) _
      have hK0 : ((w5.setCell ⟨w.heap.size, 0, none⟩ (.int .i64 t)).setCell ⟨w.heap.size, 1, none⟩ (.slice A' k c')).heap[D]? = some (.deferred (some [])) := (Below.heap_setCell _ _ _ D (by simp; omega)).trans ((Below.heap_setCell _ _ _ D (by simp; omega)).trans hK)
      generalize (w5.setCell ⟨w.heap.size, 0, none⟩ (.int .i64 t)).setCell ⟨w.heap.size, 1, none⟩ (.slice A' k c') = WG at *
      refine ⟨by simp, .inl ⟨_, _, rfl, run_takeDeferred hK0, ?_⟩⟩
      have hO7 := hO6.kept (put_keeps (o' := .deferred none) hK0) (fun j hj e => by
        obtain ⟨cs, ty, z, hc⟩ := hO6.isCells j hj
        subst e
        rw [hK0] at hc
        cases hc)
      have hF := hF0.keeps (put_keeps (o' := .deferred none) hK0) (by omega)
      have bF := bF0.keeps (put_keeps (o' := .deferred none) hK0) (fun i hi e => by omega) (Nat.le_refl _)
      generalize WG.putObj D (.deferred none) = WF at *
      have f0 := hF.cell 0 (v := .int .i64 t) rfl
      have f1 := hF.cell 1 (v := .slice A' k c') rfl
      refine ⟨.tuple #[.agg #[.int .i64 t, .slice A' k c'], .int .i64 0], (by simp [results, Try.results14, go_sem, f0, f1]), ?_⟩
      rw [hd.out]
      obtain ⟨A9, c9, e9, hR9⟩ := hO7.rv k hVl.out
      injection e9 with e1 _ e3
      subst e1 e3
      exact ⟨A', k, c', rfl, hR9, bF⟩
    | false =>
      have hd := Lib.hid (hres2.out (fun hh => by cases hh.2))
      gi_wp2
      replace hK := hK.out
      have hF0 := ((hX.set 0 (.int .i64 0)).set 1 (.slice none 0 0))
      have bF0 : Below w.heap.size w ((w5.setCell ⟨w.heap.size, 0, none⟩ (.int .i64 0)).setCell ⟨w.heap.size, 1, none⟩ (.slice none 0 0)) := (bl.setCell (p := ⟨w.heap.size, 0, none⟩) (Nat.le_refl _) _).setCell (p := ⟨w.heap.size, 1, none⟩) (Nat.le_refl _) _
      have hK0 : ((w5.setCell ⟨w.heap.size, 0, none⟩ (.int .i64 0)).setCell ⟨w.heap.size, 1, none⟩ (.slice none 0 0)).heap[D]? = some (.deferred (some [])) := (Below.heap_setCell _ _ _ D (by simp; omega)).trans ((Below.heap_setCell _ _ _ D (by simp; omega)).trans hK)
      generalize (w5.setCell ⟨w.heap.size, 0, none⟩ (.int .i64 0)).setCell ⟨w.heap.size, 1, none⟩ (.slice none 0 0) = WG at *
      refine ⟨by simp, .inl ⟨_, _, rfl, run_takeDeferred hK0, ?_⟩⟩
      have hF := hF0.keeps (put_keeps (o' := .deferred none) hK0) (by omega)
      have bF := bF0.keeps (put_keeps (o' := .deferred none) hK0) (fun i hi e => by omega) (Nat.le_refl _)
      generalize WG.putObj D (.deferred none) = WF at *
      have f0 := hF.cell 0 (v := .int .i64 0) rfl
      have f1 := hF.cell 1 (v := .slice none 0 0) rfl
      refine ⟨.tuple #[.agg #[.int .i64 0, .slice none 0 0], .int .i64 2], (by simp [results, Try.results14, go_sem, f0, f1]), ?_⟩
      rw [hd.out]
      exact ⟨none, 0, 0, rfl, RV.none_ _, bF⟩
  case stop =>
    rintro D cc pre W hD ⟨k, hk, rfl⟩ ⟨⟨rfl, p, y, hp, hdk, v, V, hX, hY, hO, hN, hV⟩, bl⟩ hK
    have hVe := Lib.hid (prs_stop hk hp.symm hV hdk)
    clear hV hdk hp hk
    obtain ⟨A', c', rfl, hRV⟩ := hO.rv V.length rfl
    obtain ⟨k, hVl⟩ : ∃ k, V.length = k := ⟨_, rfl⟩
    rw [hVl] at hRV hO hY
    replace hVl := Lib.hid hVl
    have hPe := Lib.hid (hP.out V hVe.out)
    have HE := Lib.hid (fun w (h : RV w A' k c' V) => row_encode t A' k c' V w h)
    obtain ⟨E, hE⟩ : ∃ E, rowE ⟨t, V⟩ = E := ⟨_, rfl⟩
    obtain ⟨T, hT⟩ : ∃ T, rowT ⟨t, V⟩ = T := ⟨_, rfl⟩
    obtain ⟨tl, htl⟩ : ∃ tl, T.length = tl := ⟨_, rfl⟩
    obtain ⟨q, hq⟩ : ∃ q, (T == b) = q := ⟨_, rfl⟩
    have hres := Lib.hid (show E = 0 → q = true → decR b = (⟨t, V⟩, 0) from fun h0 h1 => by
      have hb : rowB ⟨t, V⟩ = b := by
        rw [← hq, ← hT] at h1
        unfold rowT at h1
        rw [if_pos (hE.trans h0)] at h1
        simpa using h1
      have := decR_yes (b := b) hbn (by rw [hPe.out, hE, h0]) (by rw [hPe.out]; exact hb)
      rw [this, hPe.out])
    have hres2 := Lib.hid (show ¬ (E = 0 ∧ q = true) → decR b = (⟨0, []⟩, 2) from fun hh => decR_no fun h3 => hh (by
      rw [hPe.out] at h3
      refine ⟨hE.symm.trans h3.2.1, ?_⟩
      rw [← hq, ← hT]
      unfold rowT
      rw [if_pos h3.2.1, h3.2.2]
      simp))
    rw [hE, hT] at HE
    replace htl := Lib.hid htl
    replace hq := Lib.hid hq
    replace hK := Lib.hid hK
    have y0 := hY.cell 0 (v := .int .i64 t) rfl
    have y1 := hY.cell 1 (v := .slice A' k c') rfl
    have hSZ := hsz
    clear hE hT hPe hVe
    gi_wp2_with fail
    refine ⟨trivial, ?_⟩
    refine (callsIn_wide.2 (HE.out _ hRV)).mono ?_
    rintro e w5 ⟨v5, rfl, hv5, e5⟩
    obtain ⟨A5, c5, rfl, hR5⟩ := hv5.sl tl htl.out
    replace hK := (e5.block D (Array.getElem?_eq_some_iff.1 hK.out).1).trans hK.out
    replace bl := Below.next bl e5 (Nat.le_refl _)
    replace hX := hX.below e5 hX.lt
    replace hY := hY.below e5 hY.lt
    replace hO := hO.below e5
    replace hK := Lib.hid hK
    have hlt0 := hX.lt
    have hlt1 := hY.lt
    have xf0 := hX.fz 0
    have xf1 := hX.fz 1
    have x0 := hX.cell 0 (v := .int .i64 0) rfl
    have x1 := hX.cell 1 (v := .slice none 0 0) rfl
    have z0 := hY.cell 0 (v := .int .i64 t) rfl
    have z1 := hY.cell 1 (v := .slice A' k c') rfl
    clear y0 y1 hRV
    by_cases e0 : E = 0
    rotate_left
    · have f0 : (E != 0) = true := by rw [bne_iff_ne]; exact e0
      have hd := Lib.hid (hres2.out (fun hh => e0 hh.1))
      gi_wp2
      refine ⟨trivial, ?_⟩
      gi_wp2
      replace hK := hK.out
      have hF0 := ((hX.set 0 (.int .i64 0)).set 1 (.slice none 0 0))
      have bF0 : Below w.heap.size w ((w5.setCell ⟨w.heap.size, 0, none⟩ (.int .i64 0)).setCell ⟨w.heap.size, 1, none⟩ (.slice none 0 0)) := (bl.setCell (p := ⟨w.heap.size, 0, none⟩) (Nat.le_refl _) _).setCell (p := ⟨w.heap.size, 1, none⟩) (Nat.le_refl _) _
      have hK0 : ((w5.setCell ⟨w.heap.size, 0, none⟩ (.int .i64 0)).setCell ⟨w.heap.size, 1, none⟩ (.slice none 0 0)).heap[D]? = some (.deferred (some [])) := (Below.heap_setCell _ _ _ D (by simp; omega)).trans ((Below.heap_setCell _ _ _ D (by simp; omega)).trans hK)
      generalize (w5.setCell ⟨w.heap.size, 0, none⟩ (.int .i64 0)).setCell ⟨w.heap.size, 1, none⟩ (.slice none 0 0) = WG at *
      refine ⟨by simp, .inl ⟨_, _, rfl, run_takeDeferred hK0, ?_⟩⟩
      have hF := hF0.keeps (put_keeps (o' := .deferred none) hK0) (by omega)
      have bF := bF0.keeps (put_keeps (o' := .deferred none) hK0) (fun i hi e => by omega) (Nat.le_refl _)
      generalize WG.putObj D (.deferred none) = WF at *
      have f0 := hF.cell 0 (v := .int .i64 0) rfl
      have f1 := hF.cell 1 (v := .slice none 0 0) rfl
      refine ⟨.tuple #[.agg #[.int .i64 0, .slice none 0 0], .int .i64 2], (by simp [results, Try.results14, go_sem, f0, f1]), ?_⟩
      rw [hd.out]
      exact ⟨none, 0, 0, rfl, RV.none_ _, bF⟩
    subst e0
    have HB := Lib.hid (fun w (h : RB w A5 tl c5 T) (h' : RB w (some ⟨g, o, none⟩) 37 c b) => bytes_equal A5 (some ⟨g, o, none⟩) tl c5 37 c T b w h h')
    rw [hq.out] at HB
    gi_wp2_with fail
    refine ⟨trivial, ?_⟩
    refine (callsIn_wide.2 (HB.out _ hR5 (h.below bl))).mono ?_
    rintro e w6 ⟨rfl, rfl⟩
    cases q with
    | true =>
      have hd := Lib.hid (hres.out (by first | exact rfl | trivial) (by first | exact rfl | trivial))
      gi_wp2
      replace hK := hK.out
      have hF0 := ((hX.set 0 (.int .i64 t)).set 1 (.slice A' k c'))
      have bF0 : Below w.heap.size w ((w5.setCell ⟨w.heap.size, 0, none⟩ (.int .i64 t)).setCell ⟨w.heap.size, 1, none⟩ (.slice A' k c')) := (bl.setCell (p := ⟨w.heap.size, 0, none⟩) (Nat.le_refl _) _).setCell (p := ⟨w.heap.size, 1, none⟩) (Nat.le_refl _) _
      have hO6 : VO ((w5.setCell ⟨w.heap.size, 0, none⟩ (.int .i64 t)).setCell ⟨w.heap.size, 1, none⟩ (.slice A' k c')) (w.heap.size + 4) (.slice A' k c') V := (hO.set (p := ⟨w.heap.size, 0, none⟩) (fun j hj e => by have := (hO.lt j hj).1; simp at e; omega) _).set (p := ⟨w.heap.size, 1, none⟩) (fun j hj e => by have := (hO.lt j hj).1; simp at e; omega) _
      have hK0 : ((w5.setCell ⟨w.heap.size, 0, none⟩ (.int .i64 t)).setCell ⟨w.heap.size, 1, none⟩ (.slice A' k c')).heap[D]? = some (.deferred (some [])) := (Below.heap_setCell _ _ _ D (by simp; omega)).trans ((Below.heap_setCell _ _ _ D (by simp; omega)).trans hK)
      generalize (w5.setCell ⟨w.heap.size, 0, none⟩ (.int .i64 t)).setCell ⟨w.heap.size, 1, none⟩ (.slice A' k c') = WG at *
      refine ⟨by simp, .inl ⟨_, _, rfl, run_takeDeferred hK0, ?_⟩⟩
      have hO7 := hO6.kept (put_keeps (o' := .deferred none) hK0) (fun j hj e => by
        obtain ⟨cs, ty, z, hc⟩ := hO6.isCells j hj
        subst e
        rw [hK0] at hc
        cases hc)
      have hF := hF0.keeps (put_keeps (o' := .deferred none) hK0) (by omega)
      have bF := bF0.keeps (put_keeps (o' := .deferred none) hK0) (fun i hi e => by omega) (Nat.le_refl _)
      generalize WG.putObj D (.deferred none) = WF at *
      have f0 := hF.cell 0 (v := .int .i64 t) rfl
      have f1 := hF.cell 1 (v := .slice A' k c') rfl
      refine ⟨.tuple #[.agg #[.int .i64 t, .slice A' k c'], .int .i64 0], (by simp [results, Try.results14, go_sem, f0, f1]), ?_⟩
      rw [hd.out]
      obtain ⟨A9, c9, e9, hR9⟩ := hO7.rv k hVl.out
      injection e9 with e1 _ e3
      subst e1 e3
      exact ⟨A', k, c', rfl, hR9, bF⟩
    | false =>
      have hd := Lib.hid (hres2.out (fun hh => by cases hh.2))
      gi_wp2
      replace hK := hK.out
      have hF0 := ((hX.set 0 (.int .i64 0)).set 1 (.slice none 0 0))
      have bF0 : Below w.heap.size w ((w5.setCell ⟨w.heap.size, 0, none⟩ (.int .i64 0)).setCell ⟨w.heap.size, 1, none⟩ (.slice none 0 0)) := (bl.setCell (p := ⟨w.heap.size, 0, none⟩) (Nat.le_refl _) _).setCell (p := ⟨w.heap.size, 1, none⟩) (Nat.le_refl _) _
      have hK0 : ((w5.setCell ⟨w.heap.size, 0, none⟩ (.int .i64 0)).setCell ⟨w.heap.size, 1, none⟩ (.slice none 0 0)).heap[D]? = some (.deferred (some [])) := (Below.heap_setCell _ _ _ D (by simp; omega)).trans ((Below.heap_setCell _ _ _ D (by simp; omega)).trans hK)
      generalize (w5.setCell ⟨w.heap.size, 0, none⟩ (.int .i64 0)).setCell ⟨w.heap.size, 1, none⟩ (.slice none 0 0) = WG at *
      refine ⟨by simp, .inl ⟨_, _, rfl, run_takeDeferred hK0, ?_⟩⟩
      have hF := hF0.keeps (put_keeps (o' := .deferred none) hK0) (by omega)
      have bF := bF0.keeps (put_keeps (o' := .deferred none) hK0) (fun i hi e => by omega) (Nat.le_refl _)
      generalize WG.putObj D (.deferred none) = WF at *
      have f0 := hF.cell 0 (v := .int .i64 0) rfl
      have f1 := hF.cell 1 (v := .slice none 0 0) rfl
      refine ⟨.tuple #[.agg #[.int .i64 0, .slice none 0 0], .int .i64 2], (by simp [results, Try.results14, go_sem, f0, f1]), ?_⟩
      rw [hd.out]
      exact ⟨none, 0, 0, rfl, RV.none_ _, bF⟩
end Go.Proofs.Ytfldmejjepakeaa
