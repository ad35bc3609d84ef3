/- Merged: RwH, ValPure, ValPure2, RwI, RwJ, RwK, RwL, RwM, RwN, RwO, RwP. -/
import Derived.Test.YtfldmejjepakeaaRk2
import Derived.Laws.Bits64
/- row.Decode. -/
namespace Go.Proofs.Ytfldmejjepakeaa
open Go.ChangeShapes Go.WideShapes Go.ChangeAt Go.RowKit
open Go.ChangeMaps (open_string shut_string)
set_option linter.unusedVariables false
set_option linter.unusedSimpArgs false
set_option maxRecDepth 100000
open Go.Deep
attribute [local go_sem] Oper.semAt_some

theorem chunk_calls (A : Option Addr) (n c : Nat) (w : World) :
    Calls Try.prog 45 #[.slice A n c, .int .i64 9] w fun e w' => e = .returned (.func (.func 71) #[] #[.pointer (some ⟨w.heap.size, 0, none⟩), .pointer (some ⟨w.heap.size + 1, 0, none⟩)]) ∧ w' = (w.alloc (.cells #[.slice A n c] 22)).alloc (.cells #[.int .i64 9] 3) := by
  go_enter Try.func45, Try.ntmps45
  go_wp2
  go_ret
  exact ⟨rfl, rfl⟩
theorem chunk_stops (F : Fence) (n : Nat) (h7 : F.fn 71) (hro : F.round = none) (hn : 1 ≤ n) (Bs g o c : Nat) (hc : 36 ≤ c) (w : World) (h1 : Blk w Bs #[.slice (some ⟨g, o, none⟩) 36 c] 22) (h2 : Blk w (Bs + 1) #[.int .i64 9] 3) :
    SeqStopsK F n Try.prog 71 #[.pointer (some ⟨Bs, 0, none⟩), .pointer (some ⟨Bs + 1, 0, none⟩)] (encC g o) (KpB Bs) (fun ys => ys = upF 4) (fun pre => ∃ k, k ≤ 4 ∧ pre = upF k) 4 w := fun l J Jx W hW hJ _ hY h0 =>
  chunk1_in F n h7 hro hn l Bs g o c hc J Jx (fun pre W1 hp => hJ pre W1 W1.drew none hp ⟨rfl, rfl, rfl, Nat.le_refl _, fun _ _ _ => rfl⟩ (fun r e => by cases e)) hY W (h1.below hW h1.lt) (h2.below hW h2.lt) h0
theorem kpB_b {Bs : Nat} {w : World} (hn : Bs + 1 < w.heap.size) (W : World) (l : Nat) (o o' : Obj) (hl : w.heap.size ≤ l) (h : W.heap[l]? = some o) (h1 : o.isCells = false) (h2 : o.isWalk = false) : KpB Bs W (W.putObj l o') :=
  fun i hi => (belowK_b (n₀ := Bs + 2) (w := w) (by omega) W l o o' hl h h1 h2).block i (by omega)
theorem RB.piece {w : World} {g o n c : Nat} {l : List UInt8} (h : RB w (some ⟨g, o, none⟩) n c l) (lo m : Nat) (hm : lo + m ≤ n) : RB w (some ⟨g, o + lo, none⟩) m m ((l.drop lo).take m) := by
  have hl := h.len
  have hc := h.cap
  have hx := h.max
  refine ⟨by simp; omega, Nat.le_refl _, by omega, fun e => (by cases e), fun hn => ⟨g, o + lo, rfl, fun i p hp => ?_⟩⟩
  obtain ⟨g', o', e, hat⟩ := h.at_ (by omega)
  injection e with e
  injection e with e1 e2
  subst e1 e2
  rw [List.getElem?_take] at hp
  split at hp
  · rw [List.getElem?_drop] at hp
    rw [Nat.add_assoc]
    exact hat _ p hp
  · cases hp
theorem VO.isCells {w : World} {B : Nat} {v : Value} {V : List ValR} (h : VO w B v V) : ∀ k, v.ownBlock = some k → ∃ cs t z, w.heap[k]? = some (.cells cs t z) := by
  intro k hk
  obtain ⟨hl, ho⟩ := h
  rcases ho with ⟨rfl, h0⟩ | ⟨g, cap, cur, rfl, hg, hheap, _⟩
  · simp [Value.ownBlock] at hk
  · simp [Value.ownBlock] at hk
    subst hk
    exact ⟨_, _, _, hheap⟩
theorem keepsFrom_of {S : Nat → Prop} {B : Nat} {W W' : World} (hk : Keeps S W W') (hS : ∀ k, S k → B ≤ k → ∃ cs t z, W.heap[k]? = some (.cells cs t z)) : KeepsFrom B W W' :=
  ⟨hk.size, fun i o hB hi ho => (hk.block i (Array.getElem?_eq_some_iff.1 hi).1 (fun hs => by
    obtain ⟨cs, t, z, e⟩ := hS i hs hB
    rw [hi] at e
    cases e
    cases ho)).trans hi⟩
def pieceF (b : List UInt8) (x : Fin 4) : List UInt8 := (b.drop (1 + 9 * x.1)).take 9
/-- Between two rounds. -/
def RIn (N : Nat) (t : Int) (b : List UInt8) (pre : List (Fin 4)) (W : World) : Prop :=
  ∃ v V, Blk W N #[.int .i64 0, .slice none 0 0] 26 ∧ Blk W (N + 1) #[.int .i64 t, v] 26 ∧ VO W (N + 4) v V ∧ N + 4 ≤ W.heap.size ∧ pre.map (fun x => dkV (pieceF b x)) = V.map some
/-- Left by a piece that is none. -/
def ROut (N : Nat) (t : Int) (b : List UInt8) (id : Nat) (c : Code) (pre : List (Fin 4)) (W : World) : Prop :=
  c = .exit id ∧ ∃ p x, pre = p ++ [x] ∧ dkV (pieceF b x) = none ∧ RIn N t b p W
theorem RIn.own (N : Nat) (t : Int) (b : List UInt8) (B : Nat) : OwnFrom B (RIn N t b) := by
  intro s W W' row hs hg hr
  obtain ⟨v, V, hX, hY, hO, hN, hV⟩ := hs
  have hk := grown_keeps hg
  have no : ∀ k cs t z, W.heap[k]? = some (.cells cs t z) → ¬ row = some k := fun k cs t z hc e => by
    obtain ⟨_, o, ho, hx⟩ := hr k e
    rw [hc] at ho
    cases ho
    cases hx
  exact ⟨v, V, hX.keeps hk (no _ _ _ _ hX), hY.keeps hk (no _ _ _ _ hY), hO.kept hk (fun k e => by obtain ⟨cs, t, z, hc⟩ := hO.isCells k e; exact no _ _ _ _ hc), Nat.le_trans hN hk.size, hV⟩
theorem ROut.own (N : Nat) (t : Int) (b : List UInt8) (id : Nat) (B : Nat) (c : Code) : OwnFrom B (ROut N t b id c) := by
  intro s W W' row hs hg hr
  obtain ⟨hc, p, x, hp, hx, hI⟩ := hs
  exact ⟨hc, p, x, hp, hx, RIn.own N t b B p W W' row hI hg hr⟩
theorem prs_run {b : List UInt8} : ∀ (V : List ValR) (j m : Nat), (∀ i v, V[i]? = some v → dkV ((b.drop (1 + 9 * (j + i))).take 9) = some v) → V.length ≤ m → prsV m (b.drop (1 + 9 * j)) = V ++ prsV (m - V.length) (b.drop (1 + 9 * (j + V.length))) := by
  intro V
  induction V with
  | nil => intro j m _ _; simp
  | cons v V ih =>
    intro j m h hl
    obtain ⟨m, rfl⟩ : ∃ m', m = m' + 1 := ⟨m - 1, by simp at hl; omega⟩
    rw [prsV_some (l := b.drop (1 + 9 * j)) (v := v) (h 0 v rfl), List.drop_drop, show 1 + 9 * j + 9 = 1 + 9 * (j + 1) by omega, ih (j + 1) m (fun i u hu => by have := h (i + 1) u (by simpa using hu); rw [show j + (i + 1) = j + 1 + i by omega] at this; exact this) (by simp at hl; omega)]
    simp only [List.cons_append, List.length_cons]
    rw [show m + 1 - (V.length + 1) = m - V.length by omega, show j + 1 + V.length = j + (V.length + 1) by omega]
theorem upF_get {k i : Nat} (hk : k ≤ 4) (hi : i < k) : (upF k)[i]? = some ⟨i, by omega⟩ := by
  unfold upF
  rw [List.getElem?_take, if_pos hi]
  match i, (show i < 4 by omega) with
  | 0, _ => rfl
  | 1, _ => rfl
  | 2, _ => rfl
  | 3, _ => rfl
theorem good_get {b : List UInt8} {k : Nat} {V : List ValR} (hk : k ≤ 4) (h : (upF k).map (fun x => dkV (pieceF b x)) = V.map some) : V.length = k ∧ ∀ i v, V[i]? = some v → dkV ((b.drop (1 + 9 * (0 + i))).take 9) = some v := by
  have hl : V.length = k := by have := congrArg List.length h; rw [List.length_map, List.length_map, upF_len hk] at this; exact this.symm
  refine ⟨hl, fun i v hv => ?_⟩
  have hi : i < k := by have := (List.getElem?_eq_some_iff.1 hv).1; omega
  have := congrArg (fun l => l[i]?) h
  simp only [List.getElem?_map, upF_get hk hi, hv, Option.map_some] at this
  injection this with this
  rw [Nat.zero_add]
  exact this
theorem prs_done {b : List UInt8} {V : List ValR} (h : (upF 4).map (fun x => dkV (pieceF b x)) = V.map some) : prsV 4 (b.drop 1) = V := by
  obtain ⟨hl, hg⟩ := good_get (Nat.le_refl 4) h
  have := prs_run V 0 4 hg (by omega)
  rw [hl] at this
  simpa [prsV] using this
theorem prs_stop {b : List UInt8} {V : List ValR} {k : Nat} {p : List (Fin 4)} {x : Fin 4} (hk : k ≤ 4) (hp : p ++ [x] = upF k) (h : p.map (fun x => dkV (pieceF b x)) = V.map some) (hx : dkV (pieceF b x) = none) : prsV 4 (b.drop 1) = V := by
  obtain ⟨j, rfl⟩ : ∃ j, k = j + 1 := ⟨k - 1, by cases k with | zero => simp [upF] at hp | succ k => rfl⟩
  rw [upF_succ (show j < 4 by omega)] at hp
  obtain ⟨rfl, e⟩ := List.append_inj' hp rfl
  injection e with e
  subst e
  obtain ⟨hl, hg⟩ := good_get (show j ≤ 4 by omega) h
  have := prs_run V 0 4 hg (by omega)
  rw [hl, Nat.zero_add, prsV_none hx, List.append_nil] at this
  exact this
theorem put_keeps {W : World} {D : Nat} {o o' : Obj} (h : W.heap[D]? = some o) : Keeps (fun k => k = D) W (W.putObj D o') :=
  (grown_keeps (grownBy_putObj' W D o')).mono (fun k _ e => by injection e with e; exact e.symm)
set_option maxRecDepth 100000 in
set_option maxHeartbeats 8000000 in
theorem row_decode (A : Option Addr) (n c : Nat) (b : List UInt8) (w : World) (h : RB w A n c b) (hn : n ≤ 100000) :
    Calls Try.prog 14 #[.slice A n c] w fun e w' => ∃ A' n' c', e = .returned (.tuple #[.agg #[.int .i64 (decR b).1.t, .slice A' n' c'], .int .i64 (decR b).2]) ∧ RV w' A' n' c' (decR b).1.V ∧ Below w.heap.size w w' := by
  have hbn := h.len
  have hnc := h.cap
  have hcm := h.max
  unfold maxLen at hcm
  have hX0 := Blk.new w #[.int .i64 0, .slice none 0 0] 26
  have bl0 : Below w.heap.size w (w.alloc (.cells #[.int .i64 0, .slice none 0 0] 26)) := (by repeat (first | exact Below.refl _ _ | assumption | apply below_drewN' | apply Below.drew | refine Below.alloc ?_ (by first | omega | (simp; done) | (simp; omega)) _ | refine Below.setCell ?_ (by first | omega | (simp; done) | (simp; omega)) _))
  by_cases h37 : n = 37
  rotate_left
  · have hd := Lib.hid (decR_short (b := b) (by omega))
    have hne : ((n : Int) != 37) = true := by rw [bne_iff_ne]; omega
    go_enter Try.func14, Try.ntmps14
    go_wp2
    refine bodyPost_ret (v := .tuple #[.agg #[.int .i64 0, .slice none 0 0], .int .i64 2]) (by simp [results, Try.results14, go_sem]) rfl ?_
    rw [hd.out]
    exact ⟨none, 0, 0, rfl, RV.none_ _, (by repeat (first | exact Below.refl _ _ | assumption | apply below_drewN' | apply Below.drew | refine Below.alloc ?_ (by first | omega | (simp; done) | (simp; omega)) _ | refine Below.setCell ?_ (by first | omega | (simp; done) | (simp; omega)) _))⟩
  subst h37
  obtain ⟨x, hx⟩ : ∃ x, b[0]? = some x := ⟨_, List.getElem?_eq_getElem (by omega)⟩
  obtain ⟨g, o, rfl, hc⟩ := h.at_ (by omega)
  have hcx : w.cell? ⟨g, o, none⟩ = some (.int .u8 x.toNat) := hc 0 x hx
  have hgw := World.block_lt_of_cell? w _ hcx
  have hxl := UInt8.toNat_lt x
  have hwx : IntKind.i64.wrap (x.toNat : Int) = (x.toNat : Int) := IntWalk.i64_in _ (by omega)
  obtain ⟨t, ht⟩ : ∃ t, t = (x.toNat : Int) - 1 := ⟨_, rfl⟩
  have hwt : IntKind.i64.wrap ((x.toNat : Int) - 1) = t := by rw [ht]; exact IntWalk.i64_in _ (by omega)
  have hP := Lib.hid (show ∀ V, prsV 4 (b.drop 1) = V → rowP b = ⟨t, V⟩ from fun V hV => by unfold rowP; rw [hV, ht, List.getD_eq_getElem?_getD, hx]; rfl)
  have hcH := Lib.hid hc
  replace ht := Lib.hid ht
  clear hc hx hxl
  have hY0 := Blk.new2 w (.cells #[.int .i64 0, .slice none 0 0] 26) #[.int .i64 t, .slice none 0 0] 26
  have hsl1 : ∀ w, (Instr.slice 22 (.slice (some ⟨g, o, none⟩) 37 c) (some (.int .i64 1)) none none).run Try.prog w = .ok (.slice (some ⟨g, o + 1, none⟩) 36 (c - 1)) w := by
    intro w
    rw [run_slice_l (P := Try.prog) w 22 (some ⟨g, o, none⟩) 37 c under_bytes .i64 1 (by omega) (by omega), run_sizeU8]
    simp only [Result.andThen_ok, sliced, Nat.mul_one]
    rw [show (1 : Int).toNat = 1 from rfl, if_neg (by omega), Option.map_some, Addr.add_lit]
  obtain ⟨c1, hc1⟩ : ∃ c1, c - 1 = c1 := ⟨_, rfl⟩
  rw [hc1] at hsl1
  have hc36 : 36 ≤ c1 := by omega
  have HC := Lib.hid (fun w => chunk_calls (some ⟨g, o + 1, none⟩) 36 c1 w)
  refine (callsIn_wide (n := 3)).1 ?_
  refine callsIn_of_wp_marks Try.func14 rfl trivial ?_ rfl
  simp only [Try.ntmps14, List.size_toArray, List.length_cons, List.length_nil, Nat.reduceAdd, Nat.reduceSub, Array.replicate_succ, Array.replicate_zero, List.push_toArray, List.append_toArray, List.nil_append, List.cons_append]
  gi_wp2_with (refine ⟨trivial, ?_⟩; gi_at_call 45; refine (callsIn_wide.2 (HC.out _)).mono ?_; rintro e w2 ⟨rfl, rfl⟩)
  obtain ⟨W0, hW0⟩ : ∃ W0, (((w.alloc (.cells #[.int .i64 0, .slice none 0 0] 26)).alloc (.cells #[.int .i64 t, .slice none 0 0] 26)).alloc (.cells #[.slice (some ⟨g, o + 1, none⟩) 36 c1] 22)).alloc (.cells #[.int .i64 9] 3) = W0 := ⟨_, rfl⟩
  have bl : Below w.heap.size w W0 := hW0 ▸ (by repeat (first | exact Below.refl _ _ | assumption | apply below_drewN' | apply Below.drew | refine Below.alloc ?_ (by first | omega | (simp; done) | (simp; omega)) _ | refine Below.setCell ?_ (by first | omega | (simp; done) | (simp; omega)) _))
  have hX : Blk W0 w.heap.size #[.int .i64 0, .slice none 0 0] 26 := hW0 ▸ (((hX0.alloc _).alloc _).alloc _)
  have hY : Blk W0 (w.heap.size + 1) #[.int .i64 t, .slice none 0 0] 26 := hW0 ▸ ((hY0.alloc _).alloc _)
  have hS : Blk W0 (w.heap.size + 2) #[.slice (some ⟨g, o + 1, none⟩) 36 c1] 22 := by
    rw [← hW0]
    refine Blk.alloc ?_ _
    have := Blk.new ((w.alloc (.cells #[.int .i64 0, .slice none 0 0] 26)).alloc (.cells #[.int .i64 t, .slice none 0 0] 26)) #[.slice (some ⟨g, o + 1, none⟩) 36 c1] 22
    simpa using this
  have hZ : Blk W0 (w.heap.size + 3) #[.int .i64 9] 3 := by
    rw [← hW0]
    have := Blk.new (((w.alloc (.cells #[.int .i64 0, .slice none 0 0] 26)).alloc (.cells #[.int .i64 t, .slice none 0 0] 26)).alloc (.cells #[.slice (some ⟨g, o + 1, none⟩) 36 c1] 22)) #[.int .i64 9] 3
    simpa using this
  have hsz : W0.heap.size = w.heap.size + 4 := by rw [← hW0]; simp
  rw [hW0]
  clear hW0 hX0 hY0 bl0
  have hbs := bl.size
  refine wpIn_rangeFunc_ownG rfl (by omega) (gf := 71) (lb := #[.pointer (some ⟨w.heap.size + 2, 0, none⟩), .pointer (some ⟨w.heap.size + 3, 0, none⟩)]) rfl trivial (enters_of Try.func71 (by kernel_rfl) rfl)
    (chunk_stops Fence.wide 2 trivial rfl (by omega) (w.heap.size + 2) g (o + 1) c1 hc36 W0 hS hZ) KpB.t (kpB_b (by omega)) (Below.refl _ _) (fun _ => rfl)
    (fun pre W => RIn w.heap.size t b pre W ∧ Below w.heap.size w W)
    (fun c pre W => ROut w.heap.size t b 0 c pre W ∧ Below w.heap.size w W)
    (OwnFrom.and (RIn.own _ _ _ _) (ownFrom_below (Nat.le_refl _) (by omega)))
    (fun c => OwnFrom.and (ROut.own _ _ _ _ _ c) (ownFrom_below (Nat.le_refl _) (by omega)))
    ⟨⟨_, [], hX, hY, VO.nil _ _, by omega, rfl⟩, bl⟩
    (fun y => { tmps := #[.slice (some ⟨g, o, none⟩) 37 c, undef, .pointer (some ⟨w.heap.size, 0, none⟩), .int .i64 0, .pointer (some ⟨w.heap.size + 1, 0, none⟩), (.slice (some ⟨g, o + 1 + 9 * y.1, none⟩) 9 9), undef, undef, undef, undef, .slice (some ⟨g, o, none⟩) 37 c, .int .i64 37, .bool false, undef, .slice (some ⟨g, o, none⟩) 37 c, .pointer (some ⟨g, o, none⟩), .int .u8 x.toNat, .int .i64 x.toNat, .int .i64 t, .agg #[.int .i64 t, .slice none 0 0], .slice (some ⟨g, o, none⟩) 37 c, .slice (some ⟨g, o + 1, none⟩) 36 c1, .func (.func 71) #[] #[.pointer (some ⟨w.heap.size + 1 + 1, 0, none⟩), .pointer (some ⟨w.heap.size + 1 + 1 + 1, 0, none⟩)], (.slice (some ⟨g, o + 1 + 9 * y.1, none⟩) 9 9), undef, undef, undef, undef, undef, undef, undef, undef, undef, undef, undef, undef, undef, undef, undef, undef, undef, undef, undef, undef, undef, undef, undef, undef, undef, undef, undef, undef], defers := [] }) ?assign ?body ?done ?stop
  case assign =>
    intro l y W K hK
    unfold encC
    gi_wp2
    exact hK
  case body =>
    rintro l pre y W ⟨⟨v, V, hX, hY, hO, hN, hV⟩, bl⟩ hlt
    obtain ⟨A', c', rfl, hRV⟩ := hO.rv V.length rfl
    obtain ⟨k, hkl⟩ : ∃ k, V.length = k := ⟨_, rfl⟩
    have hk4 : k < 4 := by have := congrArg List.length hV; rw [List.length_map, List.length_map] at this; omega
    rw [hkl] at hRV hO hY
    have y0 := hY.cell 0 (v := .int .i64 t) rfl
    have y1 := hY.cell 1 (v := .slice A' k c') rfl
    have hyl := hY.lt
    have hbz := bl.size
    have hpc := (h.below bl).piece (1 + 9 * y.1) 9 (by omega)
    rw [show o + (1 + 9 * y.1) = o + 1 + 9 * y.1 by omega] at hpc
    have HD := fun w (h : RB w (some ⟨g, o + 1 + 9 * y.1, none⟩) 9 9 (pieceF b y)) => dec_any _ 9 9 _ w h (by omega)
    have hpH := Lib.hid (show RB W (some ⟨g, o + 1 + 9 * y.1, none⟩) 9 9 (pieceF b y) from hpc)
    replace hV := Lib.hid hV
    replace hkl := Lib.hid hkl
    have hSZ := Lib.hid hsz
    clear hpc hRV hS hZ
    generalize o + 1 + 9 * y.1 = q at *
    rcases dkV_cases (pieceF b y) with ⟨hv, hq⟩ | ⟨p, hv, hq⟩
    · rw [show dkL (pieceF b y) = .returned (.tuple #[.agg #[.int .i64 0, .int .i64 0, .string (str [])], .int .i64 2]) from hq] at HD
      replace HD := Lib.hid HD
      replace hv := Lib.hid hv
      clear hq
      gi_wp2_with (refine ⟨trivial, ?_⟩; gi_at_call 46; refine (CallsIn.inRound l (callsIn_wide.2 (HD.out _ hpH.out))).mono ?_; rintro e w4 ⟨rfl, b4⟩)
      have hk := (Keeps.of_below (S := fun _ => False) b4).alloc (.cells #[.int .i64 0, .int .i64 0, .string (str [])] 51)
      exact ⟨keepsFrom_of hk (fun k hk => hk.elim), ⟨rfl, pre, y, rfl, hv.out, _, V, hX.keeps hk (fun e => e), hY.keeps hk (fun e => e), hkl.out ▸ hO.kept hk (fun _ _ e => e), Nat.le_trans hN hk.size, hV.out⟩, bl.keeps hk (fun _ _ e => e) (Nat.le_refl _)⟩
    · rw [show dkL (pieceF b y) = .returned (.tuple #[.agg #[.int .i64 p.k, .int .i64 p.n, .string (str p.s)], .int .i64 0]) from hq] at HD
      replace HD := Lib.hid HD
      replace hv := Lib.hid hv
      obtain ⟨i0, hi, hz0, hz1, hz2⟩ := info_parts info_val
      clear hq
      gi_wp2_with (first | (refine ⟨trivial, ?_⟩; gi_at_call 46; refine (CallsIn.inRound l (callsIn_wide.2 (HD.out _ hpH.out))).mono ?_; rintro e w4 ⟨rfl, b4⟩; have hk1 := Keeps.of_below (S := fun _ => False) b4; have hY4 := hY.keeps hk1 (fun e => e); have hX4 := hX.keeps hk1 (fun e => e); have hO4 := hO.kept hk1 (fun _ _ e => e); have z1 := hY4.cell 1 (v := .slice A' k c') rfl; have zl := hY4.lt) | (gi_at_builtin; refine wpListIn_append_own _ rfl _ _ 24 rfl (w.heap.size + 4) 51 i0 _ 3 32 Try.underlying24 hi hz0 hz1 hz2 rfl (by decide) _ _ _ rfl ((hO4.alloc _).alloc _) ⟨w4.heap.size + 1, 0, none⟩ 1 1 (cellsV [p]) rfl rfl (RV.one (v := p) (Blk.new2 _ _ _ _)).cells (cellsV_one _) (by have := hkl.out; unfold maxLen; omega) (by have := hkl.out; omega) (by have := hY4.lt; have := hSZ.out; have := hk1.size; simp; omega) ?_; intro v6 w6 hown6 hgrow6 _; have ho6 : VO w6 (w.heap.size + 4) v6 (V ++ [p]) := (by unfold VO; rw [cellsV_app, List.length_append]; exact hown6); obtain ⟨A6, c6, rfl, hR6⟩ := ho6.rv (k + 1) (by rw [List.length_append, hkl.out]; rfl); have hk6 := grown_keeps hgrow6; have hY6 := ((hY4.alloc _).alloc _).keeps hk6 (fun e => by have := (hO4.lt _ e).1; omega); have hX6 := ((hX4.alloc _).alloc _).keeps hk6 (fun e => by have := (hO4.lt _ e).1; omega); have q1 := hY6.cell 1 (v := .slice A' k c') rfl; have qf := hY6.fz 1; have ql := hY6.lt; clear hR6))
      have hkT := ((((Keeps.of_below (S := fun i => (Value.slice A' k c').ownBlock = some i ∨ i = w.heap.size + 1) b4).alloc _).alloc _).trans hk6 (fun i e => .inl (.inl e))).setCell (p := ⟨w.heap.size + 1, 1, none⟩) (.inl (.inr rfl)) (.slice A6 (k + 1) c6)
      have hlo := fun i e => (hO.lt i e).1
      refine ⟨keepsFrom_of hkT (fun i hi hB => ?_), fun i hi => hkT.block i (by omega) (fun e => ?_), ⟨_, V ++ [p], hX6.other (p := ⟨w.heap.size + 1, 1, none⟩) (by simp) _, hY6.set 1 _, ho6.set (p := ⟨w.heap.size + 1, 1, none⟩) (fun j hj e => by have := (ho6.lt j hj).1; simp at e; omega) _, Nat.le_trans hN hkT.size, ?_⟩, bl.keeps hkT (fun i hi e => ?_) (Nat.le_refl _)⟩
      · rcases hi with e | e
        · exact hO.isCells i e
        · have := hSZ.out; omega
      · rcases e with e | e
        · have := hlo i e; omega
        · omega
      · rw [List.map_append, List.map_append, hV.out, List.map_cons, List.map_nil, hv.out]; rfl
      · rcases e with e | e
        · have := hlo i e; omega
        · omega
  case done =>
    rintro D ys W hD rfl ⟨⟨v, V, hX, hY, hO, hN, hV⟩, bl⟩ hK
    have hVe := Lib.hid (prs_done hV)
    clear hV
    obtain ⟨A', c', rfl, hRV⟩ := hO.rv V.length rfl
    obtain ⟨k, hVl⟩ : ∃ k, V.length = k := ⟨_, rfl⟩
    rw [hVl] at hRV hO hY
    replace hVl := Lib.hid hVl
    have hPe := Lib.hid (hP.out V hVe.out)
    have HE := Lib.hid (fun w (h : RV w A' k c' V) => row_encode t A' k c' V w h)
    obtain ⟨E, hE⟩ : ∃ E, rowE ⟨t, V⟩ = E := ⟨_, rfl⟩
    obtain ⟨T, hT⟩ : ∃ T, rowT ⟨t, V⟩ = T := ⟨_, rfl⟩
    obtain ⟨tl, htl⟩ : ∃ tl, T.length = tl := ⟨_, rfl⟩
    obtain ⟨q, hq⟩ : ∃ q, (T == b) = q := ⟨_, rfl⟩
    have hres := Lib.hid (show E = 0 → q = true → decR b = (⟨t, V⟩, 0) from fun h0 h1 => by
      have hb : rowB ⟨t, V⟩ = b := by
        rw [← hq, ← hT] at h1
        unfold rowT at h1
        rw [if_pos (hE.trans h0)] at h1
        simpa using h1
      have := decR_yes (b := b) hbn (by rw [hPe.out, hE, h0]) (by rw [hPe.out]; exact hb)
      rw [this, hPe.out])
    have hres2 := Lib.hid (show ¬ (E = 0 ∧ q = true) → decR b = (⟨0, []⟩, 2) from fun hh => decR_no fun h3 => hh (by
      rw [hPe.out] at h3
      refine ⟨hE.symm.trans h3.2.1, ?_⟩
      rw [← hq, ← hT]
      unfold rowT
      rw [if_pos h3.2.1, h3.2.2]
      simp))
    rw [hE, hT] at HE
    replace htl := Lib.hid htl
    replace hq := Lib.hid hq
    replace hK := Lib.hid hK
    have y0 := hY.cell 0 (v := .int .i64 t) rfl
    have y1 := hY.cell 1 (v := .slice A' k c') rfl
    have hSZ := hsz
    clear hE hT hPe hVe
    gi_wp2_with fail
    refine ⟨trivial, ?_⟩
    refine (callsIn_wide.2 (HE.out _ hRV)).mono ?_
    rintro e w5 ⟨v5, rfl, hv5, e5⟩
    obtain ⟨A5, c5, rfl, hR5⟩ := hv5.sl tl htl.out
    replace hK := (e5.block D (Array.getElem?_eq_some_iff.1 hK.out).1).trans hK.out
    replace bl := Below.next bl e5 (Nat.le_refl _)
    replace hX := hX.below e5 hX.lt
    replace hY := hY.below e5 hY.lt
    replace hO := hO.below e5
    replace hK := Lib.hid hK
    have hlt0 := hX.lt
    have hlt1 := hY.lt
    have xf0 := hX.fz 0
    have xf1 := hX.fz 1
    have x0 := hX.cell 0 (v := .int .i64 0) rfl
    have x1 := hX.cell 1 (v := .slice none 0 0) rfl
    have z0 := hY.cell 0 (v := .int .i64 t) rfl
    have z1 := hY.cell 1 (v := .slice A' k c') rfl
    clear y0 y1 hRV
    by_cases e0 : E = 0
    rotate_left
    · have f0 : (E != 0) = true := by rw [bne_iff_ne]; exact e0
      have hd := Lib.hid (hres2.out (fun hh => e0 hh.1))
      gi_wp2
      refine ⟨trivial, ?_⟩
      gi_wp2
      replace hK := hK.out
      have hF0 := ((hX.set 0 (.int .i64 0)).set 1 (.slice none 0 0))
      have bF0 : Below w.heap.size w ((w5.setCell ⟨w.heap.size, 0, none⟩ (.int .i64 0)).setCell ⟨w.heap.size, 1, none⟩ (.slice none 0 0)) := (bl.setCell (p := ⟨w.heap.size, 0, none⟩) (Nat.le_refl _) _).setCell (p := ⟨w.heap.size, 1, none⟩) (Nat.le_refl _) _
      have hK0 : ((w5.setCell ⟨w.heap.size, 0, none⟩ (.int .i64 0)).setCell ⟨w.heap.size, 1, none⟩ (.slice none 0 0)).heap[D]? = some (.deferred (some [])) := (Below.heap_setCell _ _ _ D (by simp; omega)).trans ((Below.heap_setCell _ _ _ D (by simp; omega)).trans hK)
      generalize (w5.setCell ⟨w.heap.size, 0, none⟩ (.int .i64 0)).setCell ⟨w.heap.size, 1, none⟩ (.slice none 0 0) = WG at *
      refine ⟨by simp, .inl ⟨_, _, rfl, run_takeDeferred hK0, ?_⟩⟩
      have hF := hF0.keeps (put_keeps (o' := .deferred none) hK0) (by omega)
      have bF := bF0.keeps (put_keeps (o' := .deferred none) hK0) (fun i hi e => by omega) (Nat.le_refl _)
      generalize WG.putObj D (.deferred none) = WF at *
      have f0 := hF.cell 0 (v := .int .i64 0) rfl
      have f1 := hF.cell 1 (v := .slice none 0 0) rfl
      refine ⟨.tuple #[.agg #[.int .i64 0, .slice none 0 0], .int .i64 2], (by simp [results, Try.results14, go_sem, f0, f1]), ?_⟩
      rw [hd.out]
      exact ⟨none, 0, 0, rfl, RV.none_ _, bF⟩
    subst e0
    have HB := Lib.hid (fun w (h : RB w A5 tl c5 T) (h' : RB w (some ⟨g, o, none⟩) 37 c b) => bytes_equal A5 (some ⟨g, o, none⟩) tl c5 37 c T b w h h')
    rw [hq.out] at HB
    gi_wp2_with fail
    refine ⟨trivial, ?_⟩
    refine (callsIn_wide.2 (HB.out _ hR5 (h.below bl))).mono ?_
    rintro e w6 ⟨rfl, rfl⟩
    cases q with
    | true =>
      have hd := Lib.hid (hres.out (by first | exact rfl | trivial) (by first | exact rfl | trivial))
      gi_wp2
      replace hK := hK.out
      have hF0 := ((hX.set 0 (.int .i64 t)).set 1 (.slice A' k c'))
      have bF0 : Below w.heap.size w ((w5.setCell ⟨w.heap.size, 0, none⟩ (.int .i64 t)).setCell ⟨w.heap.size, 1, none⟩ (.slice A' k c')) := (bl.setCell (p := ⟨w.heap.size, 0, none⟩) (Nat.le_refl _) _).setCell (p := ⟨w.heap.size, 1, none⟩) (Nat.le_refl _) _
      have hO6 : VO ((w5.setCell ⟨w.heap.size, 0, none⟩ (.int .i64 t)).setCell ⟨w.heap.size, 1, none⟩ (.slice A' k c')) (w.heap.size + 4) (.slice A' k c') V := (hO.set (p := ⟨w.heap.size, 0, none⟩) (fun j hj e => by have := (hO.lt j hj).1; simp at e; omega) _).set (p := ⟨w.heap.size, 1, none⟩) (fun j hj e => by have := (hO.lt j hj).1; simp at e; omega) _
      have hK0 : ((w5.setCell ⟨w.heap.size, 0, none⟩ (.int .i64 t)).setCell ⟨w.heap.size, 1, none⟩ (.slice A' k c')).heap[D]? = some (.deferred (some [])) := (Below.heap_setCell _ _ _ D (by simp; omega)).trans ((Below.heap_setCell _ _ _ D (by simp; omega)).trans hK)
      generalize (w5.setCell ⟨w.heap.size, 0, none⟩ (.int .i64 t)).setCell ⟨w.heap.size, 1, none⟩ (.slice A' k c') = WG at *
      refine ⟨by simp, .inl ⟨_, _, rfl, run_takeDeferred hK0, ?_⟩⟩
      have hO7 := hO6.kept (put_keeps (o' := .deferred none) hK0) (fun j hj e => by
        obtain ⟨cs, ty, z, hc⟩ := hO6.isCells j hj
        subst e
        rw [hK0] at hc
        cases hc)
      have hF := hF0.keeps (put_keeps (o' := .deferred none) hK0) (by omega)
      have bF := bF0.keeps (put_keeps (o' := .deferred none) hK0) (fun i hi e => by omega) (Nat.le_refl _)
      generalize WG.putObj D (.deferred none) = WF at *
      have f0 := hF.cell 0 (v := .int .i64 t) rfl
      have f1 := hF.cell 1 (v := .slice A' k c') rfl
      refine ⟨.tuple #[.agg #[.int .i64 t, .slice A' k c'], .int .i64 0], (by simp [results, Try.results14, go_sem, f0, f1]), ?_⟩
      rw [hd.out]
      obtain ⟨A9, c9, e9, hR9⟩ := hO7.rv k hVl.out
      injection e9 with e1 _ e3
      subst e1 e3
      exact ⟨A', k, c', rfl, hR9, bF⟩
    | false =>
      have hd := Lib.hid (hres2.out (fun hh => by cases hh.2))
      gi_wp2
      replace hK := hK.out
      have hF0 := ((hX.set 0 (.int .i64 0)).set 1 (.slice none 0 0))
      have bF0 : Below w.heap.size w ((w5.setCell ⟨w.heap.size, 0, none⟩ (.int .i64 0)).setCell ⟨w.heap.size, 1, none⟩ (.slice none 0 0)) := (bl.setCell (p := ⟨w.heap.size, 0, none⟩) (Nat.le_refl _) _).setCell (p := ⟨w.heap.size, 1, none⟩) (Nat.le_refl _) _
      have hK0 : ((w5.setCell ⟨w.heap.size, 0, none⟩ (.int .i64 0)).setCell ⟨w.heap.size, 1, none⟩ (.slice none 0 0)).heap[D]? = some (.deferred (some [])) := (Below.heap_setCell _ _ _ D (by simp; omega)).trans ((Below.heap_setCell _ _ _ D (by simp; omega)).trans hK)
      generalize (w5.setCell ⟨w.heap.size, 0, none⟩ (.int .i64 0)).setCell ⟨w.heap.size, 1, none⟩ (.slice none 0 0) = WG at *
      refine ⟨by simp, .inl ⟨_, _, rfl, run_takeDeferred hK0, ?_⟩⟩
      have hF := hF0.keeps (put_keeps (o' := .deferred none) hK0) (by omega)
      have bF := bF0.keeps (put_keeps (o' := .deferred none) hK0) (fun i hi e => by omega) (Nat.le_refl _)
      generalize WG.putObj D (.deferred none) = WF at *
      have f0 := hF.cell 0 (v := .int .i64 0) rfl
      have f1 := hF.cell 1 (v := .slice none 0 0) rfl
      refine ⟨.tuple #[.agg #[.int .i64 0, .slice none 0 0], .int .i64 2], (by simp [results, Try.results14, go_sem, f0, f1]), ?_⟩
      rw [hd.out]
      exact ⟨none, 0, 0, rfl, RV.none_ _, bF⟩
  case stop =>
    rintro D cc pre W hD ⟨k, hk, rfl⟩ ⟨⟨rfl, p, y, hp, hdk, v, V, hX, hY, hO, hN, hV⟩, bl⟩ hK
    have hVe := Lib.hid (prs_stop hk hp.symm hV hdk)
    clear hV hdk hp hk
    obtain ⟨A', c', rfl, hRV⟩ := hO.rv V.length rfl
    obtain ⟨k, hVl⟩ : ∃ k, V.length = k := ⟨_, rfl⟩
    rw [hVl] at hRV hO hY
    replace hVl := Lib.hid hVl
    have hPe := Lib.hid (hP.out V hVe.out)
    have HE := Lib.hid (fun w (h : RV w A' k c' V) => row_encode t A' k c' V w h)
    obtain ⟨E, hE⟩ : ∃ E, rowE ⟨t, V⟩ = E := ⟨_, rfl⟩
    obtain ⟨T, hT⟩ : ∃ T, rowT ⟨t, V⟩ = T := ⟨_, rfl⟩
    obtain ⟨tl, htl⟩ : ∃ tl, T.length = tl := ⟨_, rfl⟩
    obtain ⟨q, hq⟩ : ∃ q, (T == b) = q := ⟨_, rfl⟩
    have hres := Lib.hid (show E = 0 → q = true → decR b = (⟨t, V⟩, 0) from fun h0 h1 => by
      have hb : rowB ⟨t, V⟩ = b := by
        rw [← hq, ← hT] at h1
        unfold rowT at h1
        rw [if_pos (hE.trans h0)] at h1
        simpa using h1
      have := decR_yes (b := b) hbn (by rw [hPe.out, hE, h0]) (by rw [hPe.out]; exact hb)
      rw [this, hPe.out])
    have hres2 := Lib.hid (show ¬ (E = 0 ∧ q = true) → decR b = (⟨0, []⟩, 2) from fun hh => decR_no fun h3 => hh (by
      rw [hPe.out] at h3
      refine ⟨hE.symm.trans h3.2.1, ?_⟩
      rw [← hq, ← hT]
      unfold rowT
      rw [if_pos h3.2.1, h3.2.2]
      simp))
    rw [hE, hT] at HE
    replace htl := Lib.hid htl
    replace hq := Lib.hid hq
    replace hK := Lib.hid hK
    have y0 := hY.cell 0 (v := .int .i64 t) rfl
    have y1 := hY.cell 1 (v := .slice A' k c') rfl
    have hSZ := hsz
    clear hE hT hPe hVe
    gi_wp2_with fail
    refine ⟨trivial, ?_⟩
    refine (callsIn_wide.2 (HE.out _ hRV)).mono ?_
    rintro e w5 ⟨v5, rfl, hv5, e5⟩
    obtain ⟨A5, c5, rfl, hR5⟩ := hv5.sl tl htl.out
    replace hK := (e5.block D (Array.getElem?_eq_some_iff.1 hK.out).1).trans hK.out
    replace bl := Below.next bl e5 (Nat.le_refl _)
    replace hX := hX.below e5 hX.lt
    replace hY := hY.below e5 hY.lt
    replace hO := hO.below e5
    replace hK := Lib.hid hK
    have hlt0 := hX.lt
    have hlt1 := hY.lt
    have xf0 := hX.fz 0
    have xf1 := hX.fz 1
    have x0 := hX.cell 0 (v := .int .i64 0) rfl
    have x1 := hX.cell 1 (v := .slice none 0 0) rfl
    have z0 := hY.cell 0 (v := .int .i64 t) rfl
    have z1 := hY.cell 1 (v := .slice A' k c') rfl
    clear y0 y1 hRV
    by_cases e0 : E = 0
    rotate_left
    · have f0 : (E != 0) = true := by rw [bne_iff_ne]; exact e0
      have hd := Lib.hid (hres2.out (fun hh => e0 hh.1))
      gi_wp2
      refine ⟨trivial, ?_⟩
      gi_wp2
      replace hK := hK.out
      have hF0 := ((hX.set 0 (.int .i64 0)).set 1 (.slice none 0 0))
      have bF0 : Below w.heap.size w ((w5.setCell ⟨w.heap.size, 0, none⟩ (.int .i64 0)).setCell ⟨w.heap.size, 1, none⟩ (.slice none 0 0)) := (bl.setCell (p := ⟨w.heap.size, 0, none⟩) (Nat.le_refl _) _).setCell (p := ⟨w.heap.size, 1, none⟩) (Nat.le_refl _) _
      have hK0 : ((w5.setCell ⟨w.heap.size, 0, none⟩ (.int .i64 0)).setCell ⟨w.heap.size, 1, none⟩ (.slice none 0 0)).heap[D]? = some (.deferred (some [])) := (Below.heap_setCell _ _ _ D (by simp; omega)).trans ((Below.heap_setCell _ _ _ D (by simp; omega)).trans hK)
      generalize (w5.setCell ⟨w.heap.size, 0, none⟩ (.int .i64 0)).setCell ⟨w.heap.size, 1, none⟩ (.slice none 0 0) = WG at *
      refine ⟨by simp, .inl ⟨_, _, rfl, run_takeDeferred hK0, ?_⟩⟩
      have hF := hF0.keeps (put_keeps (o' := .deferred none) hK0) (by omega)
      have bF := bF0.keeps (put_keeps (o' := .deferred none) hK0) (fun i hi e => by omega) (Nat.le_refl _)
      generalize WG.putObj D (.deferred none) = WF at *
      have f0 := hF.cell 0 (v := .int .i64 0) rfl
      have f1 := hF.cell 1 (v := .slice none 0 0) rfl
      refine ⟨.tuple #[.agg #[.int .i64 0, .slice none 0 0], .int .i64 2], (by simp [results, Try.results14, go_sem, f0, f1]), ?_⟩
      rw [hd.out]
      exact ⟨none, 0, 0, rfl, RV.none_ _, bF⟩
    subst e0
    have HB := Lib.hid (fun w (h : RB w A5 tl c5 T) (h' : RB w (some ⟨g, o, none⟩) 37 c b) => bytes_equal A5 (some ⟨g, o, none⟩) tl c5 37 c T b w h h')
    rw [hq.out] at HB
    gi_wp2_with fail
    refine ⟨trivial, ?_⟩
    refine (callsIn_wide.2 (HB.out _ hR5 (h.below bl))).mono ?_
    rintro e w6 ⟨rfl, rfl⟩
    cases q with
    | true =>
      have hd := Lib.hid (hres.out (by first | exact rfl | trivial) (by first | exact rfl | trivial))
      gi_wp2
      replace hK := hK.out
      have hF0 := ((hX.set 0 (.int .i64 t)).set 1 (.slice A' k c'))
      have bF0 : Below w.heap.size w ((w5.setCell ⟨w.heap.size, 0, none⟩ (.int .i64 t)).setCell ⟨w.heap.size, 1, none⟩ (.slice A' k c')) := (bl.setCell (p := ⟨w.heap.size, 0, none⟩) (Nat.le_refl _) _).setCell (p := ⟨w.heap.size, 1, none⟩) (Nat.le_refl _) _
      have hO6 : VO ((w5.setCell ⟨w.heap.size, 0, none⟩ (.int .i64 t)).setCell ⟨w.heap.size, 1, none⟩ (.slice A' k c')) (w.heap.size + 4) (.slice A' k c') V := (hO.set (p := ⟨w.heap.size, 0, none⟩) (fun j hj e => by have := (hO.lt j hj).1; simp at e; omega) _).set (p := ⟨w.heap.size, 1, none⟩) (fun j hj e => by have := (hO.lt j hj).1; simp at e; omega) _
      have hK0 : ((w5.setCell ⟨w.heap.size, 0, none⟩ (.int .i64 t)).setCell ⟨w.heap.size, 1, none⟩ (.slice A' k c')).heap[D]? = some (.deferred (some [])) := (Below.heap_setCell _ _ _ D (by simp; omega)).trans ((Below.heap_setCell _ _ _ D (by simp; omega)).trans hK)
      generalize (w5.setCell ⟨w.heap.size, 0, none⟩ (.int .i64 t)).setCell ⟨w.heap.size, 1, none⟩ (.slice A' k c') = WG at *
      refine ⟨by simp, .inl ⟨_, _, rfl, run_takeDeferred hK0, ?_⟩⟩
      have hO7 := hO6.kept (put_keeps (o' := .deferred none) hK0) (fun j hj e => by
        obtain ⟨cs, ty, z, hc⟩ := hO6.isCells j hj
        subst e
        rw [hK0] at hc
        cases hc)
      have hF := hF0.keeps (put_keeps (o' := .deferred none) hK0) (by omega)
      have bF := bF0.keeps (put_keeps (o' := .deferred none) hK0) (fun i hi e => by omega) (Nat.le_refl _)
      generalize WG.putObj D (.deferred none) = WF at *
      have f0 := hF.cell 0 (v := .int .i64 t) rfl
      have f1 := hF.cell 1 (v := .slice A' k c') rfl
      refine ⟨.tuple #[.agg #[.int .i64 t, .slice A' k c'], .int .i64 0], (by simp [results, Try.results14, go_sem, f0, f1]), ?_⟩
      rw [hd.out]
      obtain ⟨A9, c9, e9, hR9⟩ := hO7.rv k hVl.out
      injection e9 with e1 _ e3
      subst e1 e3
      exact ⟨A', k, c', rfl, hR9, bF⟩
    | false =>
      have hd := Lib.hid (hres2.out (fun hh => by cases hh.2))
      gi_wp2
      replace hK := hK.out
      have hF0 := ((hX.set 0 (.int .i64 0)).set 1 (.slice none 0 0))
      have bF0 : Below w.heap.size w ((w5.setCell ⟨w.heap.size, 0, none⟩ (.int .i64 0)).setCell ⟨w.heap.size, 1, none⟩ (.slice none 0 0)) := (bl.setCell (p := ⟨w.heap.size, 0, none⟩) (Nat.le_refl _) _).setCell (p := ⟨w.heap.size, 1, none⟩) (Nat.le_refl _) _
      have hK0 : ((w5.setCell ⟨w.heap.size, 0, none⟩ (.int .i64 0)).setCell ⟨w.heap.size, 1, none⟩ (.slice none 0 0)).heap[D]? = some (.deferred (some [])) := (Below.heap_setCell _ _ _ D (by simp; omega)).trans ((Below.heap_setCell _ _ _ D (by simp; omega)).trans hK)
      generalize (w5.setCell ⟨w.heap.size, 0, none⟩ (.int .i64 0)).setCell ⟨w.heap.size, 1, none⟩ (.slice none 0 0) = WG at *
      refine ⟨by simp, .inl ⟨_, _, rfl, run_takeDeferred hK0, ?_⟩⟩
      have hF := hF0.keeps (put_keeps (o' := .deferred none) hK0) (by omega)
      have bF := bF0.keeps (put_keeps (o' := .deferred none) hK0) (fun i hi e => by omega) (Nat.le_refl _)
      generalize WG.putObj D (.deferred none) = WF at *
      have f0 := hF.cell 0 (v := .int .i64 0) rfl
      have f1 := hF.cell 1 (v := .slice none 0 0) rfl
      refine ⟨.tuple #[.agg #[.int .i64 0, .slice none 0 0], .int .i64 2], (by simp [results, Try.results14, go_sem, f0, f1]), ?_⟩
      rw [hd.out]
      exact ⟨none, 0, 0, rfl, RV.none_ _, bF⟩
end Go.Proofs.Ytfldmejjepakeaa
/- The order of values: of two that may be one is less, or they are the same; of three it goes through. -/
namespace Go.Proofs.Ytfldmejjepakeaa
open Go.ChangeShapes Go.WideShapes Go.ChangeAt Go.RowKit
open Go.ChangeMaps (open_string shut_string)
set_option linter.unusedVariables false
set_option linter.unusedSimpArgs false
set_option maxRecDepth 100000

theorem bl_irrefl : ∀ l : List UInt8, Op.bytesLess l l = false
  | [] => by simp [Op.bytesLess]
  | a :: x => by simp [Op.bytesLess, bl_irrefl x]
theorem bl_total : ∀ l m : List UInt8, Op.bytesLess l m = false → Op.bytesLess m l = false → l = m
  | [], [], _, _ => rfl
  | [], _ :: _, h, _ => by simp [Op.bytesLess] at h
  | _ :: _, [], _, h => by simp [Op.bytesLess] at h
  | a :: x, b :: y, h, h2 => by
    simp only [Op.bytesLess, Bool.or_eq_false_iff, decide_eq_false_iff_not, Bool.and_eq_false_iff, beq_eq_false_iff_ne] at h h2
    have hab : a = b := by
      have h3 := h.1; have h4 := h2.1
      rw [UInt8.lt_iff_toNat_lt] at h3 h4
      exact UInt8.toNat_inj.1 (by omega)
    subst hab
    rw [bl_total x y (h.2.resolve_left (by simp)) (h2.2.resolve_left (by simp))]
theorem bl_asymm : ∀ l m : List UInt8, Op.bytesLess l m = true → Op.bytesLess m l = false
  | [], [], h => by simp [Op.bytesLess] at h
  | [], _ :: _, _ => by simp [Op.bytesLess]
  | _ :: _, [], h => by simp [Op.bytesLess] at h
  | a :: x, b :: y, h => by
    simp only [Op.bytesLess, Bool.or_eq_true, decide_eq_true_eq, Bool.and_eq_true, beq_iff_eq] at h
    simp only [Op.bytesLess, Bool.or_eq_false_iff, decide_eq_false_iff_not, Bool.and_eq_false_iff, beq_eq_false_iff_ne]
    rcases h with h | ⟨rfl, h⟩
    · have h3 := UInt8.lt_iff_toNat_lt.1 h
      refine ⟨fun h4 => ?_, .inl fun e => ?_⟩
      · have := UInt8.lt_iff_toNat_lt.1 h4; omega
      · subst e; omega
    · exact ⟨fun h4 => by have := UInt8.lt_iff_toNat_lt.1 h4; omega, .inr (bl_asymm x y h)⟩
theorem bl_trans : ∀ l m n : List UInt8, Op.bytesLess l m = true → Op.bytesLess m n = true → Op.bytesLess l n = true
  | [], [], _, h, _ => by simp [Op.bytesLess] at h
  | _ :: _, [], _, h, _ => by simp [Op.bytesLess] at h
  | [], _ :: _, [], _, h => by simp [Op.bytesLess] at h
  | [], _ :: _, _ :: _, _, _ => by simp [Op.bytesLess]
  | _ :: _, _ :: _, [], _, h => by simp [Op.bytesLess] at h
  | a :: x, b :: y, c :: z, h, h2 => by
    simp only [Op.bytesLess, Bool.or_eq_true, decide_eq_true_eq, Bool.and_eq_true, beq_iff_eq] at h h2 ⊢
    simp only [UInt8.lt_iff_toNat_lt] at h h2 ⊢
    rcases h with h | ⟨rfl, h⟩
    · rcases h2 with h2 | ⟨rfl, h2⟩
      · exact .inl (by omega)
      · exact .inl h
    · rcases h2 with h2 | ⟨rfl, h2⟩
      · exact .inl h2
      · exact .inr ⟨rfl, bl_trans x y z h h2⟩

theorem mayV_cases {k n : Int} {l : List UInt8} (h : mayV k n l = true) : (k = 1 ∧ l = []) ∨ (k = 2 ∧ n = 0 ∧ l.length ≤ 8) := by
  simpa [mayV] using h
theorem sameV_symm (k n : Int) (l : List UInt8) (k' n' : Int) (l' : List UInt8) : sameV k n l k' n' l' = sameV k' n' l' k n l := by
  rw [Bool.eq_iff_iff]
  simp only [sameV, Bool.and_eq_true, beq_iff_eq]
  exact ⟨fun ⟨a, b, c⟩ => ⟨a.symm, b.symm, c.symm⟩, fun ⟨a, b, c⟩ => ⟨a.symm, b.symm, c.symm⟩⟩
theorem sameV_iff (k n : Int) (l : List UInt8) (k' n' : Int) (l' : List UInt8) : sameV k n l k' n' l' = true ↔ k = k' ∧ n = n' ∧ l = l' := by
  simp [sameV]
/-- Of two that may be just one holds. -/
theorem three (k n : Int) (l : List UInt8) (k' n' : Int) (l' : List UInt8) (h : mayV k n l = true) (h' : mayV k' n' l' = true) :
    (lessV k n l k' n' l' = true ∧ lessV k' n' l' k n l = false ∧ sameV k n l k' n' l' = false) ∨
    (lessV k n l k' n' l' = false ∧ lessV k' n' l' k n l = true ∧ sameV k n l k' n' l' = false) ∨
    (lessV k n l k' n' l' = false ∧ lessV k' n' l' k n l = false ∧ sameV k n l k' n' l' = true) := by
  have hs : ∀ b, sameV k n l k' n' l' = b ↔ (decide (k = k' ∧ n = n' ∧ l = l')) = b := fun b => by
    have := sameV_iff k n l k' n' l'
    have e : sameV k n l k' n' l' = decide (k = k' ∧ n = n' ∧ l = l') := by rw [Bool.eq_iff_iff, this, decide_eq_true_eq]
    rw [e]
  rcases mayV_cases h with ⟨rfl, rfl⟩ | ⟨rfl, rfl, hl⟩ <;> rcases mayV_cases h' with ⟨rfl, rfl⟩ | ⟨rfl, rfl, hl'⟩
  · rw [hs, hs]
    simp only [lessV, if_true, decide_eq_true_eq, decide_eq_false_iff_not]
    rcases Int.lt_trichotomy n n' with h1 | h1 | h1
    · left; exact ⟨h1, by omega, fun e => by omega⟩
    · right; right; exact ⟨by omega, by omega, trivial, h1, trivial⟩
    · right; left; exact ⟨by omega, h1, fun e => by omega⟩
  · left; rw [hs]; simp [lessV]
  · right; left; rw [hs]; simp [lessV]
  · rw [hs, hs]
    simp only [lessV, if_true, decide_eq_true_eq, decide_eq_false_iff_not]
    have e : (if (2 : Int) = 1 then decide ((0 : Int) < 0) else ((2 : Int) == 2 && Op.bytesLess l l')) = Op.bytesLess l l' := by simp
    have e' : (if (2 : Int) = 1 then decide ((0 : Int) < 0) else ((2 : Int) == 2 && Op.bytesLess l' l)) = Op.bytesLess l' l := by simp
    rw [e, e']
    cases h1 : Op.bytesLess l l' with
    | true => left; exact ⟨rfl, bl_asymm l l' h1, fun e => by rw [e.2.2, bl_irrefl] at h1; cases h1⟩
    | false =>
      cases h2 : Op.bytesLess l' l with
      | true => right; left; exact ⟨rfl, rfl, fun e => by rw [e.2.2, bl_irrefl] at h2; cases h2⟩
      | false => right; right; exact ⟨rfl, rfl, trivial, trivial, bl_total l l' h1 h2⟩
theorem lessV_trans {k n : Int} {l : List UInt8} {k' n' : Int} {l' : List UInt8} {k2 n2 : Int} {l2 : List UInt8} (h : mayV k n l = true) (h' : mayV k' n' l' = true) (h2 : mayV k2 n2 l2 = true)
    (p : lessV k n l k' n' l' = true) (q : lessV k' n' l' k2 n2 l2 = true) : lessV k n l k2 n2 l2 = true := by
  rcases mayV_cases h with ⟨rfl, rfl⟩ | ⟨rfl, rfl, hl⟩ <;> rcases mayV_cases h' with ⟨rfl, rfl⟩ | ⟨rfl, rfl, hl'⟩ <;> rcases mayV_cases h2 with ⟨rfl, rfl⟩ | ⟨rfl, rfl, hl2⟩ <;> simp [lessV] at p q ⊢
  · omega
  · exact bl_trans l l' l2 p q
end Go.Proofs.Ytfldmejjepakeaa
/- Keys and texts of values: there and back. -/
namespace Go.Proofs.Ytfldmejjepakeaa
open Go.ChangeShapes Go.WideShapes Go.ChangeAt Go.RowKit
open Go.ChangeMaps (open_string shut_string)
set_option linter.unusedVariables false
set_option linter.unusedSimpArgs false
set_option maxRecDepth 100000

theorem numB_be8 (x : Int) (h0 : 0 ≤ x) (h1 : x < 18446744073709551616) : numB (be 8 x) = x := by
  obtain ⟨m, rfl⟩ := Int.eq_ofNat_of_zero_le h0
  rw [numB_be, Nat.mod_eq_of_lt (by have : (256 : Nat) ^ 8 = 18446744073709551616 := by decide
                                    omega)]
theorem wrap_u64 (n : Int) (h0 : -9223372036854775808 ≤ n) (h1 : n ≤ 9223372036854775807) : wrap64 (u64 n) = n := by
  unfold wrap64 u64
  rw [IntKind.wrap_u64]
  omega
theorem xor_low (a : Nat) (h : a < 2 ^ 63) : a ^^^ 2 ^ 63 = 2 ^ 63 + a := by
  apply Nat.eq_of_testBit_eq
  intro i
  rw [Nat.testBit_xor, Nat.testBit_two_pow]
  rcases Nat.lt_trichotomy i 63 with hi | hi | hi
  · rw [Nat.testBit_two_pow_add_gt hi, decide_eq_false (by omega), Bool.xor_false]
  · subst hi
    rw [Nat.testBit_two_pow_add_eq, Nat.testBit_lt_two_pow h]
    rfl
  · rw [Nat.testBit_lt_two_pow (Nat.lt_of_lt_of_le h (Nat.pow_le_pow_right (by omega) (by omega))), decide_eq_false (by omega), Nat.testBit_lt_two_pow]
    · rfl
    · have : 2 ^ 64 ≤ 2 ^ i := Nat.pow_le_pow_right (by omega) (by omega)
      omega
theorem xor63 (a : Nat) (h : a < 18446744073709551616) : a ^^^ 9223372036854775808 = if a < 9223372036854775808 then a + 9223372036854775808 else a - 9223372036854775808 := by
  have e : (9223372036854775808 : Nat) = 2 ^ 63 := by decide
  split
  · rename_i hlt
    rw [e] at hlt ⊢
    rw [xor_low a hlt, Nat.add_comm]
  · rename_i hge
    obtain ⟨r, rfl⟩ : ∃ r, a = 2 ^ 63 + r := ⟨a - 2 ^ 63, by omega⟩
    have hr : r < 2 ^ 63 := by omega
    rw [← xor_low r hr, e, Nat.xor_assoc, Nat.xor_self, Nat.xor_zero, xor_low r hr]
    omega
theorem sgn_is (n : Int) (h0 : -9223372036854775808 ≤ n) (h1 : n ≤ 9223372036854775807) : sgn n = n + 9223372036854775808 := by
  have hu := u64_range n
  obtain ⟨m, hm⟩ := Int.eq_ofNat_of_zero_le hu.1
  have hm2 : u64 n = if 0 ≤ n then n else n + 18446744073709551616 := by
    unfold u64
    rw [IntKind.wrap_u64]
    split <;> omega
  unfold sgn
  rw [hm]
  have := bits_xor_u64_nat m 9223372036854775808 (by omega) (by decide)
  rw [show ((9223372036854775808 : Nat) : Int) = 9223372036854775808 from rfl] at this
  rw [this, xor63 m (by omega)]
  split at hm2 <;> split <;> omega
theorem sgnV_is (x : Int) (h0 : 0 ≤ x) (h1 : x < 18446744073709551616) : sgnV x = x - 9223372036854775808 := by
  obtain ⟨m, rfl⟩ := Int.eq_ofNat_of_zero_le h0
  unfold sgnV
  have := bits_xor_u64_nat m 9223372036854775808 (by omega) (by decide)
  rw [show ((9223372036854775808 : Nat) : Int) = 9223372036854775808 from rfl] at this
  rw [this, xor63 m (by omega)]
  unfold wrap64
  split <;> omega

theorem ofNat_toNat (m : Nat) (h : m < 256) : (UInt8.ofNat m).toNat = m := by
  rw [UInt8.toNat_ofNat', Nat.mod_eq_of_lt (by exact h)]
theorem ofNat_ne (m : Nat) (h : m < 256) (z : UInt8) (hz : z.toNat ≠ m) : UInt8.ofNat m ≠ z := fun e => hz (by rw [← e, ofNat_toNat m h])
theorem fill_back (l : List UInt8) (hl : l.length ≤ 8) : (fill l 8).take l.length = l := by
  unfold fill
  rw [List.take_of_length_le hl, List.take_append_of_le_length (Nat.le_refl _), List.take_of_length_le (Nat.le_refl _)]

theorem dk_int (n : Int) (h0 : -9223372036854775808 ≤ n) (h1 : n ≤ 9223372036854775807) : dkK 1 = 1 ∧ dkN 1 (be 8 (u64 n)) = n ∧ dkS 1 (be 8 (u64 n)) = [] := by
  have hu := u64_range n
  refine ⟨if_pos rfl, ?_, if_pos rfl⟩
  unfold dkN
  rw [if_pos rfl, numB_be8 _ hu.1 hu.2, wrap_u64 n h0 h1]
theorem dk_text (l : List UInt8) (hl : l.length ≤ 8) : dkK (UInt8.ofNat (2 + l.length)) = 2 ∧ dkN (UInt8.ofNat (2 + l.length)) (fill l 8) = 0 ∧ dkS (UInt8.ofNat (2 + l.length)) (fill l 8) = l := by
  have hne := ofNat_ne (2 + l.length) (by omega) 1 (by show 1 ≠ _; omega)
  refine ⟨if_neg hne, if_neg hne, ?_⟩
  unfold dkS
  rw [if_neg hne, ofNat_toNat _ (by omega), show min (2 + l.length - 1) 9 - 1 = l.length by omega, fill_back l hl]
theorem encB_int (n : Int) : encB 1 n [] = 1 :: be 8 (u64 n) := if_pos rfl
theorem encB_text (l : List UInt8) : encB 2 0 l = UInt8.ofNat (2 + l.length) :: fill l 8 := if_neg (by decide)
/-- A text is read back. -/
theorem dkL_back (k n : Int) (l : List UInt8) (h : mayV k n l = true) (h0 : -9223372036854775808 ≤ n) (h1 : n ≤ 9223372036854775807) : dkL (encB k n l) = dkRet true k n l := by
  rcases mayV_cases h with ⟨rfl, rfl⟩ | ⟨rfl, rfl, hl⟩
  · obtain ⟨e1, e2, e3⟩ := dk_int n h0 h1
    rw [encB_int, dkL_shape 1 _ (be_length 8 _)]
    have ok : dkOk 1 (be 8 (u64 n)) = true := by
      unfold dkOk
      rw [e1, e2, e3, h, encB_int, beq_self_eq_true]
      rfl
    rw [ok, e1, e2, e3]
  · obtain ⟨e1, e2, e3⟩ := dk_text l hl
    have hne0 : (UInt8.ofNat (2 + l.length) != 0) = true := by rw [bne_iff_ne]; exact ofNat_ne (2 + l.length) (by omega) 0 (by show 0 ≠ _; omega)
    rw [encB_text, dkL_shape _ _ (fill_length l 8)]
    have ok : dkOk (UInt8.ofNat (2 + l.length)) (fill l 8) = true := by
      unfold dkOk
      rw [e1, e2, e3, h, encB_text, hne0, beq_self_eq_true]
      rfl
    rw [ok, e1, e2, e3]
theorem pk_int (n : Int) (h0 : -9223372036854775808 ≤ n) (h1 : n ≤ 9223372036854775807) : pkK 0 = 1 ∧ pkN (be 8 (sgn n)) 0 = n ∧ pkS (be 8 (sgn n)) 0 = [] := by
  have hs := sgn_range n
  refine ⟨if_pos rfl, ?_, if_pos rfl⟩
  unfold pkN
  rw [if_pos rfl, numB_be8 _ hs.1 hs.2, sgnV_is _ hs.1 hs.2, sgn_is n h0 h1, Int.add_sub_cancel]
theorem pk_text (l : List UInt8) (hl : l.length ≤ 8) : pkK (UInt8.ofNat (l.length + 1)) = 2 ∧ pkN (fill l 8) (UInt8.ofNat (l.length + 1)) = 0 ∧ pkS (fill l 8) (UInt8.ofNat (l.length + 1)) = l := by
  have hne := ofNat_ne (l.length + 1) (by omega) 0 (by show 0 ≠ _; omega)
  refine ⟨if_neg hne, if_neg hne, ?_⟩
  unfold pkS
  rw [if_neg hne, ofNat_toNat _ (by omega), show min (l.length + 1) 9 - 1 = l.length by omega, fill_back l hl]
theorem pk_all (k n : Int) (l : List UInt8) (h : mayV k n l = true) (h0 : -9223372036854775808 ≤ n) (h1 : n ≤ 9223372036854775807) : pkK (keyL k l) = k ∧ pkN (keyM k n l) (keyL k l) = n ∧ pkS (keyM k n l) (keyL k l) = l := by
  rcases mayV_cases h with ⟨rfl, rfl⟩ | ⟨rfl, rfl, hl⟩
  · have e : keyL 1 [] = 0 := if_pos rfl
    have e2 : keyM 1 n [] = be 8 (sgn n) := if_pos rfl
    rw [e, e2]; exact pk_int n h0 h1
  · have e : keyL 2 l = UInt8.ofNat (l.length + 1) := if_neg (by decide)
    have e2 : keyM 2 0 l = fill l 8 := if_neg (by decide)
    rw [e, e2]; exact pk_text l hl
theorem tab_ok (m : Nat) (hm : m < 4) : tabB m = true := by simp [tabB]; omega
theorem keyB_is (m : Nat) (k n : Int) (l : List UInt8) : keyB m k n l = UInt8.ofNat m :: (keyM k n l ++ [keyL k l]) := by unfold keyB; rw [Int.toNat_natCast]
/-- A key is read back. -/
theorem pkL_back (m : Nat) (k n : Int) (l : List UInt8) (hm : m < 4) (h : mayV k n l = true) (h0 : -9223372036854775808 ≤ n) (h1 : n ≤ 9223372036854775807) : pkL (keyB m k n l) = pkRet true (UInt8.ofNat m) k n l := by
  have ht : (((UInt8.ofNat m).toNat : Nat) : Int) = m := by rw [ofNat_toNat m (by omega)]
  obtain ⟨e1, e2, e3⟩ := pk_all k n l h h0 h1
  rw [keyB_is, pkL_shape _ _ _ (keyM_length k n l)]
  have ok : pkOk (UInt8.ofNat m) (keyM k n l) (keyL k l) = true := by
    unfold pkOk
    rw [e1, e2, e3, h, ht, tab_ok m hm, keyB_is, beq_self_eq_true]
    rfl
  rw [ok, e1, e2, e3]
end Go.Proofs.Ytfldmejjepakeaa
/- A row's text is read back; oublaw16.first. -/
namespace Go.Proofs.Ytfldmejjepakeaa
open Go.ChangeShapes Go.WideShapes Go.ChangeAt Go.RowKit
open Go.ChangeMaps (open_string shut_string)
set_option linter.unusedVariables false
set_option linter.unusedSimpArgs false
set_option maxRecDepth 100000
open Go.Deep

theorem str_inj {a b : List UInt8} (h : str a = str b) : a = b := by rw [← str_list a, h, str_list]
theorem dkV_back {v : ValR} (h : mayVR v = true) (hn : N64 v.n) : dkV (encVR v) = some v := by
  have hb := dkL_back v.k v.n v.s h hn.1 hn.2
  rcases dkV_cases (encVR v) with ⟨_, e⟩ | ⟨u, e1, e⟩
  · have : dkRet false 0 0 [] = dkRet true v.k v.n v.s := e.symm.trans hb
    simp [dkRet] at this
  · have : dkRet true u.k u.n u.s = dkRet true v.k v.n v.s := e.symm.trans hb
    simp [dkRet] at this
    obtain ⟨a, b, c⟩ := this
    rw [e1]
    obtain ⟨k, n, s⟩ := v
    obtain ⟨k', n', s'⟩ := u
    simp only at a b c
    rw [a, b, str_inj c]
theorem prs_back : ∀ (V : List ValR) (m : Nat) (Z : List UInt8), (∀ v ∈ V, mayVR v = true ∧ N64 v.n) → V.length ≤ m → prsV m (bytesV V ++ Z) = V ++ prsV (m - V.length) Z := by
  intro V
  induction V with
  | nil => intro m Z _ _; rfl
  | cons v V ih =>
    intro m Z h hl
    obtain ⟨m, rfl⟩ : ∃ m', m = m' + 1 := ⟨m - 1, by simp at hl; omega⟩
    obtain ⟨h1, h2⟩ := h v (by simp)
    have e9 := encVR_len h1
    have eb : bytesV (v :: V) ++ Z = encVR v ++ (bytesV V ++ Z) := by unfold bytesV; rw [List.flatMap_cons, List.append_assoc]
    rw [eb, prsV_some (v := v) (by rw [List.take_left' e9]; exact dkV_back h1 h2), List.drop_left' e9, ih m Z (fun c hc => h c (by simp [hc])) (by simp at hl; omega)]
    simp only [List.cons_append, List.length_cons]
    rw [show m + 1 - (V.length + 1) = m - V.length by omega]
theorem prs_zero (m k : Nat) : prsV m (zr k) = [] := by
  refine prsV_none (dkV_zero _ ?_)
  unfold zr
  rw [List.take_replicate, List.getD_eq_getElem?_getD, List.getElem?_replicate]
  split <;> rfl
theorem rowP_back {r : RowR} (h : rowE r = 0) (hn : ∀ v ∈ r.V, N64 v.n) : rowP (rowB r) = r := by
  obtain ⟨⟨t0, t1, n0, n1⟩, hv⟩ := rowE_zero h
  obtain ⟨t, V⟩ := r
  unfold rowP rowB
  simp only at t0 t1 n0 n1 hv ⊢
  rw [List.drop_succ_cons, List.drop_zero, prs_back V 4 _ (fun v hc => ⟨hv v hc, hn v hc⟩) n1, prs_zero, List.append_nil, List.getD_cons_zero]
  congr 1
  rw [UInt8.toNat_ofNat']
  omega
theorem decR_back {r : RowR} (h : rowE r = 0) (hn : ∀ v ∈ r.V, N64 v.n) : decR (rowT r) = (r, 0) := by
  have hl := rowT_len h
  have e : rowT r = rowB r := if_pos h
  rw [e] at hl ⊢
  have hp := rowP_back h hn
  rw [decR_yes hl (by rw [hp]; exact h) (by rw [hp]), hp]
theorem allV_self : ∀ V : List ValR, allV V V = true := by
  intro V
  refine allV_yes rfl (fun i a b _ ha hb => ?_)
  rw [ha] at hb
  injection hb with hb
  subst hb
  exact same1V_iff.2 rfl
theorem sameR_self (r : RowR) : sameR r r = true := by
  unfold sameR
  rw [allV_self, beq_self_eq_true]
  rfl
def r16 : RowR := ⟨0, [⟨1, 5, []⟩]⟩
theorem r16_ok : rowE r16 = 0 := by decide
theorem r16_back : decR (rowT r16) = (r16, 0) := decR_back r16_ok (fun v hv => by simp [r16] at hv; subst hv; exact ⟨by decide, by decide⟩)
theorem r16_same : sameR r16 r16 = true := by decide
theorem zr37 : decR (zr 37) = (⟨0, []⟩, 2) := decR_fell (e := 1) (by
  have : rowP (zr 37) = ⟨-1, []⟩ := by
    unfold rowP
    rw [show (zr 37).drop 1 = zr 36 from rfl, prs_zero]
    rfl
  rw [this]
  rfl) (by decide)
end Go.Proofs.Ytfldmejjepakeaa
/- oublaw16.first. -/
namespace Go.Proofs.Ytfldmejjepakeaa
open Go.ChangeShapes Go.WideShapes Go.ChangeAt Go.RowKit
open Go.ChangeMaps (open_string shut_string)
set_option linter.unusedVariables false
set_option linter.unusedSimpArgs false
set_option maxRecDepth 100000
open Go.Deep

theorem r16_text : ∃ T, rowT r16 = T ∧ T.length = 37 ∧ T[0]? = some 1 ∧ T[1]? = some 1 ∧ T[9]? = some 5 ∧ T[10]? = some 0 :=
  ⟨_, rfl, rowT_len r16_ok, by decide, by decide, by decide, by decide⟩
theorem run_mk37 (w : World) : (Instr.makeSlice 22 (.int .i64 37) (.int .i64 37)).run Try.prog w = .ok (.slice (some ⟨w.heap.size, 0, none⟩) 37 37) (w.alloc (.cells (bcells (zr 37)) 5)) := run_mk w 37 (by omega)
set_option maxHeartbeats 4000000 in
theorem first16_any (w : World) : Calls Try.prog 13 #[] w fun e w' => e = .returned (.bool true) ∧ Below w.heap.size w w' := by
  obtain ⟨T, hT, hl, t0, t1, t9, t10⟩ := r16_text
  have HE : Hid (∀ (g : Nat) w, RV w (some ⟨g, 0, none⟩) 1 1 r16.V → Calls Try.prog 18 #[.agg #[.int .i64 0, .slice (some ⟨g, 0, none⟩) 1 1]] w fun e w' => ∃ v, e = .returned (.tuple #[v, .int .i64 0]) ∧ RBv w' v T ∧ Below w.heap.size w w') :=
    Lib.hid (fun g w h => by have := row_encode 0 (some ⟨g, 0, none⟩) 1 1 r16.V w h; rw [show rowE ⟨0, r16.V⟩ = 0 from r16_ok, show rowT ⟨0, r16.V⟩ = T from hT] at this; exact this)
  have HD : Hid (∀ A c w, RB w A 37 c T → Calls Try.prog 14 #[.slice A 37 c] w fun e w' => ∃ A' n' c', e = .returned (.tuple #[.agg #[.int .i64 0, .slice A' n' c'], .int .i64 0]) ∧ RV w' A' n' c' r16.V ∧ Below w.heap.size w w') :=
    Lib.hid (fun A c w h => by have := row_decode A 37 c T w h (by omega); rw [← hT, r16_back] at this; exact this)
  have HZ : Hid (∀ A w, RB w A 37 37 (zr 37) → Calls Try.prog 14 #[.slice A 37 37] w fun e w' => ∃ A' n' c', e = .returned (.tuple #[.agg #[.int .i64 0, .slice A' n' c'], .int .i64 2]) ∧ RV w' A' n' c' [] ∧ Below w.heap.size w w') :=
    Lib.hid (fun A w h => by have := row_decode A 37 37 (zr 37) w h (by omega); rw [zr37] at this; exact this)
  have HS : Hid (∀ A n c A2 n2 c2 w, RV w A n c r16.V → RV w A2 n2 c2 r16.V → Calls Try.prog 19 #[.agg #[.int .i64 0, .slice A n c], .agg #[.int .i64 0, .slice A2 n2 c2]] w fun e w' => e = .returned (.bool true) ∧ Below w.heap.size w w') :=
    Lib.hid (fun A n c A2 n2 c2 w h h2 => row_same 0 A n c r16.V 0 A2 n2 c2 r16.V true w h h2 r16_same)
  have hB1 := Blk.new w #[.int .i64 1, .int .i64 5, .string (str [])] 51
  have hB2 := Blk.new2 w (.cells #[.int .i64 1, .int .i64 5, .string (str [])] 51) #[.int .i64 0, .slice (some ⟨w.heap.size, 0, none⟩) 1 1] 26
  have bl : Below w.heap.size w ((w.alloc (.cells #[.int .i64 1, .int .i64 5, .string (str [])] 51)).alloc (.cells #[.int .i64 0, .slice (some ⟨w.heap.size, 0, none⟩) 1 1] 26)) := (by repeat (first | exact Below.refl _ _ | assumption | apply below_drewN' | apply Below.drew | refine Below.alloc ?_ (by first | omega | (simp; done) | (simp; omega)) _ | refine Below.setCell ?_ (by first | omega | (simp; done) | (simp; omega)) _))
  have hV := Lib.hid (RV.one (v := ⟨1, 5, []⟩) (hB1.alloc (.cells #[.int .i64 0, .slice (some ⟨w.heap.size, 0, none⟩) 1 1] 26)))
  have hmk := run_mk37
  replace hl := Lib.hid hl
  clear hT hB1
  go_enter Try.func13, Try.ntmps13
  go_wp2_with fail
  refine (HE.out _ _ hV.out).mono ?_
  rintro e w2 ⟨v2, rfl, hv2, e2⟩
  obtain ⟨A2, c2, rfl, hR2⟩ := hv2.sl 37 hl.out
  have hV2 := Lib.hid (hV.out.below e2)
  replace bl := Below.next bl e2 (Nat.le_refl _)
  replace hB2 := hB2.below e2 (by simp)
  clear e2
  go_wp2_with fail
  refine (HD.out _ _ _ hR2).mono ?_
  rintro e w3 ⟨A3, n3, c3, rfl, hR3, e3⟩
  have hV3 := Lib.hid (hV2.out.below e3)
  replace bl := Below.next bl e3 (Nat.le_refl _)
  replace hB2 := hB2.below e3 hB2.lt
  have hR2b := hR2.below e3
  clear hR2 e3
  have hM := Blk.new2 w3 (.cells #[.int .i64 0, .slice A3 n3 c3] 26) (bcells (zr 37)) 5
  have hX3 := (Blk.new w3 #[.int .i64 0, .slice A3 n3 c3] 26).alloc (.cells (bcells (zr 37)) 5)
  have hMR := Lib.hid (show RB ((w3.alloc (.cells #[.int .i64 0, .slice A3 n3 c3] 26)).alloc (.cells (bcells (zr 37)) 5)) (some ⟨w3.heap.size + 1, 0, none⟩) 37 37 (zr 37) from by have := RB.of_row hM (by decide); exact this)
  go_wp2_with fail
  refine (HZ.out _ _ hMR.out).mono ?_
  rintro e w4 ⟨A4, n4, c4, rfl, _, e4⟩
  have bm : Below w3.heap.size w3 ((w3.alloc (.cells #[.int .i64 0, .slice A3 n3 c3] 26)).alloc (.cells (bcells (zr 37)) 5)) := (by repeat (first | exact Below.refl _ _ | assumption | apply below_drewN' | apply Below.drew | refine Below.alloc ?_ (by first | omega | (simp; done) | (simp; omega)) _ | refine Below.setCell ?_ (by first | omega | (simp; done) | (simp; omega)) _))
  have b4 := Below.next bm e4 (Nat.le_refl _)
  have hX4 := hX3.below e4 hX3.lt
  replace hB2 := hB2.below b4 hB2.lt
  have b5 := b4.alloc b4.size (.cells #[.int .i64 0, .slice A4 n4 c4] 26)
  have hR2c := hR2b.below b5
  have hV5 := Lib.hid (hV3.out.below b5)
  have hR5 := Lib.hid (hR3.below b5)
  replace bl := Below.next bl b5 (Nat.le_refl _)
  obtain ⟨g2, o2, rfl, hc⟩ := hR2c.at_ (by omega)
  have d0 : (w4.alloc (.cells #[.int .i64 0, .slice A4 n4 c4] 26)).cell? ⟨g2, o2, none⟩ = some (.int .u8 1) := hc 0 1 t0
  have d1 : (w4.alloc (.cells #[.int .i64 0, .slice A4 n4 c4] 26)).cell? ⟨g2, o2 + 1, none⟩ = some (.int .u8 1) := hc 1 1 t1
  have d9 : (w4.alloc (.cells #[.int .i64 0, .slice A4 n4 c4] 26)).cell? ⟨g2, o2 + 9, none⟩ = some (.int .u8 5) := hc 9 5 t9
  have d10 : (w4.alloc (.cells #[.int .i64 0, .slice A4 n4 c4] 26)).cell? ⟨g2, o2 + 10, none⟩ = some (.int .u8 0) := hc 10 0 t10
  have hB5 := hB2.alloc (.cells #[.int .i64 0, .slice A4 n4 c4] 26)
  have hX5 := hX4.alloc (.cells #[.int .i64 0, .slice A4 n4 c4] 26)
  have p0 := hB5.cell 0 (v := .int .i64 0) rfl
  have p1 := hB5.cell 1 (v := .slice (some ⟨w.heap.size, 0, none⟩) 1 1) rfl
  have q0 := hX5.cell 0 (v := .int .i64 0) rfl
  have q1 := hX5.cell 1 (v := .slice A3 n3 c3) rfl
  clear hc hR2c hR2b hX3 hX4 hB2 hM bm b4 b5 e4 hB5 hX5 t0 t1 t9 t10
  go_wp2_with fail
  refine (HS.out _ _ _ _ _ _ _ hR5.out hV5.out).mono ?_
  rintro e w6 ⟨rfl, e6⟩
  replace bl := Below.next bl e6 (Nat.le_refl _)
  go_wp2
  go_ret
  exact ⟨rfl, bl⟩
end Go.Proofs.Ytfldmejjepakeaa
/- RowReads: the walk. -/
namespace Go.Proofs.Ytfldmejjepakeaa
open Go.ChangeShapes Go.WideShapes Go.ChangeAt Go.RowKit
open Go.ChangeMaps (open_string shut_string)
set_option linter.unusedVariables false
set_option linter.unusedSimpArgs false
set_option maxRecDepth 100000
open Go.Deep

set_option maxHeartbeats 4000000 in
theorem reads16 (A : Option Addr) (n c : Nat) (b : List UInt8) (w : World) (h : RB w A n c b) :
    Calls Try.prog 3 #[.slice A n c] w fun e w' => e = .returned (.bool true) ∧ Below w.heap.size w w' := by
  have hnm : n ≤ maxLen := Nat.le_trans h.cap h.max
  unfold maxLen at hnm
  go_enter Try.func3, Try.ntmps3
  go_wp2_with fail
  refine (first16_any _).mono ?_
  rintro e w2 ⟨rfl, bl⟩
  by_cases hn : 1000 < n
  · have hn2 : (1000 : Int) < (n : Int) := by omega
    (go_wp2_with fail; refine (first16_any _).mono ?_; rintro e w9 ⟨rfl, b9⟩; go_wp2; go_ret; exact ⟨rfl, Below.next bl b9 (Nat.le_refl _)⟩)
  have hn2 : ¬ (1000 : Int) < (n : Int) := by omega
  have H1 := Lib.hid (fun w h => row_decode A n c b w h (by omega))
  have H2 := Lib.hid (fun w h => ref_decR A n c b w h (by omega))
  generalize (decR b).2 = E at *
  obtain ⟨t, V, htv⟩ : ∃ t V, (decR b).1 = ⟨t, V⟩ := ⟨_, _, rfl⟩
  rw [htv] at H1 H2
  clear htv
  go_wp2_with fail
  refine (H1.out _ (h.below bl)).mono ?_
  rintro e w5 ⟨A1, m1, c1, rfl, hR1, e3⟩
  replace bl := Below.next bl e3 (Nat.le_refl _)
  have hX := Blk.new w5 #[.int .i64 t, .slice A1 m1 c1] 26
  have ba : Below w5.heap.size w5 (w5.alloc (.cells #[.int .i64 t, .slice A1 m1 c1] 26)) := (by repeat (first | exact Below.refl _ _ | assumption | apply below_drewN' | apply Below.drew | refine Below.alloc ?_ (by first | omega | (simp; done) | (simp; omega)) _ | refine Below.setCell ?_ (by first | omega | (simp; done) | (simp; omega)) _))
  have hR1a := hR1.below ba
  have bla := Below.next bl ba (Nat.le_refl _)
  clear e3 ba hR1
  go_wp2_with fail
  refine (H2.out _ (h.below bla)).mono ?_
  rintro e w6 ⟨A2, m2, c2, rfl, hR2, e3⟩
  replace bla := Below.next bla e3 (Nat.le_refl _)
  replace hR1a := hR1a.below e3
  replace hX := hX.below e3 hX.lt
  have hY := Blk.new w6 #[.int .i64 t, .slice A2 m2 c2] 26
  have ba : Below w6.heap.size w6 (w6.alloc (.cells #[.int .i64 t, .slice A2 m2 c2] 26)) := (by repeat (first | exact Below.refl _ _ | assumption | apply below_drewN' | apply Below.drew | refine Below.alloc ?_ (by first | omega | (simp; done) | (simp; omega)) _ | refine Below.setCell ?_ (by first | omega | (simp; done) | (simp; omega)) _))
  replace hR1a := hR1a.below ba
  replace hR2 := hR2.below ba
  replace hX := hX.below ba hX.lt
  replace bla := Below.next bla ba (Nat.le_refl _)
  have H4 := Lib.hid (fun w (h : RV w A1 m1 c1 V) (h2 : RV w A2 m2 c2 V) => ref_row t A1 m1 c1 V t A2 m2 c2 V true w h h2 (sameR_self _))
  go_wp2_with fail
  refine (first16_any _).mono ?_
  rintro e w7 ⟨rfl, e7⟩
  replace hR1a := hR1a.below e7
  replace hR2 := hR2.below e7
  replace hX := hX.below e7 hX.lt
  replace hY := hY.below e7 hY.lt
  replace bla := Below.next bla e7 (Nat.le_refl _)
  have x0 := hX.cell 0 (v := .int .i64 t) rfl
  have x1 := hX.cell 1 (v := .slice A1 m1 c1) rfl
  have y0 := hY.cell 0 (v := .int .i64 t) rfl
  have y1 := hY.cell 1 (v := .slice A2 m2 c2) rfl
  go_wp2_with fail
  refine (H4.out _ hR1a hR2).mono ?_
  rintro e w8 ⟨rfl, e8⟩
  replace bla := Below.next bla e8 (Nat.le_refl _)
  go_wp2
  go_ret
  exact ⟨rfl, bla⟩
end Go.Proofs.Ytfldmejjepakeaa
/- oublaw16.Few. -/
namespace Go.Proofs.Ytfldmejjepakeaa
open Go.ChangeShapes Go.WideShapes Go.ChangeAt Go.RowKit
open Go.ChangeMaps (open_string shut_string)
set_option linter.unusedVariables false
set_option linter.unusedSimpArgs false
set_option maxRecDepth 100000
open Go.Deep

def FewB (e : Ending) : Prop := ∃ b, e = .returned (.bool b)
theorem FewB.ok (b : Bool) : FewB (.returned (.bool b)) := ⟨_, rfl⟩
set_option maxHeartbeats 4000000 in
theorem few16_any (A : Option Addr) (n c : Nat) (R : List RowR) (w : World) (h : RR w A n c R) : Calls Try.prog 17 #[.slice A n c] w fun e w' => FewB e ∧ Below w.heap.size w w' := by
  have hnm : n ≤ maxLen := Nat.le_trans h.cap h.max
  unfold maxLen at hnm
  have hLn := h.len
  go_enter Try.func17, Try.ntmps17
  go_wp2
  go_loopw [3, 4] (fun s i wr => ∃ (k : Nat) (m : Int), k ≤ n ∧ k ≤ 100 ∧ s = .int .i64 m ∧ i = .int .i64 k ∧ wr = w) (fun s i _ => 101 - (intOf i).toNat)
  case atStart => exact ⟨0, 0, by omega, by omega, rfl, rfl, rfl⟩
  case round =>
    obtain ⟨k, m, hk, hk2, rfl, rfl, rfl⟩ := hrel
    by_cases h1 : k < n
    · by_cases h2 : k < 100
      · obtain ⟨q, hq⟩ : ∃ q, R[k]? = some q := ⟨_, List.getElem?_eq_getElem (by omega)⟩
        obtain ⟨g, o, rfl, hc⟩ := h.at_ (by omega)
        obtain ⟨B, mm, kk, hE, hc0, hc1⟩ := hc k q hq
        have hmm : mm ≤ maxLen := Nat.le_trans hE.cap hE.max
        unfold maxLen at hmm
        have hEl := hE.len
        clear hc hq
        go_wp2
        go_loopw [3, 5] (fun s i wq => ∃ (j : Nat) (m : Int), j ≤ mm ∧ j ≤ 100 ∧ s = .int .i64 m ∧ i = .int .i64 j ∧ wq = wr) (fun s i _ => 101 - (intOf i).toNat)
        case atStart => exact ⟨0, m, by omega, by omega, rfl, rfl, rfl⟩
        case round =>
          obtain ⟨j, m, hj, hj2, rfl, rfl, rfl⟩ := hrel
          by_cases h3 : j < mm
          · by_cases h4 : j < 100
            · obtain ⟨p, hp⟩ : ∃ p, q.V[j]? = some p := ⟨_, List.getElem?_eq_getElem (by omega)⟩
              obtain ⟨g2, o2, rfl, hd⟩ := hE.at_ (by omega)
              obtain ⟨d0, d1, d2⟩ := hd j p hp
              clear hd hp
              go_wp2
              go_roundw
              case rel => exact ⟨j + 1, _, by omega, by omega, rfl, by go_num, trivial⟩
              case measure => simp [intOf]; omega
            · have h5 : 100 < (mm : Int) := by omega
              go_wp2
              go_ret
              exact ⟨FewB.ok _, Below.refl _ _⟩
          · have h5 : ¬ 100 < (mm : Int) := by omega
            go_wp2
            go_roundw
            case rel => exact ⟨k + 1, _, by omega, by omega, rfl, by go_num, trivial⟩
            case measure => simp [intOf]; omega
      · go_wp2
        go_ret
        exact ⟨FewB.ok _, Below.refl _ _⟩
    · go_wp2
      go_ret
      exact ⟨FewB.ok _, Below.refl _ _⟩
end Go.Proofs.Ytfldmejjepakeaa
/- RowBack: the walk. -/
namespace Go.Proofs.Ytfldmejjepakeaa
open Go.ChangeShapes Go.WideShapes Go.ChangeAt Go.RowKit
open Go.ChangeMaps (open_string shut_string)
set_option linter.unusedVariables false
set_option linter.unusedSimpArgs false
set_option maxRecDepth 100000
open Go.Deep

theorem RR.two {W : World} {g ty : Nat} {t1 t2 : Int} {A1 A2 : Option Addr} {n1 c1 n2 c2 : Nat} {V1 V2 : List ValR} (h : Blk W g #[.int .i64 t1, .slice A1 n1 c1, .int .i64 t2, .slice A2 n2 c2] ty) (h1 : RV W A1 n1 c1 V1) (h2 : RV W A2 n2 c2 V2) : RR W (some ⟨g, 0, none⟩) 2 2 [⟨t1, V1⟩, ⟨t2, V2⟩] := by
  refine ⟨rfl, Nat.le_refl _, (by decide), (fun h => by cases h), fun _ => ⟨g, 0, rfl, fun i q hq => ?_⟩⟩
  match i with
  | 0 => simp at hq; subst hq; exact ⟨A1, n1, c1, h1, h.cell 0 rfl, h.cell 1 rfl⟩
  | 1 => simp at hq; subst hq; exact ⟨A2, n2, c2, h2, h.cell 2 rfl, h.cell 3 rfl⟩
  | i + 2 => simp at hq
theorem RR.one {W : World} {g ty : Nat} {t1 : Int} {A1 : Option Addr} {n1 c1 : Nat} {V1 : List ValR} (h : Blk W g #[.int .i64 t1, .slice A1 n1 c1] ty) (h1 : RV W A1 n1 c1 V1) : RR W (some ⟨g, 0, none⟩) 1 1 [⟨t1, V1⟩] := by
  refine ⟨rfl, Nat.le_refl _, (by decide), (fun h => by cases h), fun _ => ⟨g, 0, rfl, fun i q hq => ?_⟩⟩
  match i with
  | 0 => simp at hq; subst hq; exact ⟨A1, n1, c1, h1, h.cell 0 rfl, h.cell 1 rfl⟩
  | i + 1 => simp at hq
theorem sameR_iff {a b : RowR} : sameR a b = true ↔ a = b := by
  constructor
  · intro h
    unfold sameR at h
    rw [Bool.and_eq_true, beq_iff_eq, allV_iff] at h
    obtain ⟨t, V⟩ := a
    obtain ⟨t', V'⟩ := b
    simp only at h
    rw [h.1, h.2]
  · rintro rfl
    exact sameR_self a
/-- Two rows of one text are alike. -/
theorem rowT_inj {a b : RowR} (ha : rowE a = 0) (hb : rowE b = 0) (na : ∀ v ∈ a.V, N64 v.n) (nb : ∀ v ∈ b.V, N64 v.n) : (rowT a == rowT b) = sameR a b := by
  rw [Bool.eq_iff_iff, beq_iff_eq, sameR_iff]
  constructor
  · intro h
    have h1 := decR_back ha na
    rw [h, decR_back hb nb] at h1
    injection h1 with h1
    exact h1.symm
  · intro h; rw [h]
/-- What is read has a text: the bytes; or nothing is read. -/
theorem decR_cases (b : List UInt8) : (∃ r, decR b = (r, 0) ∧ rowE r = 0 ∧ rowT r = b) ∨ decR b = (⟨0, []⟩, 2) := by
  unfold decR
  split
  · rename_i h
    exact .inl ⟨_, rfl, h.2.1, by unfold rowT; rw [if_pos h.2.1, h.2.2]⟩
  · exact .inr rfl
set_option maxHeartbeats 8000000 in
theorem back16 (t1 : Int) (A1 : Option Addr) (n1 c1 : Nat) (V1 : List ValR) (t2 : Int) (A2 : Option Addr) (n2 c2 : Nat) (V2 : List ValR) (A3 : Option Addr) (n3 c3 : Nat) (b : List UInt8) (w : World) (h1 : RV w A1 n1 c1 V1) (h2 : RV w A2 n2 c2 V2) (h3 : RB w A3 n3 c3 b) (r1 : ∀ v ∈ V1, N64 v.n) (r2 : ∀ v ∈ V2, N64 v.n) :
    Calls Try.prog 4 #[.agg #[.int .i64 t1, .slice A1 n1 c1], .agg #[.int .i64 t2, .slice A2 n2 c2], .slice A3 n3 c3] w fun e w' => e = .returned (.bool true) ∧ Below w.heap.size w w' := by
  have hnm : n3 ≤ maxLen := Nat.le_trans h3.cap h3.max
  unfold maxLen at hnm
  have hA := (Blk.new w #[.int .i64 t1, .slice A1 n1 c1] 26).alloc (.cells #[.int .i64 t2, .slice A2 n2 c2] 26)
  have hC := Blk.new2 w (.cells #[.int .i64 t1, .slice A1 n1 c1] 26) #[.int .i64 t2, .slice A2 n2 c2] 26
  have bl : Below w.heap.size w ((w.alloc (.cells #[.int .i64 t1, .slice A1 n1 c1] 26)).alloc (.cells #[.int .i64 t2, .slice A2 n2 c2] 26)) := (by repeat (first | exact Below.refl _ _ | assumption | apply below_drewN' | apply Below.drew | refine Below.alloc ?_ (by first | omega | (simp; done) | (simp; omega)) _ | refine Below.setCell ?_ (by first | omega | (simp; done) | (simp; omega)) _))
  have hinj := Lib.hid (fun ha hb => rowT_inj (a := ⟨t1, V1⟩) (b := ⟨t2, V2⟩) ha hb r1 r2)
  have hbk := Lib.hid (fun ha => decR_back (r := ⟨t1, V1⟩) ha r1)
  go_enter Try.func4, Try.ntmps4
  go_wp2_with fail
  refine (first16_any _).mono ?_
  rintro e w2 ⟨rfl, e3⟩
  replace bl := Below.next bl e3 (Nat.le_refl _)
  replace hA := hA.below e3 hA.lt
  replace hC := hC.below e3 hC.lt
  clear e3
  have aq0 := hA.cell 0 (v := .int .i64 t1) rfl
  have aq1 := hA.cell 1 (v := .slice A1 n1 c1) rfl
  have cq0 := hC.cell 0 (v := .int .i64 t2) rfl
  have cq1 := hC.cell 1 (v := .slice A2 n2 c2) rfl
  have hG := Blk.new w2 #[.int .i64 t1, .slice A1 n1 c1, .int .i64 t2, .slice A2 n2 c2] 26
  have bg : Below w2.heap.size w2 (w2.alloc (.cells #[.int .i64 t1, .slice A1 n1 c1, .int .i64 t2, .slice A2 n2 c2] 26)) := (by repeat (first | exact Below.refl _ _ | assumption | apply below_drewN' | apply Below.drew | refine Below.alloc ?_ (by first | omega | (simp; done) | (simp; omega)) _ | refine Below.setCell ?_ (by first | omega | (simp; done) | (simp; omega)) _))
  have hRR := Lib.hid (RR.two hG ((h1.below bl).below bg) ((h2.below bl).below bg))
  replace bl := Below.next bl bg (Nat.le_refl _)
  replace hA := hA.below bg hA.lt
  replace hC := hC.below bg hC.lt
  clear hG bg
  go_wp2_with fail
  refine (few16_any _ 2 2 _ _ hRR.out).mono ?_
  rintro e w3 ⟨⟨f, rfl⟩, e3⟩
  replace bl := Below.next bl e3 (Nat.le_refl _)
  replace hA := hA.below e3 hA.lt
  replace hC := hC.below e3 hC.lt
  clear hRR
  clear e3
  have aq0 := hA.cell 0 (v := .int .i64 t1) rfl
  have aq1 := hA.cell 1 (v := .slice A1 n1 c1) rfl
  have cq0 := hC.cell 0 (v := .int .i64 t2) rfl
  have cq1 := hC.cell 1 (v := .slice A2 n2 c2) rfl
  cases f with
  | false => (go_wp2_with fail; refine (first16_any _).mono ?_; rintro e w9 ⟨rfl, b9⟩; go_wp2; go_ret; exact ⟨rfl, Below.next bl b9 (Nat.le_refl _)⟩)
  | true =>
  by_cases hn : 1000 < n3
  · have hn2 : (1000 : Int) < (n3 : Int) := by omega
    (go_wp2_with fail; refine (first16_any _).mono ?_; rintro e w9 ⟨rfl, b9⟩; go_wp2; go_ret; exact ⟨rfl, Below.next bl b9 (Nat.le_refl _)⟩)
  have hn2 : ¬ (1000 : Int) < (n3 : Int) := by omega
  have hb3 := Lib.hid h3.len
  have H1 := Lib.hid (fun w h => row_encode t1 A1 n1 c1 V1 w h)
  have H2 := Lib.hid (fun w h => row_encode t2 A2 n2 c2 V2 w h)
  have H3 := Lib.hid (fun w h => row_decode A3 n3 c3 b w h (by omega))
  have hl1 := Lib.hid (fun h => rowT_len (r := ⟨t1, V1⟩) h)
  generalize rowE ⟨t1, V1⟩ = E1 at *
  generalize rowE ⟨t2, V2⟩ = E2 at *
  generalize rowT ⟨t1, V1⟩ = T1 at *
  generalize rowT ⟨t2, V2⟩ = T2 at *
  obtain ⟨m1, hm1⟩ : ∃ m, T1.length = m := ⟨_, rfl⟩
  obtain ⟨m2, hm2⟩ : ∃ m, T2.length = m := ⟨_, rfl⟩
  replace hm1 := Lib.hid hm1
  replace hm2 := Lib.hid hm2
  go_wp2_with fail
  refine (H1.out _ (h1.below bl)).mono ?_
  rintro e w5 ⟨v1, rfl, hv1, e3⟩
  replace bl := Below.next bl e3 (Nat.le_refl _)
  replace hA := hA.below e3 hA.lt
  replace hC := hC.below e3 hC.lt
  obtain ⟨P1, k1, rfl, hP1⟩ := hv1.sl m1 hm1.out
  clear hv1 H1
  clear e3
  have aq0 := hA.cell 0 (v := .int .i64 t1) rfl
  have aq1 := hA.cell 1 (v := .slice A1 n1 c1) rfl
  have cq0 := hC.cell 0 (v := .int .i64 t2) rfl
  have cq1 := hC.cell 1 (v := .slice A2 n2 c2) rfl
  go_wp2_with fail
  refine (H2.out _ (h2.below bl)).mono ?_
  rintro e w6 ⟨v2, rfl, hv2, e3⟩
  replace bl := Below.next bl e3 (Nat.le_refl _)
  replace hP1 := hP1.below e3
  replace hA := hA.below e3 hA.lt
  replace hC := hC.below e3 hC.lt
  obtain ⟨P2, k2, rfl, hP2⟩ := hv2.sl m2 hm2.out
  clear hv2 H2
  clear e3
  have aq0 := hA.cell 0 (v := .int .i64 t1) rfl
  have aq1 := hA.cell 1 (v := .slice A1 n1 c1) rfl
  have cq0 := hC.cell 0 (v := .int .i64 t2) rfl
  have cq1 := hC.cell 1 (v := .slice A2 n2 c2) rfl
  by_cases e0 : E1 = 0
  rotate_left
  · have f0 : (E1 == 0) = false := by rw [beq_eq_false_iff_ne]; exact e0
    clear hinj hbk hl1
    go_wp2_with fail
    have hvo := Free.val
    refine Free.wp_facts (M := [0, 1, 3, 7, 15, 31, 63, 127, 127, 511, 127, 127, 4095, 8191, 16383]) (D := [[], [(0, 60)], [(1, 61)], [(2, 62)], [(3, 63), (2, 62)], [(2, 62), (4, 64)], [(5, 65)], [(6, 66)], [(6, 66)], [(7, 67), (8, 68), (6, 66)], [(6, 66)], [(6, 66)], [(10, 70), (11, 71), (6, 66)], [(9, 69), (12, 72), (6, 66)], [(6, 66), (13, 73)]]) (outs := [14]) (soles := []) (E := [(0, 60, false), (1, 61, false), (2, 62, false), (3, 63, false), (4, 64, false), (5, 65, false), (6, 66, false), (7, 67, false), (8, 68, false), (9, 69, false), (10, 70, false), (11, 71, false), (12, 72, false), (13, 73, false), (14, 74, true)]) (N := 104) (S := (fun w' => Below w6.heap.size w6 w')) [Free.Fact.is ?_, Free.Fact.is ?_, Free.Fact.is ?_, Free.Fact.is ?_, Free.Fact.is ?_, Free.Fact.is ?_, Free.Fact.is ?_, Free.Fact.is ?_, Free.Fact.is ?_, Free.Fact.is ?_, Free.Fact.is ?_, Free.Fact.is ?_, Free.Fact.is ?_, Free.Fact.is ?_, Free.Fact.is ?_] (by kernel_rfl) (by kernel_rfl) rfl ((Below.refl _ _).drew) ?_ ?_
    rotate_left 15
    refine Free.cons ?_ ?_
    · intro w' hS; intro K hK; have ka0 := (hS.cell (p := ⟨w.heap.size, 0, none⟩) hA.lt).trans aq0; have ka1 := (hS.cell (p := ⟨w.heap.size, 1, none⟩) hA.lt).trans aq1; have ka2 := (hS.cell (p := ⟨w.heap.size + 1, 0, none⟩) hC.lt).trans cq0; have ka3 := (hS.cell (p := ⟨w.heap.size + 1, 1, none⟩) hC.lt).trans cq1; first | (refine Free.run_yes (by rfl) ?_; go_simp; refine Free.o hK hS ?_; exact rfl) | (refine Free.run_no (by rfl) (Free.o hK hS ?_); exact rfl)
    refine Free.cons ?_ ?_
    · intro w' hS; (rintro _ rfl); intro K hK; have ka0 := (hS.cell (p := ⟨w.heap.size, 0, none⟩) hA.lt).trans aq0; have ka1 := (hS.cell (p := ⟨w.heap.size, 1, none⟩) hA.lt).trans aq1; have ka2 := (hS.cell (p := ⟨w.heap.size + 1, 0, none⟩) hC.lt).trans cq0; have ka3 := (hS.cell (p := ⟨w.heap.size + 1, 1, none⟩) hC.lt).trans cq1; first | (refine Free.run_yes (by rfl) ?_; go_simp; refine Free.o hK hS ?_; exact rfl) | (refine Free.run_no (by rfl) (Free.o hK hS ?_); exact rfl)
    refine Free.cons ?_ ?_
    · intro w' hS; (rintro _ rfl); intro K hK; have ka0 := (hS.cell (p := ⟨w.heap.size, 0, none⟩) hA.lt).trans aq0; have ka1 := (hS.cell (p := ⟨w.heap.size, 1, none⟩) hA.lt).trans aq1; have ka2 := (hS.cell (p := ⟨w.heap.size + 1, 0, none⟩) hC.lt).trans cq0; have ka3 := (hS.cell (p := ⟨w.heap.size + 1, 1, none⟩) hC.lt).trans cq1; first | (refine Free.run_yes (by rfl) ?_; go_simp; refine Free.o hK hS ?_; exact rfl) | (refine Free.run_no (by rfl) (Free.o hK hS ?_); exact rfl)
    refine Free.cons ?_ ?_
    · intro w' hS; (rintro _ rfl); intro K hK; have ka0 := (hS.cell (p := ⟨w.heap.size, 0, none⟩) hA.lt).trans aq0; have ka1 := (hS.cell (p := ⟨w.heap.size, 1, none⟩) hA.lt).trans aq1; have ka2 := (hS.cell (p := ⟨w.heap.size + 1, 0, none⟩) hC.lt).trans cq0; have ka3 := (hS.cell (p := ⟨w.heap.size + 1, 1, none⟩) hC.lt).trans cq1; first | (refine Free.run_yes (by rfl) ?_; go_simp; refine Free.o hK hS ?_; exact rfl) | (refine Free.run_no (by rfl) (Free.o hK hS ?_); exact rfl)
    refine Free.cons ?_ ?_
    · intro w' hS; (rintro _ rfl); (rintro _ rfl); intro K hK; have ka0 := (hS.cell (p := ⟨w.heap.size, 0, none⟩) hA.lt).trans aq0; have ka1 := (hS.cell (p := ⟨w.heap.size, 1, none⟩) hA.lt).trans aq1; have ka2 := (hS.cell (p := ⟨w.heap.size + 1, 0, none⟩) hC.lt).trans cq0; have ka3 := (hS.cell (p := ⟨w.heap.size + 1, 1, none⟩) hC.lt).trans cq1; first | (refine Free.run_yes (by rfl) ?_; go_simp; refine Free.o hK hS ?_; exact rfl) | (refine Free.run_no (by rfl) (Free.o hK hS ?_); exact rfl)
    refine Free.cons ?_ ?_
    · intro w' hS; (rintro _ rfl); (rintro _ rfl); intro K hK; have ka0 := (hS.cell (p := ⟨w.heap.size, 0, none⟩) hA.lt).trans aq0; have ka1 := (hS.cell (p := ⟨w.heap.size, 1, none⟩) hA.lt).trans aq1; have ka2 := (hS.cell (p := ⟨w.heap.size + 1, 0, none⟩) hC.lt).trans cq0; have ka3 := (hS.cell (p := ⟨w.heap.size + 1, 1, none⟩) hC.lt).trans cq1; first | (refine Free.run_yes (by rfl) ?_; go_simp; refine Free.o hK hS ?_; exact rfl) | (refine Free.run_no (by rfl) (Free.o hK hS ?_); exact rfl)
    refine Free.cons ?_ ?_
    · intro w' hS; (rintro _ rfl); intro K hK; have ka0 := (hS.cell (p := ⟨w.heap.size, 0, none⟩) hA.lt).trans aq0; have ka1 := (hS.cell (p := ⟨w.heap.size, 1, none⟩) hA.lt).trans aq1; have ka2 := (hS.cell (p := ⟨w.heap.size + 1, 0, none⟩) hC.lt).trans cq0; have ka3 := (hS.cell (p := ⟨w.heap.size + 1, 1, none⟩) hC.lt).trans cq1; first | (refine Free.run_yes (by rfl) ?_; go_simp; refine Free.o hK hS ?_; exact rfl) | (refine Free.run_no (by rfl) (Free.o hK hS ?_); exact rfl)
    refine Free.cons ?_ ?_
    · intro w' hS; (rintro _ rfl); intro K hK; have ka0 := (hS.cell (p := ⟨w.heap.size, 0, none⟩) hA.lt).trans aq0; have ka1 := (hS.cell (p := ⟨w.heap.size, 1, none⟩) hA.lt).trans aq1; have ka2 := (hS.cell (p := ⟨w.heap.size + 1, 0, none⟩) hC.lt).trans cq0; have ka3 := (hS.cell (p := ⟨w.heap.size + 1, 1, none⟩) hC.lt).trans cq1; first | (refine Free.run_yes (by rfl) ?_; go_simp; refine Free.o hK hS ?_; exact rfl) | (refine Free.run_no (by rfl) (Free.o hK hS ?_); exact rfl)
    refine Free.cons ?_ ?_
    · intro w' hS; (rintro _ rfl); intro K hK; have ka0 := (hS.cell (p := ⟨w.heap.size, 0, none⟩) hA.lt).trans aq0; have ka1 := (hS.cell (p := ⟨w.heap.size, 1, none⟩) hA.lt).trans aq1; have ka2 := (hS.cell (p := ⟨w.heap.size + 1, 0, none⟩) hC.lt).trans cq0; have ka3 := (hS.cell (p := ⟨w.heap.size + 1, 1, none⟩) hC.lt).trans cq1; first | (refine Free.run_yes (by rfl) ?_; go_simp; refine Free.o hK hS ?_; exact rfl) | (refine Free.run_no (by rfl) (Free.o hK hS ?_); exact rfl)
    refine Free.cons ?_ ?_
    · intro w' hS; (rintro _ rfl); (rintro _ rfl); (rintro _ rfl); intro K hK; have ka0 := (hS.cell (p := ⟨w.heap.size, 0, none⟩) hA.lt).trans aq0; have ka1 := (hS.cell (p := ⟨w.heap.size, 1, none⟩) hA.lt).trans aq1; have ka2 := (hS.cell (p := ⟨w.heap.size + 1, 0, none⟩) hC.lt).trans cq0; have ka3 := (hS.cell (p := ⟨w.heap.size + 1, 1, none⟩) hC.lt).trans cq1; first | (refine Free.run_yes (by rfl) ?_; go_simp; (first | (go_at_call 20; refine (HB.out _ (hP1.below hS) (hP2.below hS)).mono ?_; rintro e w' ⟨rfl, hb⟩) | (go_at_call 19; refine (HS.out _ (h1.below (bl.trans (hS.mono bl.size))) (h2.below (bl.trans (hS.mono bl.size)))).mono ?_; rintro e w' ⟨rfl, hb⟩)); go_simp; refine Free.c hK (keep hS hb) hb ?_; exact rfl) | (refine Free.run_no (by rfl) (Free.o hK hS ?_); exact rfl)
    refine Free.cons ?_ ?_
    · intro w' hS; (rintro _ rfl); intro K hK; have ka0 := (hS.cell (p := ⟨w.heap.size, 0, none⟩) hA.lt).trans aq0; have ka1 := (hS.cell (p := ⟨w.heap.size, 1, none⟩) hA.lt).trans aq1; have ka2 := (hS.cell (p := ⟨w.heap.size + 1, 0, none⟩) hC.lt).trans cq0; have ka3 := (hS.cell (p := ⟨w.heap.size + 1, 1, none⟩) hC.lt).trans cq1; first | (refine Free.run_yes (by rfl) ?_; go_simp; refine Free.o hK hS ?_; exact rfl) | (refine Free.run_no (by rfl) (Free.o hK hS ?_); exact rfl)
    refine Free.cons ?_ ?_
    · intro w' hS; (rintro _ rfl); intro K hK; have ka0 := (hS.cell (p := ⟨w.heap.size, 0, none⟩) hA.lt).trans aq0; have ka1 := (hS.cell (p := ⟨w.heap.size, 1, none⟩) hA.lt).trans aq1; have ka2 := (hS.cell (p := ⟨w.heap.size + 1, 0, none⟩) hC.lt).trans cq0; have ka3 := (hS.cell (p := ⟨w.heap.size + 1, 1, none⟩) hC.lt).trans cq1; first | (refine Free.run_yes (by rfl) ?_; go_simp; refine Free.o hK hS ?_; exact rfl) | (refine Free.run_no (by rfl) (Free.o hK hS ?_); exact rfl)
    refine Free.cons ?_ ?_
    · intro w' hS; (rintro _ rfl); (rintro _ rfl); (rintro _ rfl); intro K hK; have ka0 := (hS.cell (p := ⟨w.heap.size, 0, none⟩) hA.lt).trans aq0; have ka1 := (hS.cell (p := ⟨w.heap.size, 1, none⟩) hA.lt).trans aq1; have ka2 := (hS.cell (p := ⟨w.heap.size + 1, 0, none⟩) hC.lt).trans cq0; have ka3 := (hS.cell (p := ⟨w.heap.size + 1, 1, none⟩) hC.lt).trans cq1; first | (refine Free.run_yes (by rfl) ?_; go_simp; (first | (go_at_call 20; refine (HB.out _ (hP1.below hS) (hP2.below hS)).mono ?_; rintro e w' ⟨rfl, hb⟩) | (go_at_call 19; refine (HS.out _ (h1.below (bl.trans (hS.mono bl.size))) (h2.below (bl.trans (hS.mono bl.size)))).mono ?_; rintro e w' ⟨rfl, hb⟩)); go_simp; refine Free.c hK (keep hS hb) hb ?_; exact rfl) | (refine Free.run_no (by rfl) (Free.o hK hS ?_); exact rfl)
    refine Free.cons ?_ ?_
    · intro w' hS; (rintro _ rfl); (rintro _ rfl); (rintro _ rfl); intro K hK; have ka0 := (hS.cell (p := ⟨w.heap.size, 0, none⟩) hA.lt).trans aq0; have ka1 := (hS.cell (p := ⟨w.heap.size, 1, none⟩) hA.lt).trans aq1; have ka2 := (hS.cell (p := ⟨w.heap.size + 1, 0, none⟩) hC.lt).trans cq0; have ka3 := (hS.cell (p := ⟨w.heap.size + 1, 1, none⟩) hC.lt).trans cq1; first | (refine Free.run_yes (by rfl) ?_; go_simp; refine Free.o hK hS ?_; exact rfl) | (refine Free.run_no (by rfl) (Free.o hK hS ?_); exact rfl)
    refine Free.cons ?_ ?_
    · intro w' hS; (rintro _ rfl); (rintro _ rfl); intro K hK; have ka0 := (hS.cell (p := ⟨w.heap.size, 0, none⟩) hA.lt).trans aq0; have ka1 := (hS.cell (p := ⟨w.heap.size, 1, none⟩) hA.lt).trans aq1; have ka2 := (hS.cell (p := ⟨w.heap.size + 1, 0, none⟩) hC.lt).trans cq0; have ka3 := (hS.cell (p := ⟨w.heap.size + 1, 1, none⟩) hC.lt).trans cq1; first | (refine Free.run_yes (by rfl) ?_; go_simp; refine Free.o hK hS ?_; exact rfl) | (refine Free.run_no (by rfl) (Free.o hK hS ?_); exact rfl)
    exact Free.nil
    clear hvo
    intro w' hS; intro v0; intro v1; intro v2; intro v3; intro v4; intro v5; intro v6; intro v7; intro v8; intro v9; intro v10; intro v11; intro v12; intro v13; (rintro _ rfl); (try simp only [Act.put, List.setIfInBounds_toArray, List.set_cons_zero, List.set_cons_succ]); refine Free.toldE_nil ?_
    replace bl := Below.next bl hS (Nat.le_refl _)
    clear hS hA hC aq0 aq1 cq0 cq1
    rcases decR_cases b with ⟨⟨t9, V9⟩, hd, hE9, hT9⟩ | hd
    · rw [hd] at H3
      have H6 := Lib.hid (fun A n c w (h : RV w A n c V9) => (show Calls Try.prog 18 #[.agg #[.int .i64 t9, .slice A n c]] w fun e w' => ∃ v, e = .returned (.tuple #[v, .int .i64 0]) ∧ RBv w' v b ∧ Below w.heap.size w w' from by have := row_encode t9 A n c V9 w h; rw [hE9, hT9] at this; exact this))
      clear hd hE9 hT9
      go_wp2_with fail
      refine (H3.out _ (h3.below bl)).mono ?_
      rintro e w10 ⟨A9, n9, c9, rfl, hR9, e3⟩
      replace bl := Below.next bl e3 (Nat.le_refl _)
      clear H3
      clear e3
      have hX9 := Blk.new w10 #[.int .i64 t9, .slice A9 n9 c9] 26
      have b9 : Below w10.heap.size w10 (w10.alloc (.cells #[.int .i64 t9, .slice A9 n9 c9] 26)) := (by repeat (first | exact Below.refl _ _ | assumption | apply below_drewN' | apply Below.drew | refine Below.alloc ?_ (by first | omega | (simp; done) | (simp; omega)) _ | refine Below.setCell ?_ (by first | omega | (simp; done) | (simp; omega)) _))
      replace hR9 := Lib.hid (hR9.below b9)
      replace bl := Below.next bl b9 (Nat.le_refl _)
      clear b9
      go_wp2_with fail
      refine (H6.out _ _ _ _ hR9.out).mono ?_
      rintro e w11 ⟨v11, rfl, hv11, e3⟩
      replace bl := Below.next bl e3 (Nat.le_refl _)
      obtain ⟨P9, k9, rfl, hP9⟩ := hv11.sl n3 hb3.out
      clear hv11 H6 hX9
      clear e3
      go_wp2_with fail
      refine (first16_any _).mono ?_
      rintro e w12 ⟨rfl, e3⟩
      replace bl := Below.next bl e3 (Nat.le_refl _)
      replace hP9 := hP9.below e3
      clear e3
      have hB := ref_Bytes P9 A3 n3 k9 n3 c3 b b _ hP9 (h3.below bl)
      rw [beq_self_eq_true] at hB
      go_wp2_with fail
      refine hB.mono ?_
      rintro e w13 ⟨rfl, rfl⟩
      go_wp2
      go_ret
      exact ⟨rfl, bl⟩
    · rw [hd] at H3
      clear hd
      go_wp2_with fail
      refine (H3.out _ (h3.below bl)).mono ?_
      rintro e w10 ⟨A9, n9, c9, rfl, hR9, e3⟩
      replace bl := Below.next bl e3 (Nat.le_refl _)
      clear H3
      have hz9 : 0 = n9 := hR9.len
      subst hz9
      clear hR9
      clear e3
      have hX9 := Blk.new w10 #[.int .i64 0, .slice A9 0 c9] 26
      have b9 : Below w10.heap.size w10 (w10.alloc (.cells #[.int .i64 0, .slice A9 0 c9] 26)) := (by repeat (first | exact Below.refl _ _ | assumption | apply below_drewN' | apply Below.drew | refine Below.alloc ?_ (by first | omega | (simp; done) | (simp; omega)) _ | refine Below.setCell ?_ (by first | omega | (simp; done) | (simp; omega)) _))
      replace bl := Below.next bl b9 (Nat.le_refl _)
      clear b9
      go_wp2_with fail
      refine (first16_any _).mono ?_
      rintro e w12 ⟨rfl, e3⟩
      replace bl := Below.next bl e3 (Nat.le_refl _)
      have xq0 := hX9.below e3 hX9.lt
      have xq1 := xq0.cell 1 (v := .slice A9 0 c9) rfl
      clear xq0
      clear e3
      go_wp2
      go_ret
      exact ⟨rfl, bl⟩
  subst e0
  replace hbk := Lib.hid (hbk.out rfl)
  obtain rfl : m1 = 37 := by rw [← hm1.out]; exact hl1.out rfl
  have H4 := Lib.hid (fun w (h : RB w P1 37 k1 T1) => (show Calls Try.prog 14 #[.slice P1 37 k1] w fun e w' => ∃ A' n' c', e = .returned (.tuple #[.agg #[.int .i64 t1, .slice A' n' c'], .int .i64 0]) ∧ RV w' A' n' c' V1 ∧ Below w.heap.size w w' from by have := row_decode P1 37 k1 T1 w h (by omega); rw [hbk.out] at this; exact this))
  go_wp2_with fail
  refine (H4.out _ hP1).mono ?_
  rintro e w7 ⟨A7, n7, c7, rfl, hR7, e3⟩
  replace bl := Below.next bl e3 (Nat.le_refl _)
  replace hP1 := hP1.below e3
  replace hP2 := hP2.below e3
  replace hA := hA.below e3 hA.lt
  replace hC := hC.below e3 hC.lt
  clear H4
  clear e3
  have aq0 := hA.cell 0 (v := .int .i64 t1) rfl
  have aq1 := hA.cell 1 (v := .slice A1 n1 c1) rfl
  have cq0 := hC.cell 0 (v := .int .i64 t2) rfl
  have cq1 := hC.cell 1 (v := .slice A2 n2 c2) rfl
  have hX7 := Blk.new w7 #[.int .i64 t1, .slice A7 n7 c7] 26
  have b7 : Below w7.heap.size w7 (w7.alloc (.cells #[.int .i64 t1, .slice A7 n7 c7] 26)) := (by repeat (first | exact Below.refl _ _ | assumption | apply below_drewN' | apply Below.drew | refine Below.alloc ?_ (by first | omega | (simp; done) | (simp; omega)) _ | refine Below.setCell ?_ (by first | omega | (simp; done) | (simp; omega)) _))
  have H5 := Lib.hid (fun w (h : RV w A7 n7 c7 V1) (h2 : RV w A1 n1 c1 V1) => row_same t1 A7 n7 c7 V1 t1 A1 n1 c1 V1 true w h h2 (sameR_self _))
  replace hR7 := Lib.hid (hR7.below b7)
  replace bl := Below.next bl b7 (Nat.le_refl _)
  replace hA := hA.below b7 hA.lt
  replace hC := hC.below b7 hC.lt
  replace hP1 := hP1.below b7
  replace hP2 := hP2.below b7
  clear b7
  have aq0 := hA.cell 0 (v := .int .i64 t1) rfl
  have aq1 := hA.cell 1 (v := .slice A1 n1 c1) rfl
  have cq0 := hC.cell 0 (v := .int .i64 t2) rfl
  have cq1 := hC.cell 1 (v := .slice A2 n2 c2) rfl
  go_wp2_with fail
  refine (H5.out _ hR7.out (h1.below bl)).mono ?_
  rintro e w8 ⟨rfl, e3⟩
  replace bl := Below.next bl e3 (Nat.le_refl _)
  replace hP1 := hP1.below e3
  replace hP2 := hP2.below e3
  replace hA := hA.below e3 hA.lt
  replace hC := hC.below e3 hC.lt
  clear H5 hR7
  clear e3
  have aq0 := hA.cell 0 (v := .int .i64 t1) rfl
  have aq1 := hA.cell 1 (v := .slice A1 n1 c1) rfl
  have cq0 := hC.cell 0 (v := .int .i64 t2) rfl
  have cq1 := hC.cell 1 (v := .slice A2 n2 c2) rfl
  by_cases e9 : E2 = 0
  rotate_left
  · have f2 : (E2 == 0) = false := by rw [beq_eq_false_iff_ne]; exact e9
    clear hinj
    go_wp2_with fail
    have hvo := Free.val
    refine Free.wp_facts (M := [0, 1, 3, 7, 15, 31, 63, 127, 127, 511, 127, 127, 4095, 8191, 16383]) (D := [[], [(0, 60)], [(1, 61)], [(2, 62)], [(3, 63), (2, 62)], [(2, 62), (4, 64)], [(5, 65)], [(6, 66)], [(6, 66)], [(7, 67), (8, 68), (6, 66)], [(6, 66)], [(6, 66)], [(10, 70), (11, 71), (6, 66)], [(9, 69), (12, 72), (6, 66)], [(6, 66), (13, 73)]]) (outs := [14]) (soles := []) (E := [(0, 60, false), (1, 61, false), (2, 62, false), (3, 63, false), (4, 64, false), (5, 65, false), (6, 66, false), (7, 67, false), (8, 68, false), (9, 69, false), (10, 70, false), (11, 71, false), (12, 72, false), (13, 73, false), (14, 74, true)]) (N := 104) (S := (fun w' => Below w8.heap.size w8 w')) [Free.Fact.is ?_, Free.Fact.is ?_, Free.Fact.is ?_, Free.Fact.is ?_, Free.Fact.is ?_, Free.Fact.is ?_, Free.Fact.is ?_, Free.Fact.is ?_, Free.Fact.is ?_, Free.Fact.is ?_, Free.Fact.is ?_, Free.Fact.is ?_, Free.Fact.is ?_, Free.Fact.is ?_, Free.Fact.is ?_] (by kernel_rfl) (by kernel_rfl) rfl ((Below.refl _ _).drew) ?_ ?_
    rotate_left 15
    refine Free.cons ?_ ?_
    · intro w' hS; intro K hK; have ka0 := (hS.cell (p := ⟨w.heap.size, 0, none⟩) hA.lt).trans aq0; have ka1 := (hS.cell (p := ⟨w.heap.size, 1, none⟩) hA.lt).trans aq1; have ka2 := (hS.cell (p := ⟨w.heap.size + 1, 0, none⟩) hC.lt).trans cq0; have ka3 := (hS.cell (p := ⟨w.heap.size + 1, 1, none⟩) hC.lt).trans cq1; first | (refine Free.run_yes (by rfl) ?_; go_simp; refine Free.o hK hS ?_; exact rfl) | (refine Free.run_no (by rfl) (Free.o hK hS ?_); exact rfl)
    refine Free.cons ?_ ?_
    · intro w' hS; (rintro _ rfl); intro K hK; have ka0 := (hS.cell (p := ⟨w.heap.size, 0, none⟩) hA.lt).trans aq0; have ka1 := (hS.cell (p := ⟨w.heap.size, 1, none⟩) hA.lt).trans aq1; have ka2 := (hS.cell (p := ⟨w.heap.size + 1, 0, none⟩) hC.lt).trans cq0; have ka3 := (hS.cell (p := ⟨w.heap.size + 1, 1, none⟩) hC.lt).trans cq1; first | (refine Free.run_yes (by rfl) ?_; go_simp; refine Free.o hK hS ?_; exact rfl) | (refine Free.run_no (by rfl) (Free.o hK hS ?_); exact rfl)
    refine Free.cons ?_ ?_
    · intro w' hS; (rintro _ rfl); intro K hK; have ka0 := (hS.cell (p := ⟨w.heap.size, 0, none⟩) hA.lt).trans aq0; have ka1 := (hS.cell (p := ⟨w.heap.size, 1, none⟩) hA.lt).trans aq1; have ka2 := (hS.cell (p := ⟨w.heap.size + 1, 0, none⟩) hC.lt).trans cq0; have ka3 := (hS.cell (p := ⟨w.heap.size + 1, 1, none⟩) hC.lt).trans cq1; first | (refine Free.run_yes (by rfl) ?_; go_simp; refine Free.o hK hS ?_; exact rfl) | (refine Free.run_no (by rfl) (Free.o hK hS ?_); exact rfl)
    refine Free.cons ?_ ?_
    · intro w' hS; (rintro _ rfl); intro K hK; have ka0 := (hS.cell (p := ⟨w.heap.size, 0, none⟩) hA.lt).trans aq0; have ka1 := (hS.cell (p := ⟨w.heap.size, 1, none⟩) hA.lt).trans aq1; have ka2 := (hS.cell (p := ⟨w.heap.size + 1, 0, none⟩) hC.lt).trans cq0; have ka3 := (hS.cell (p := ⟨w.heap.size + 1, 1, none⟩) hC.lt).trans cq1; first | (refine Free.run_yes (by rfl) ?_; go_simp; refine Free.o hK hS ?_; exact rfl) | (refine Free.run_no (by rfl) (Free.o hK hS ?_); exact rfl)
    refine Free.cons ?_ ?_
    · intro w' hS; (rintro _ rfl); (rintro _ rfl); intro K hK; have ka0 := (hS.cell (p := ⟨w.heap.size, 0, none⟩) hA.lt).trans aq0; have ka1 := (hS.cell (p := ⟨w.heap.size, 1, none⟩) hA.lt).trans aq1; have ka2 := (hS.cell (p := ⟨w.heap.size + 1, 0, none⟩) hC.lt).trans cq0; have ka3 := (hS.cell (p := ⟨w.heap.size + 1, 1, none⟩) hC.lt).trans cq1; first | (refine Free.run_yes (by rfl) ?_; go_simp; refine Free.o hK hS ?_; exact rfl) | (refine Free.run_no (by rfl) (Free.o hK hS ?_); exact rfl)
    refine Free.cons ?_ ?_
    · intro w' hS; (rintro _ rfl); (rintro _ rfl); intro K hK; have ka0 := (hS.cell (p := ⟨w.heap.size, 0, none⟩) hA.lt).trans aq0; have ka1 := (hS.cell (p := ⟨w.heap.size, 1, none⟩) hA.lt).trans aq1; have ka2 := (hS.cell (p := ⟨w.heap.size + 1, 0, none⟩) hC.lt).trans cq0; have ka3 := (hS.cell (p := ⟨w.heap.size + 1, 1, none⟩) hC.lt).trans cq1; first | (refine Free.run_yes (by rfl) ?_; go_simp; refine Free.o hK hS ?_; exact rfl) | (refine Free.run_no (by rfl) (Free.o hK hS ?_); exact rfl)
    refine Free.cons ?_ ?_
    · intro w' hS; (rintro _ rfl); intro K hK; have ka0 := (hS.cell (p := ⟨w.heap.size, 0, none⟩) hA.lt).trans aq0; have ka1 := (hS.cell (p := ⟨w.heap.size, 1, none⟩) hA.lt).trans aq1; have ka2 := (hS.cell (p := ⟨w.heap.size + 1, 0, none⟩) hC.lt).trans cq0; have ka3 := (hS.cell (p := ⟨w.heap.size + 1, 1, none⟩) hC.lt).trans cq1; first | (refine Free.run_yes (by rfl) ?_; go_simp; refine Free.o hK hS ?_; exact rfl) | (refine Free.run_no (by rfl) (Free.o hK hS ?_); exact rfl)
    refine Free.cons ?_ ?_
    · intro w' hS; (rintro _ rfl); intro K hK; have ka0 := (hS.cell (p := ⟨w.heap.size, 0, none⟩) hA.lt).trans aq0; have ka1 := (hS.cell (p := ⟨w.heap.size, 1, none⟩) hA.lt).trans aq1; have ka2 := (hS.cell (p := ⟨w.heap.size + 1, 0, none⟩) hC.lt).trans cq0; have ka3 := (hS.cell (p := ⟨w.heap.size + 1, 1, none⟩) hC.lt).trans cq1; first | (refine Free.run_yes (by rfl) ?_; go_simp; refine Free.o hK hS ?_; exact rfl) | (refine Free.run_no (by rfl) (Free.o hK hS ?_); exact rfl)
    refine Free.cons ?_ ?_
    · intro w' hS; (rintro _ rfl); intro K hK; have ka0 := (hS.cell (p := ⟨w.heap.size, 0, none⟩) hA.lt).trans aq0; have ka1 := (hS.cell (p := ⟨w.heap.size, 1, none⟩) hA.lt).trans aq1; have ka2 := (hS.cell (p := ⟨w.heap.size + 1, 0, none⟩) hC.lt).trans cq0; have ka3 := (hS.cell (p := ⟨w.heap.size + 1, 1, none⟩) hC.lt).trans cq1; first | (refine Free.run_yes (by rfl) ?_; go_simp; refine Free.o hK hS ?_; exact rfl) | (refine Free.run_no (by rfl) (Free.o hK hS ?_); exact rfl)
    refine Free.cons ?_ ?_
    · intro w' hS; (rintro _ rfl); (rintro _ rfl); (rintro _ rfl); intro K hK; have ka0 := (hS.cell (p := ⟨w.heap.size, 0, none⟩) hA.lt).trans aq0; have ka1 := (hS.cell (p := ⟨w.heap.size, 1, none⟩) hA.lt).trans aq1; have ka2 := (hS.cell (p := ⟨w.heap.size + 1, 0, none⟩) hC.lt).trans cq0; have ka3 := (hS.cell (p := ⟨w.heap.size + 1, 1, none⟩) hC.lt).trans cq1; first | (refine Free.run_yes (by rfl) ?_; go_simp; (first | (go_at_call 20; refine (HB.out _ (hP1.below hS) (hP2.below hS)).mono ?_; rintro e w' ⟨rfl, hb⟩) | (go_at_call 19; refine (HS.out _ (h1.below (bl.trans (hS.mono bl.size))) (h2.below (bl.trans (hS.mono bl.size)))).mono ?_; rintro e w' ⟨rfl, hb⟩)); go_simp; refine Free.c hK (keep hS hb) hb ?_; exact rfl) | (refine Free.run_no (by rfl) (Free.o hK hS ?_); exact rfl)
    refine Free.cons ?_ ?_
    · intro w' hS; (rintro _ rfl); intro K hK; have ka0 := (hS.cell (p := ⟨w.heap.size, 0, none⟩) hA.lt).trans aq0; have ka1 := (hS.cell (p := ⟨w.heap.size, 1, none⟩) hA.lt).trans aq1; have ka2 := (hS.cell (p := ⟨w.heap.size + 1, 0, none⟩) hC.lt).trans cq0; have ka3 := (hS.cell (p := ⟨w.heap.size + 1, 1, none⟩) hC.lt).trans cq1; first | (refine Free.run_yes (by rfl) ?_; go_simp; refine Free.o hK hS ?_; exact rfl) | (refine Free.run_no (by rfl) (Free.o hK hS ?_); exact rfl)
    refine Free.cons ?_ ?_
    · intro w' hS; (rintro _ rfl); intro K hK; have ka0 := (hS.cell (p := ⟨w.heap.size, 0, none⟩) hA.lt).trans aq0; have ka1 := (hS.cell (p := ⟨w.heap.size, 1, none⟩) hA.lt).trans aq1; have ka2 := (hS.cell (p := ⟨w.heap.size + 1, 0, none⟩) hC.lt).trans cq0; have ka3 := (hS.cell (p := ⟨w.heap.size + 1, 1, none⟩) hC.lt).trans cq1; first | (refine Free.run_yes (by rfl) ?_; go_simp; refine Free.o hK hS ?_; exact rfl) | (refine Free.run_no (by rfl) (Free.o hK hS ?_); exact rfl)
    refine Free.cons ?_ ?_
    · intro w' hS; (rintro _ rfl); (rintro _ rfl); (rintro _ rfl); intro K hK; have ka0 := (hS.cell (p := ⟨w.heap.size, 0, none⟩) hA.lt).trans aq0; have ka1 := (hS.cell (p := ⟨w.heap.size, 1, none⟩) hA.lt).trans aq1; have ka2 := (hS.cell (p := ⟨w.heap.size + 1, 0, none⟩) hC.lt).trans cq0; have ka3 := (hS.cell (p := ⟨w.heap.size + 1, 1, none⟩) hC.lt).trans cq1; first | (refine Free.run_yes (by rfl) ?_; go_simp; (first | (go_at_call 20; refine (HB.out _ (hP1.below hS) (hP2.below hS)).mono ?_; rintro e w' ⟨rfl, hb⟩) | (go_at_call 19; refine (HS.out _ (h1.below (bl.trans (hS.mono bl.size))) (h2.below (bl.trans (hS.mono bl.size)))).mono ?_; rintro e w' ⟨rfl, hb⟩)); go_simp; refine Free.c hK (keep hS hb) hb ?_; exact rfl) | (refine Free.run_no (by rfl) (Free.o hK hS ?_); exact rfl)
    refine Free.cons ?_ ?_
    · intro w' hS; (rintro _ rfl); (rintro _ rfl); (rintro _ rfl); intro K hK; have ka0 := (hS.cell (p := ⟨w.heap.size, 0, none⟩) hA.lt).trans aq0; have ka1 := (hS.cell (p := ⟨w.heap.size, 1, none⟩) hA.lt).trans aq1; have ka2 := (hS.cell (p := ⟨w.heap.size + 1, 0, none⟩) hC.lt).trans cq0; have ka3 := (hS.cell (p := ⟨w.heap.size + 1, 1, none⟩) hC.lt).trans cq1; first | (refine Free.run_yes (by rfl) ?_; go_simp; refine Free.o hK hS ?_; exact rfl) | (refine Free.run_no (by rfl) (Free.o hK hS ?_); exact rfl)
    refine Free.cons ?_ ?_
    · intro w' hS; (rintro _ rfl); (rintro _ rfl); intro K hK; have ka0 := (hS.cell (p := ⟨w.heap.size, 0, none⟩) hA.lt).trans aq0; have ka1 := (hS.cell (p := ⟨w.heap.size, 1, none⟩) hA.lt).trans aq1; have ka2 := (hS.cell (p := ⟨w.heap.size + 1, 0, none⟩) hC.lt).trans cq0; have ka3 := (hS.cell (p := ⟨w.heap.size + 1, 1, none⟩) hC.lt).trans cq1; first | (refine Free.run_yes (by rfl) ?_; go_simp; refine Free.o hK hS ?_; exact rfl) | (refine Free.run_no (by rfl) (Free.o hK hS ?_); exact rfl)
    exact Free.nil
    clear hvo
    intro w' hS; intro v0; intro v1; intro v2; intro v3; intro v4; intro v5; intro v6; intro v7; intro v8; intro v9; intro v10; intro v11; intro v12; intro v13; (rintro _ rfl); (try simp only [Act.put, List.setIfInBounds_toArray, List.set_cons_zero, List.set_cons_succ]); refine Free.toldE_nil ?_
    replace bl := Below.next bl hS (Nat.le_refl _)
    clear hS hA hC aq0 aq1 cq0 cq1
    rcases decR_cases b with ⟨⟨t9, V9⟩, hd, hE9, hT9⟩ | hd
    · rw [hd] at H3
      have H6 := Lib.hid (fun A n c w (h : RV w A n c V9) => (show Calls Try.prog 18 #[.agg #[.int .i64 t9, .slice A n c]] w fun e w' => ∃ v, e = .returned (.tuple #[v, .int .i64 0]) ∧ RBv w' v b ∧ Below w.heap.size w w' from by have := row_encode t9 A n c V9 w h; rw [hE9, hT9] at this; exact this))
      clear hd hE9 hT9
      go_wp2_with fail
      refine (H3.out _ (h3.below bl)).mono ?_
      rintro e w10 ⟨A9, n9, c9, rfl, hR9, e3⟩
      replace bl := Below.next bl e3 (Nat.le_refl _)
      clear H3
      clear e3
      have hX9 := Blk.new w10 #[.int .i64 t9, .slice A9 n9 c9] 26
      have b9 : Below w10.heap.size w10 (w10.alloc (.cells #[.int .i64 t9, .slice A9 n9 c9] 26)) := (by repeat (first | exact Below.refl _ _ | assumption | apply below_drewN' | apply Below.drew | refine Below.alloc ?_ (by first | omega | (simp; done) | (simp; omega)) _ | refine Below.setCell ?_ (by first | omega | (simp; done) | (simp; omega)) _))
      replace hR9 := Lib.hid (hR9.below b9)
      replace bl := Below.next bl b9 (Nat.le_refl _)
      clear b9
      go_wp2_with fail
      refine (H6.out _ _ _ _ hR9.out).mono ?_
      rintro e w11 ⟨v11, rfl, hv11, e3⟩
      replace bl := Below.next bl e3 (Nat.le_refl _)
      obtain ⟨P9, k9, rfl, hP9⟩ := hv11.sl n3 hb3.out
      clear hv11 H6 hX9
      clear e3
      go_wp2_with fail
      refine (first16_any _).mono ?_
      rintro e w12 ⟨rfl, e3⟩
      replace bl := Below.next bl e3 (Nat.le_refl _)
      replace hP9 := hP9.below e3
      clear e3
      have hB := ref_Bytes P9 A3 n3 k9 n3 c3 b b _ hP9 (h3.below bl)
      rw [beq_self_eq_true] at hB
      go_wp2_with fail
      refine hB.mono ?_
      rintro e w13 ⟨rfl, rfl⟩
      go_wp2
      go_ret
      exact ⟨rfl, bl⟩
    · rw [hd] at H3
      clear hd
      go_wp2_with fail
      refine (H3.out _ (h3.below bl)).mono ?_
      rintro e w10 ⟨A9, n9, c9, rfl, hR9, e3⟩
      replace bl := Below.next bl e3 (Nat.le_refl _)
      clear H3
      have hz9 : 0 = n9 := hR9.len
      subst hz9
      clear hR9
      clear e3
      have hX9 := Blk.new w10 #[.int .i64 0, .slice A9 0 c9] 26
      have b9 : Below w10.heap.size w10 (w10.alloc (.cells #[.int .i64 0, .slice A9 0 c9] 26)) := (by repeat (first | exact Below.refl _ _ | assumption | apply below_drewN' | apply Below.drew | refine Below.alloc ?_ (by first | omega | (simp; done) | (simp; omega)) _ | refine Below.setCell ?_ (by first | omega | (simp; done) | (simp; omega)) _))
      replace bl := Below.next bl b9 (Nat.le_refl _)
      clear b9
      go_wp2_with fail
      refine (first16_any _).mono ?_
      rintro e w12 ⟨rfl, e3⟩
      replace bl := Below.next bl e3 (Nat.le_refl _)
      have xq0 := hX9.below e3 hX9.lt
      have xq1 := xq0.cell 1 (v := .slice A9 0 c9) rfl
      clear xq0
      clear e3
      go_wp2
      go_ret
      exact ⟨rfl, bl⟩
  subst e9
  have hy := hinj.out trivial rfl
  obtain ⟨y, hy2⟩ : ∃ y, (T1 == T2) = y := ⟨_, rfl⟩
  rw [hy2] at hy
  have HB := Lib.hid (fun w (h : RB w P1 37 k1 T1) (h2 : RB w P2 m2 k2 T2) => (show Calls Try.prog 20 #[.slice P1 37 k1, .slice P2 m2 k2] w fun e w' => e = .returned (.bool y) ∧ Below w.heap.size w w' from (hy2 ▸ ref_Bytes P1 P2 37 k1 m2 k2 T1 T2 w h h2 : Calls Try.prog 20 #[.slice P1 37 k1, .slice P2 m2 k2] w fun e w' => e = .returned (.bool y) ∧ w = w').mono (fun e w' hh => ⟨hh.1, hh.2 ▸ Below.refl _ _⟩)))
  have HS := Lib.hid (fun w h h2 => row_same t1 A1 n1 c1 V1 t2 A2 n2 c2 V2 y w h h2 hy.symm)
  clear hy hy2 hinj
  go_wp2_with fail
  have hvo := Free.val
  refine Free.wp_facts (M := [0, 1, 3, 7, 15, 31, 63, 127, 127, 511, 127, 127, 4095, 8191, 16383]) (D := [[], [(0, 60)], [(1, 61)], [(2, 62)], [(3, 63), (2, 62)], [(2, 62), (4, 64)], [(5, 65)], [(6, 66)], [(6, 66)], [(7, 67), (8, 68), (6, 66)], [(6, 66)], [(6, 66)], [(10, 70), (11, 71), (6, 66)], [(9, 69), (12, 72), (6, 66)], [(6, 66), (13, 73)]]) (outs := [14]) (soles := []) (E := [(0, 60, false), (1, 61, false), (2, 62, false), (3, 63, false), (4, 64, false), (5, 65, false), (6, 66, false), (7, 67, false), (8, 68, false), (9, 69, false), (10, 70, false), (11, 71, false), (12, 72, false), (13, 73, false), (14, 74, true)]) (N := 104) (S := (fun w' => Below w8.heap.size w8 w')) [Free.Fact.is ?_, Free.Fact.is ?_, Free.Fact.is ?_, Free.Fact.is ?_, Free.Fact.is ?_, Free.Fact.is ?_, Free.Fact.is ?_, Free.Fact.is ?_, Free.Fact.is ?_, Free.Fact.is ?_, Free.Fact.is ?_, Free.Fact.is ?_, Free.Fact.is ?_, Free.Fact.is ?_, Free.Fact.is ?_] (by kernel_rfl) (by kernel_rfl) rfl ((Below.refl _ _).drew) ?_ ?_
  rotate_left 15
  refine Free.cons ?_ ?_
  · intro w' hS; intro K hK; have ka0 := (hS.cell (p := ⟨w.heap.size, 0, none⟩) hA.lt).trans aq0; have ka1 := (hS.cell (p := ⟨w.heap.size, 1, none⟩) hA.lt).trans aq1; have ka2 := (hS.cell (p := ⟨w.heap.size + 1, 0, none⟩) hC.lt).trans cq0; have ka3 := (hS.cell (p := ⟨w.heap.size + 1, 1, none⟩) hC.lt).trans cq1; first | (refine Free.run_yes (by rfl) ?_; go_simp; refine Free.o hK hS ?_; exact rfl) | (refine Free.run_no (by rfl) (Free.o hK hS ?_); exact rfl)
  refine Free.cons ?_ ?_
  · intro w' hS; (rintro _ rfl); intro K hK; have ka0 := (hS.cell (p := ⟨w.heap.size, 0, none⟩) hA.lt).trans aq0; have ka1 := (hS.cell (p := ⟨w.heap.size, 1, none⟩) hA.lt).trans aq1; have ka2 := (hS.cell (p := ⟨w.heap.size + 1, 0, none⟩) hC.lt).trans cq0; have ka3 := (hS.cell (p := ⟨w.heap.size + 1, 1, none⟩) hC.lt).trans cq1; first | (refine Free.run_yes (by rfl) ?_; go_simp; refine Free.o hK hS ?_; exact rfl) | (refine Free.run_no (by rfl) (Free.o hK hS ?_); exact rfl)
  refine Free.cons ?_ ?_
  · intro w' hS; (rintro _ rfl); intro K hK; have ka0 := (hS.cell (p := ⟨w.heap.size, 0, none⟩) hA.lt).trans aq0; have ka1 := (hS.cell (p := ⟨w.heap.size, 1, none⟩) hA.lt).trans aq1; have ka2 := (hS.cell (p := ⟨w.heap.size + 1, 0, none⟩) hC.lt).trans cq0; have ka3 := (hS.cell (p := ⟨w.heap.size + 1, 1, none⟩) hC.lt).trans cq1; first | (refine Free.run_yes (by rfl) ?_; go_simp; refine Free.o hK hS ?_; exact rfl) | (refine Free.run_no (by rfl) (Free.o hK hS ?_); exact rfl)
  refine Free.cons ?_ ?_
  · intro w' hS; (rintro _ rfl); intro K hK; have ka0 := (hS.cell (p := ⟨w.heap.size, 0, none⟩) hA.lt).trans aq0; have ka1 := (hS.cell (p := ⟨w.heap.size, 1, none⟩) hA.lt).trans aq1; have ka2 := (hS.cell (p := ⟨w.heap.size + 1, 0, none⟩) hC.lt).trans cq0; have ka3 := (hS.cell (p := ⟨w.heap.size + 1, 1, none⟩) hC.lt).trans cq1; first | (refine Free.run_yes (by rfl) ?_; go_simp; refine Free.o hK hS ?_; exact rfl) | (refine Free.run_no (by rfl) (Free.o hK hS ?_); exact rfl)
  refine Free.cons ?_ ?_
  · intro w' hS; (rintro _ rfl); (rintro _ rfl); intro K hK; have ka0 := (hS.cell (p := ⟨w.heap.size, 0, none⟩) hA.lt).trans aq0; have ka1 := (hS.cell (p := ⟨w.heap.size, 1, none⟩) hA.lt).trans aq1; have ka2 := (hS.cell (p := ⟨w.heap.size + 1, 0, none⟩) hC.lt).trans cq0; have ka3 := (hS.cell (p := ⟨w.heap.size + 1, 1, none⟩) hC.lt).trans cq1; first | (refine Free.run_yes (by rfl) ?_; go_simp; refine Free.o hK hS ?_; exact rfl) | (refine Free.run_no (by rfl) (Free.o hK hS ?_); exact rfl)
  refine Free.cons ?_ ?_
  · intro w' hS; (rintro _ rfl); (rintro _ rfl); intro K hK; have ka0 := (hS.cell (p := ⟨w.heap.size, 0, none⟩) hA.lt).trans aq0; have ka1 := (hS.cell (p := ⟨w.heap.size, 1, none⟩) hA.lt).trans aq1; have ka2 := (hS.cell (p := ⟨w.heap.size + 1, 0, none⟩) hC.lt).trans cq0; have ka3 := (hS.cell (p := ⟨w.heap.size + 1, 1, none⟩) hC.lt).trans cq1; first | (refine Free.run_yes (by rfl) ?_; go_simp; refine Free.o hK hS ?_; exact rfl) | (refine Free.run_no (by rfl) (Free.o hK hS ?_); exact rfl)
  refine Free.cons ?_ ?_
  · intro w' hS; (rintro _ rfl); intro K hK; have ka0 := (hS.cell (p := ⟨w.heap.size, 0, none⟩) hA.lt).trans aq0; have ka1 := (hS.cell (p := ⟨w.heap.size, 1, none⟩) hA.lt).trans aq1; have ka2 := (hS.cell (p := ⟨w.heap.size + 1, 0, none⟩) hC.lt).trans cq0; have ka3 := (hS.cell (p := ⟨w.heap.size + 1, 1, none⟩) hC.lt).trans cq1; first | (refine Free.run_yes (by rfl) ?_; go_simp; refine Free.o hK hS ?_; exact rfl) | (refine Free.run_no (by rfl) (Free.o hK hS ?_); exact rfl)
  refine Free.cons ?_ ?_
  · intro w' hS; (rintro _ rfl); intro K hK; have ka0 := (hS.cell (p := ⟨w.heap.size, 0, none⟩) hA.lt).trans aq0; have ka1 := (hS.cell (p := ⟨w.heap.size, 1, none⟩) hA.lt).trans aq1; have ka2 := (hS.cell (p := ⟨w.heap.size + 1, 0, none⟩) hC.lt).trans cq0; have ka3 := (hS.cell (p := ⟨w.heap.size + 1, 1, none⟩) hC.lt).trans cq1; first | (refine Free.run_yes (by rfl) ?_; go_simp; refine Free.o hK hS ?_; exact rfl) | (refine Free.run_no (by rfl) (Free.o hK hS ?_); exact rfl)
  refine Free.cons ?_ ?_
  · intro w' hS; (rintro _ rfl); intro K hK; have ka0 := (hS.cell (p := ⟨w.heap.size, 0, none⟩) hA.lt).trans aq0; have ka1 := (hS.cell (p := ⟨w.heap.size, 1, none⟩) hA.lt).trans aq1; have ka2 := (hS.cell (p := ⟨w.heap.size + 1, 0, none⟩) hC.lt).trans cq0; have ka3 := (hS.cell (p := ⟨w.heap.size + 1, 1, none⟩) hC.lt).trans cq1; first | (refine Free.run_yes (by rfl) ?_; go_simp; refine Free.o hK hS ?_; exact rfl) | (refine Free.run_no (by rfl) (Free.o hK hS ?_); exact rfl)
  refine Free.cons ?_ ?_
  · intro w' hS; (rintro _ rfl); (rintro _ rfl); (rintro _ rfl); intro K hK; have ka0 := (hS.cell (p := ⟨w.heap.size, 0, none⟩) hA.lt).trans aq0; have ka1 := (hS.cell (p := ⟨w.heap.size, 1, none⟩) hA.lt).trans aq1; have ka2 := (hS.cell (p := ⟨w.heap.size + 1, 0, none⟩) hC.lt).trans cq0; have ka3 := (hS.cell (p := ⟨w.heap.size + 1, 1, none⟩) hC.lt).trans cq1; refine Free.run_yes (by rfl) ?_; (go_simp; go_at_call 20; refine (HB.out _ (hP1.below hS) (hP2.below hS)).mono ?_; rintro e w' ⟨rfl, hb⟩; (try simp only [Free.valOf, Act.put, List.setIfInBounds_toArray, List.set_cons_zero, List.set_cons_succ, Array.getD_eq_getD_getElem?, List.getElem?_toArray, List.getElem?_cons_succ, List.getElem?_cons_zero, Option.getD_some]); refine hK.out _ _ ?_ (Below.next hS hb (Nat.le_refl _)) (.inr hb); exact rfl)
  refine Free.cons ?_ ?_
  · intro w' hS; (rintro _ rfl); intro K hK; have ka0 := (hS.cell (p := ⟨w.heap.size, 0, none⟩) hA.lt).trans aq0; have ka1 := (hS.cell (p := ⟨w.heap.size, 1, none⟩) hA.lt).trans aq1; have ka2 := (hS.cell (p := ⟨w.heap.size + 1, 0, none⟩) hC.lt).trans cq0; have ka3 := (hS.cell (p := ⟨w.heap.size + 1, 1, none⟩) hC.lt).trans cq1; first | (refine Free.run_yes (by rfl) ?_; go_simp; refine Free.o hK hS ?_; exact rfl) | (refine Free.run_no (by rfl) (Free.o hK hS ?_); exact rfl)
  refine Free.cons ?_ ?_
  · intro w' hS; (rintro _ rfl); intro K hK; have ka0 := (hS.cell (p := ⟨w.heap.size, 0, none⟩) hA.lt).trans aq0; have ka1 := (hS.cell (p := ⟨w.heap.size, 1, none⟩) hA.lt).trans aq1; have ka2 := (hS.cell (p := ⟨w.heap.size + 1, 0, none⟩) hC.lt).trans cq0; have ka3 := (hS.cell (p := ⟨w.heap.size + 1, 1, none⟩) hC.lt).trans cq1; first | (refine Free.run_yes (by rfl) ?_; go_simp; refine Free.o hK hS ?_; exact rfl) | (refine Free.run_no (by rfl) (Free.o hK hS ?_); exact rfl)
  refine Free.cons ?_ ?_
  · intro w' hS; (rintro _ rfl); (rintro _ rfl); (rintro _ rfl); intro K hK; have ka0 := (hS.cell (p := ⟨w.heap.size, 0, none⟩) hA.lt).trans aq0; have ka1 := (hS.cell (p := ⟨w.heap.size, 1, none⟩) hA.lt).trans aq1; have ka2 := (hS.cell (p := ⟨w.heap.size + 1, 0, none⟩) hC.lt).trans cq0; have ka3 := (hS.cell (p := ⟨w.heap.size + 1, 1, none⟩) hC.lt).trans cq1; refine Free.run_yes (by rfl) ?_; (go_simp; go_at_call 19; refine (HS.out _ (h1.below (bl.trans (hS.mono bl.size))) (h2.below (bl.trans (hS.mono bl.size)))).mono ?_; rintro e w' ⟨rfl, hb⟩; (try simp only [Free.valOf, Act.put, List.setIfInBounds_toArray, List.set_cons_zero, List.set_cons_succ, Array.getD_eq_getD_getElem?, List.getElem?_toArray, List.getElem?_cons_succ, List.getElem?_cons_zero, Option.getD_some]); refine hK.out _ _ ?_ (Below.next hS hb (Nat.le_refl _)) (.inr hb); exact rfl)
  refine Free.cons ?_ ?_
  · intro w' hS; (rintro _ rfl); (rintro _ rfl); (rintro _ rfl); intro K hK; have ka0 := (hS.cell (p := ⟨w.heap.size, 0, none⟩) hA.lt).trans aq0; have ka1 := (hS.cell (p := ⟨w.heap.size, 1, none⟩) hA.lt).trans aq1; have ka2 := (hS.cell (p := ⟨w.heap.size + 1, 0, none⟩) hC.lt).trans cq0; have ka3 := (hS.cell (p := ⟨w.heap.size + 1, 1, none⟩) hC.lt).trans cq1; first | (refine Free.run_yes (by rfl) ?_; go_simp; refine Free.o hK hS ?_; exact rfl) | (refine Free.run_no (by rfl) (Free.o hK hS ?_); exact rfl)
  refine Free.cons ?_ ?_
  · intro w' hS; (rintro _ rfl); (rintro _ rfl); intro K hK; have ka0 := (hS.cell (p := ⟨w.heap.size, 0, none⟩) hA.lt).trans aq0; have ka1 := (hS.cell (p := ⟨w.heap.size, 1, none⟩) hA.lt).trans aq1; have ka2 := (hS.cell (p := ⟨w.heap.size + 1, 0, none⟩) hC.lt).trans cq0; have ka3 := (hS.cell (p := ⟨w.heap.size + 1, 1, none⟩) hC.lt).trans cq1; first | (refine Free.run_yes (by rfl) ?_; go_simp; refine Free.o hK hS ?_; exact rfl) | (refine Free.run_no (by rfl) (Free.o hK hS ?_); exact rfl)
  exact Free.nil
  clear hvo
  intro w' hS; intro v0; intro v1; intro v2; intro v3; intro v4; intro v5; intro v6; intro v7; intro v8; intro v9; intro v10; intro v11; intro v12; intro v13; (rintro _ rfl); (try simp only [Act.put, List.setIfInBounds_toArray, List.set_cons_zero, List.set_cons_succ]); refine Free.toldE_nil ?_
  replace bl := Below.next bl hS (Nat.le_refl _)
  clear hS hA hC aq0 aq1 cq0 cq1
  rcases decR_cases b with ⟨⟨t9, V9⟩, hd, hE9, hT9⟩ | hd
  · rw [hd] at H3
    have H6 := Lib.hid (fun A n c w (h : RV w A n c V9) => (show Calls Try.prog 18 #[.agg #[.int .i64 t9, .slice A n c]] w fun e w' => ∃ v, e = .returned (.tuple #[v, .int .i64 0]) ∧ RBv w' v b ∧ Below w.heap.size w w' from by have := row_encode t9 A n c V9 w h; rw [hE9, hT9] at this; exact this))
    clear hd hE9 hT9
    go_wp2_with fail
    refine (H3.out _ (h3.below bl)).mono ?_
    rintro e w10 ⟨A9, n9, c9, rfl, hR9, e3⟩
    replace bl := Below.next bl e3 (Nat.le_refl _)
    clear H3
    clear e3
    have hX9 := Blk.new w10 #[.int .i64 t9, .slice A9 n9 c9] 26
    have b9 : Below w10.heap.size w10 (w10.alloc (.cells #[.int .i64 t9, .slice A9 n9 c9] 26)) := (by repeat (first | exact Below.refl _ _ | assumption | apply below_drewN' | apply Below.drew | refine Below.alloc ?_ (by first | omega | (simp; done) | (simp; omega)) _ | refine Below.setCell ?_ (by first | omega | (simp; done) | (simp; omega)) _))
    replace hR9 := Lib.hid (hR9.below b9)
    replace bl := Below.next bl b9 (Nat.le_refl _)
    clear b9
    go_wp2_with fail
    refine (H6.out _ _ _ _ hR9.out).mono ?_
    rintro e w11 ⟨v11, rfl, hv11, e3⟩
    replace bl := Below.next bl e3 (Nat.le_refl _)
    obtain ⟨P9, k9, rfl, hP9⟩ := hv11.sl n3 hb3.out
    clear hv11 H6 hX9
    clear e3
    go_wp2_with fail
    refine (first16_any _).mono ?_
    rintro e w12 ⟨rfl, e3⟩
    replace bl := Below.next bl e3 (Nat.le_refl _)
    replace hP9 := hP9.below e3
    clear e3
    have hB := ref_Bytes P9 A3 n3 k9 n3 c3 b b _ hP9 (h3.below bl)
    rw [beq_self_eq_true] at hB
    go_wp2_with fail
    refine hB.mono ?_
    rintro e w13 ⟨rfl, rfl⟩
    go_wp2
    go_ret
    exact ⟨rfl, bl⟩
  · rw [hd] at H3
    clear hd
    go_wp2_with fail
    refine (H3.out _ (h3.below bl)).mono ?_
    rintro e w10 ⟨A9, n9, c9, rfl, hR9, e3⟩
    replace bl := Below.next bl e3 (Nat.le_refl _)
    clear H3
    have hz9 : 0 = n9 := hR9.len
    subst hz9
    clear hR9
    clear e3
    have hX9 := Blk.new w10 #[.int .i64 0, .slice A9 0 c9] 26
    have b9 : Below w10.heap.size w10 (w10.alloc (.cells #[.int .i64 0, .slice A9 0 c9] 26)) := (by repeat (first | exact Below.refl _ _ | assumption | apply below_drewN' | apply Below.drew | refine Below.alloc ?_ (by first | omega | (simp; done) | (simp; omega)) _ | refine Below.setCell ?_ (by first | omega | (simp; done) | (simp; omega)) _))
    replace bl := Below.next bl b9 (Nat.le_refl _)
    clear b9
    go_wp2_with fail
    refine (first16_any _).mono ?_
    rintro e w12 ⟨rfl, e3⟩
    replace bl := Below.next bl e3 (Nat.le_refl _)
    have xq0 := hX9.below e3 hX9.lt
    have xq1 := xq0.cell 1 (v := .slice A9 0 c9) rfl
    clear xq0
    clear e3
    go_wp2
    go_ret
    exact ⟨rfl, bl⟩
end Go.Proofs.Ytfldmejjepakeaa
/- row.Key, row.Col and the document's. -/
namespace Go.Proofs.Ytfldmejjepakeaa
open Go.ChangeShapes Go.WideShapes Go.ChangeAt Go.RowKit
open Go.ChangeMaps (open_string shut_string)
set_option linter.unusedVariables false
set_option linter.unusedSimpArgs false
set_option maxRecDepth 100000
open Go.Deep

def rowKE (r : RowR) : Int := match r.V with | [] => 5 | v :: _ => keyE r.t v.k v.n v.s
def rowKT (r : RowR) : List UInt8 := match r.V with | [] => [] | v :: _ => keyT r.t v.k v.n v.s
set_option maxHeartbeats 4000000 in
theorem row_key (t : Int) (A : Option Addr) (n c : Nat) (V : List ValR) (w : World) (h : RV w A n c V) :
    Calls Try.prog 32 #[.agg #[.int .i64 t, .slice A n c]] w fun e w' => e = .returned (.tuple #[.string (str (rowKT ⟨t, V⟩)), .int .i64 (rowKE ⟨t, V⟩)]) ∧ Below w.heap.size w w' := by
  have hl := h.len
  have bb : Below w.heap.size w (w.alloc (.cells #[.int .i64 t, .slice A n c] 26)) := (by repeat (first | exact Below.refl _ _ | assumption | apply below_drewN' | apply Below.drew | refine Below.alloc ?_ (by first | omega | (simp; done) | (simp; omega)) _ | refine Below.setCell ?_ (by first | omega | (simp; done) | (simp; omega)) _))
  cases V with
  | nil =>
    obtain rfl : n = 0 := by simpa using hl.symm
    go_enter Try.func32, Try.ntmps32
    go_wp2
    go_ret2
    exact ⟨rfl, bb⟩
  | cons v V =>
    obtain ⟨g, o, rfl, hc⟩ := h.at_ (by simp at hl; omega)
    obtain ⟨c0, c1, c2⟩ := hc 0 v rfl
    rw [Nat.zero_mul, Nat.add_zero] at c0 c1 c2
    have hg := World.block_lt_of_cell? w _ c0
    have hX := Blk.new w #[.int .i64 t, .slice (some ⟨g, o, none⟩) n c] 26
    have x0 := hX.cell 0 (v := .int .i64 t) rfl
    have x1 := hX.cell 1 (v := .slice (some ⟨g, o, none⟩) n c) rfl
    have hn0 : 0 < n := by simp at hl; omega
    have hne : ((n : Int) == 0) = false := by rw [beq_eq_false_iff_ne]; omega
    have d0 := (bb.cell (p := ⟨g, o, none⟩) hg).trans c0
    have d1 := (bb.cell (p := ⟨g, o + 1, none⟩) hg).trans c1
    have d2 := (bb.cell (p := ⟨g, o + 2, none⟩) hg).trans c2
    have HK := Lib.hid (fun w => key_any t v.k v.n v.s w)
    clear hc hl c0 c1 c2
    go_enter Try.func32, Try.ntmps32
    go_wp2_with fail
    obtain ⟨w1, hw1⟩ : ∃ w1, w.alloc (.cells #[.int .i64 t, .slice (some ⟨g, o, none⟩) n c] 26) = w1 := ⟨_, rfl⟩
    rw [hw1] at x0 x1 d0 d1 d2 bb hX ⊢
    have hg1 := World.block_lt_of_cell? w1 _ d0
    clear hw1
    have hvo := Free.val
    refine Free.wp_facts (M := [0, 1, 0, 4, 12, 28, 63, 127, 127, 511, 1023]) (D := [[], [(0, 8)], [], [(2, 10)], [(3, 11)], [(4, 12)], [(1, 9), (5, 13)], [(6, 14)], [(6, 14)], [(7, 15)], [(8, 16)]]) (outs := [9, 10]) (soles := []) (E := [(0, 8, false), (1, 9, false), (2, 10, false), (3, 11, false), (4, 12, false), (5, 13, false), (6, 14, false), (7, 15, false), (8, 16, false), (9, 2, true), (10, 3, true)]) (N := 17) (S := (fun w' => Below w1.heap.size w1 w')) [Free.Fact.is ?_, Free.Fact.is ?_, Free.Fact.is ?_, Free.Fact.is ?_, Free.Fact.is ?_, Free.Fact.is ?_, Free.Fact.is ?_, Free.Fact.is ?_, Free.Fact.is ?_, Free.Fact.is ?_, Free.Fact.is ?_] (by kernel_rfl) (by kernel_rfl) rfl ((Below.refl _ _).drew) ?_ ?_
    rotate_left 11
    refine Free.cons ?_ ?_
    · intro w' hS; intro K hK; have k0 := (hS.cell (p := ⟨w.heap.size, 0, none⟩) hX.lt).trans x0; have k1 := (hS.cell (p := ⟨w.heap.size, 1, none⟩) hX.lt).trans x1; have k2 := (hS.cell (p := ⟨g, o, none⟩) hg1).trans d0; have k3 := (hS.cell (p := ⟨g, o + 1, none⟩) hg1).trans d1; have k4 := (hS.cell (p := ⟨g, o + 2, none⟩) hg1).trans d2; first | (refine Free.run_yes (by rfl) ?_; go_simp; refine Free.o hK hS ?_; exact rfl) | (refine Free.run_no (by rfl) (Free.o hK hS ?_); exact rfl)
    refine Free.cons ?_ ?_
    · intro w' hS; (rintro _ rfl); intro K hK; have k0 := (hS.cell (p := ⟨w.heap.size, 0, none⟩) hX.lt).trans x0; have k1 := (hS.cell (p := ⟨w.heap.size, 1, none⟩) hX.lt).trans x1; have k2 := (hS.cell (p := ⟨g, o, none⟩) hg1).trans d0; have k3 := (hS.cell (p := ⟨g, o + 1, none⟩) hg1).trans d1; have k4 := (hS.cell (p := ⟨g, o + 2, none⟩) hg1).trans d2; first | (refine Free.run_yes (by rfl) ?_; go_simp; refine Free.o hK hS ?_; exact rfl) | (refine Free.run_no (by rfl) (Free.o hK hS ?_); exact rfl)
    refine Free.cons ?_ ?_
    · intro w' hS; intro K hK; have k0 := (hS.cell (p := ⟨w.heap.size, 0, none⟩) hX.lt).trans x0; have k1 := (hS.cell (p := ⟨w.heap.size, 1, none⟩) hX.lt).trans x1; have k2 := (hS.cell (p := ⟨g, o, none⟩) hg1).trans d0; have k3 := (hS.cell (p := ⟨g, o + 1, none⟩) hg1).trans d1; have k4 := (hS.cell (p := ⟨g, o + 2, none⟩) hg1).trans d2; first | (refine Free.run_yes (by rfl) ?_; go_simp; refine Free.o hK hS ?_; exact rfl) | (refine Free.run_no (by rfl) (Free.o hK hS ?_); exact rfl)
    refine Free.cons ?_ ?_
    · intro w' hS; (rintro _ rfl); intro K hK; have k0 := (hS.cell (p := ⟨w.heap.size, 0, none⟩) hX.lt).trans x0; have k1 := (hS.cell (p := ⟨w.heap.size, 1, none⟩) hX.lt).trans x1; have k2 := (hS.cell (p := ⟨g, o, none⟩) hg1).trans d0; have k3 := (hS.cell (p := ⟨g, o + 1, none⟩) hg1).trans d1; have k4 := (hS.cell (p := ⟨g, o + 2, none⟩) hg1).trans d2; first | (refine Free.run_yes (by rfl) ?_; go_simp; refine Free.o hK hS ?_; exact rfl) | (refine Free.run_no (by rfl) (Free.o hK hS ?_); exact rfl)
    refine Free.cons ?_ ?_
    · intro w' hS; (rintro _ rfl); intro K hK; have k0 := (hS.cell (p := ⟨w.heap.size, 0, none⟩) hX.lt).trans x0; have k1 := (hS.cell (p := ⟨w.heap.size, 1, none⟩) hX.lt).trans x1; have k2 := (hS.cell (p := ⟨g, o, none⟩) hg1).trans d0; have k3 := (hS.cell (p := ⟨g, o + 1, none⟩) hg1).trans d1; have k4 := (hS.cell (p := ⟨g, o + 2, none⟩) hg1).trans d2; first | (refine Free.run_yes (by rfl) ?_; go_simp; refine Free.o hK hS ?_; exact rfl) | (refine Free.run_no (by rfl) (Free.o hK hS ?_); exact rfl)
    refine Free.cons ?_ ?_
    · intro w' hS; (rintro _ rfl); intro K hK; have k0 := (hS.cell (p := ⟨w.heap.size, 0, none⟩) hX.lt).trans x0; have k1 := (hS.cell (p := ⟨w.heap.size, 1, none⟩) hX.lt).trans x1; have k2 := (hS.cell (p := ⟨g, o, none⟩) hg1).trans d0; have k3 := (hS.cell (p := ⟨g, o + 1, none⟩) hg1).trans d1; have k4 := (hS.cell (p := ⟨g, o + 2, none⟩) hg1).trans d2; first | (refine Free.run_yes (by rfl) ?_; go_simp; refine Free.o hK hS ?_; exact rfl) | (refine Free.run_no (by rfl) (Free.o hK hS ?_); exact rfl)
    refine Free.cons ?_ ?_
    · intro w' hS; (rintro _ rfl); (rintro _ rfl); intro K hK; have k0 := (hS.cell (p := ⟨w.heap.size, 0, none⟩) hX.lt).trans x0; have k1 := (hS.cell (p := ⟨w.heap.size, 1, none⟩) hX.lt).trans x1; have k2 := (hS.cell (p := ⟨g, o, none⟩) hg1).trans d0; have k3 := (hS.cell (p := ⟨g, o + 1, none⟩) hg1).trans d1; have k4 := (hS.cell (p := ⟨g, o + 2, none⟩) hg1).trans d2; refine Free.run_yes (by rfl) ?_; (go_simp; go_at_call 59; refine (HK.out _).mono ?_; rintro e w' ⟨rfl, hb⟩; (try simp only [Free.valOf, Act.put, List.setIfInBounds_toArray, List.set_cons_zero, List.set_cons_succ, Array.getD_eq_getD_getElem?, List.getElem?_toArray, List.getElem?_cons_succ, List.getElem?_cons_zero, Option.getD_some]); refine hK.out _ _ ?_ (Below.next hS hb (Nat.le_refl _)) (.inr hb); exact rfl)
    refine Free.cons ?_ ?_
    · intro w' hS; (rintro _ rfl); intro K hK; have k0 := (hS.cell (p := ⟨w.heap.size, 0, none⟩) hX.lt).trans x0; have k1 := (hS.cell (p := ⟨w.heap.size, 1, none⟩) hX.lt).trans x1; have k2 := (hS.cell (p := ⟨g, o, none⟩) hg1).trans d0; have k3 := (hS.cell (p := ⟨g, o + 1, none⟩) hg1).trans d1; have k4 := (hS.cell (p := ⟨g, o + 2, none⟩) hg1).trans d2; first | (refine Free.run_yes (by rfl) ?_; go_simp; refine Free.o hK hS ?_; exact rfl) | (refine Free.run_no (by rfl) (Free.o hK hS ?_); exact rfl)
    refine Free.cons ?_ ?_
    · intro w' hS; (rintro _ rfl); intro K hK; have k0 := (hS.cell (p := ⟨w.heap.size, 0, none⟩) hX.lt).trans x0; have k1 := (hS.cell (p := ⟨w.heap.size, 1, none⟩) hX.lt).trans x1; have k2 := (hS.cell (p := ⟨g, o, none⟩) hg1).trans d0; have k3 := (hS.cell (p := ⟨g, o + 1, none⟩) hg1).trans d1; have k4 := (hS.cell (p := ⟨g, o + 2, none⟩) hg1).trans d2; first | (refine Free.run_yes (by rfl) ?_; go_simp; refine Free.o hK hS ?_; exact rfl) | (refine Free.run_no (by rfl) (Free.o hK hS ?_); exact rfl)
    refine Free.cons ?_ ?_
    · intro w' hS; (rintro _ rfl); intro K hK; have k0 := (hS.cell (p := ⟨w.heap.size, 0, none⟩) hX.lt).trans x0; have k1 := (hS.cell (p := ⟨w.heap.size, 1, none⟩) hX.lt).trans x1; have k2 := (hS.cell (p := ⟨g, o, none⟩) hg1).trans d0; have k3 := (hS.cell (p := ⟨g, o + 1, none⟩) hg1).trans d1; have k4 := (hS.cell (p := ⟨g, o + 2, none⟩) hg1).trans d2; first | (refine Free.run_yes (by rfl) ?_; go_simp; refine Free.o hK hS ?_; exact rfl) | (refine Free.run_no (by rfl) (Free.o hK hS ?_); exact rfl)
    refine Free.cons ?_ ?_
    · intro w' hS; (rintro _ rfl); intro K hK; have k0 := (hS.cell (p := ⟨w.heap.size, 0, none⟩) hX.lt).trans x0; have k1 := (hS.cell (p := ⟨w.heap.size, 1, none⟩) hX.lt).trans x1; have k2 := (hS.cell (p := ⟨g, o, none⟩) hg1).trans d0; have k3 := (hS.cell (p := ⟨g, o + 1, none⟩) hg1).trans d1; have k4 := (hS.cell (p := ⟨g, o + 2, none⟩) hg1).trans d2; first | (refine Free.run_yes (by rfl) ?_; go_simp; refine Free.o hK hS ?_; exact rfl) | (refine Free.run_no (by rfl) (Free.o hK hS ?_); exact rfl)
    exact Free.nil
    clear hvo
    intro w' hS; intro v0; intro v1; intro v2; intro v3; intro v4; intro v5; intro v6; intro v7; intro v8; (rintro _ rfl); (rintro _ rfl); (try simp only [Act.put, List.setIfInBounds_toArray, List.set_cons_zero, List.set_cons_succ]); refine Free.toldE_nil ?_
    go_wp2
    go_ret2
    exact ⟨rfl, Below.next bb hS (Nat.le_refl _)⟩
def colR (V : List ValR) (i : Int) : ValR := if i < 0 then ⟨1, 0, []⟩ else V.getD i.toNat ⟨1, 0, []⟩
theorem colR_neg {V : List ValR} {i : Int} (h : i < 0) : colR V i = ⟨1, 0, []⟩ := if_pos h
theorem colR_far {V : List ValR} {i : Int} (h : (V.length : Int) ≤ i) : colR V i = ⟨1, 0, []⟩ := by
  unfold colR
  rw [if_neg (by omega), List.getD_eq_getElem?_getD, List.getElem?_eq_none (by omega)]
  rfl
theorem colR_in {V : List ValR} {j : Nat} {v : ValR} (h : V[j]? = some v) : colR V (j : Int) = v := by
  unfold colR
  rw [if_neg (by omega), List.getD_eq_getElem?_getD, Int.toNat_natCast, h]
  rfl
def vcR (v : ValR) : Value := .agg #[.int .i64 v.k, .int .i64 v.n, .string (str v.s)]
set_option maxHeartbeats 4000000 in
theorem row_col (t : Int) (A : Option Addr) (n c : Nat) (V : List ValR) (i : Int) (w : World) (h : RV w A n c V) :
    Calls Try.prog 35 #[.agg #[.int .i64 t, .slice A n c], .int .i64 i] w fun e w' => e = .returned (vcR (colR V i)) ∧ Below w.heap.size w w' := by
  have hl := h.len
  have hX0 := (Blk.new w #[.int .i64 t, .slice A n c] 26).alloc (.cells #[.int .i64 0, .int .i64 0, .string (str [])] 51)
  have hR0 := Blk.new2 w (.cells #[.int .i64 t, .slice A n c] 26) #[.int .i64 0, .int .i64 0, .string (str [])] 51
  have bl0 : Below w.heap.size w ((w.alloc (.cells #[.int .i64 t, .slice A n c] 26)).alloc (.cells #[.int .i64 0, .int .i64 0, .string (str [])] 51)) := (by repeat (first | exact Below.refl _ _ | assumption | apply below_drewN' | apply Below.drew | refine Below.alloc ?_ (by first | omega | (simp; done) | (simp; omega)) _ | refine Below.setCell ?_ (by first | omega | (simp; done) | (simp; omega)) _))
  have HZ := Lib.hid (fun w => val_zero 1 w)
  rcases (show i < 0 ∨ (¬ i < 0 ∧ (n : Int) ≤ i) ∨ (∃ j : Nat, i = j ∧ j < n) by
    rcases Int.lt_or_le i 0 with a | a
    · exact .inl a
    · rcases Int.lt_or_le i n with b | b
      · exact .inr (.inr ⟨i.toNat, by omega, by omega⟩)
      · exact .inr (.inl ⟨by omega, b⟩)) with i1 | ⟨i1, i2⟩ | ⟨j, rfl, hj⟩
  · have he := Lib.hid (colR_neg (V := V) i1)
    go_enter Try.func35, Try.ntmps35
    go_wp2_with fail
    refine (HZ.out _).mono ?_
    rintro e w2 ⟨rfl, e2⟩
    have bl := Below.next bl0 e2 (Nat.le_refl _)
    have hR := hR0.below e2 hR0.lt
    have z0 := hR.cell 0 (v := .int .i64 0) rfl
    have z1 := hR.cell 1 (v := .int .i64 0) rfl
    have z2 := hR.cell 2 (v := .string (str [])) rfl
    have y0 := hR.fz 0
    have y1 := hR.fz 1
    have y2 := hR.fz 2
    have hlt := hR.lt
    go_wp2
    have hF := ((hR.set 0 (.int .i64 1)).set 1 (.int .i64 0)).set 2 (.string (str []))
    have bF : Below w.heap.size w (((w2.setCell ⟨w.heap.size + 1, 0, none⟩ (.int .i64 1)).setCell ⟨w.heap.size + 1, 1, none⟩ (.int .i64 0)).setCell ⟨w.heap.size + 1, 2, none⟩ (.string (str []))) := ((bl.setCell (p := ⟨w.heap.size + 1, 0, none⟩) (Nat.le_succ _) _).setCell (p := ⟨w.heap.size + 1, 1, none⟩) (Nat.le_succ _) _).setCell (p := ⟨w.heap.size + 1, 2, none⟩) (Nat.le_succ _) _
    generalize ((w2.setCell ⟨w.heap.size + 1, 0, none⟩ (.int .i64 1)).setCell ⟨w.heap.size + 1, 1, none⟩ (.int .i64 0)).setCell ⟨w.heap.size + 1, 2, none⟩ (.string (str [])) = WF at *
    have f0 := hF.cell 0 (v := .int .i64 1) rfl
    have f1 := hF.cell 1 (v := .int .i64 0) rfl
    have f2 := hF.cell 2 (v := .string (str [])) rfl
    refine bodyPost_ret (v := .agg #[.int .i64 1, .int .i64 0, .string (str [])]) (by simp [results, Try.results35, go_sem, f0, f1, f2]) rfl ?_
    rw [he.out]
    exact ⟨rfl, bF⟩
  · have he := Lib.hid (colR_far (V := V) (i := i) (by omega))
    go_enter Try.func35, Try.ntmps35
    go_wp2_with fail
    refine (HZ.out _).mono ?_
    rintro e w2 ⟨rfl, e2⟩
    have bl := Below.next bl0 e2 (Nat.le_refl _)
    have hR := hR0.below e2 hR0.lt
    have z0 := hR.cell 0 (v := .int .i64 0) rfl
    have z1 := hR.cell 1 (v := .int .i64 0) rfl
    have z2 := hR.cell 2 (v := .string (str [])) rfl
    have y0 := hR.fz 0
    have y1 := hR.fz 1
    have y2 := hR.fz 2
    have hlt := hR.lt
    go_wp2
    have hF := ((hR.set 0 (.int .i64 1)).set 1 (.int .i64 0)).set 2 (.string (str []))
    have bF : Below w.heap.size w (((w2.setCell ⟨w.heap.size + 1, 0, none⟩ (.int .i64 1)).setCell ⟨w.heap.size + 1, 1, none⟩ (.int .i64 0)).setCell ⟨w.heap.size + 1, 2, none⟩ (.string (str []))) := ((bl.setCell (p := ⟨w.heap.size + 1, 0, none⟩) (Nat.le_succ _) _).setCell (p := ⟨w.heap.size + 1, 1, none⟩) (Nat.le_succ _) _).setCell (p := ⟨w.heap.size + 1, 2, none⟩) (Nat.le_succ _) _
    generalize ((w2.setCell ⟨w.heap.size + 1, 0, none⟩ (.int .i64 1)).setCell ⟨w.heap.size + 1, 1, none⟩ (.int .i64 0)).setCell ⟨w.heap.size + 1, 2, none⟩ (.string (str [])) = WF at *
    have f0 := hF.cell 0 (v := .int .i64 1) rfl
    have f1 := hF.cell 1 (v := .int .i64 0) rfl
    have f2 := hF.cell 2 (v := .string (str [])) rfl
    refine bodyPost_ret (v := .agg #[.int .i64 1, .int .i64 0, .string (str [])]) (by simp [results, Try.results35, go_sem, f0, f1, f2]) rfl ?_
    rw [he.out]
    exact ⟨rfl, bF⟩
  · obtain ⟨v, hv⟩ : ∃ v, V[j]? = some v := ⟨_, List.getElem?_eq_getElem (by omega)⟩
    have he := Lib.hid (colR_in hv)
    obtain ⟨g, o, rfl, hc⟩ := h.at_ (by omega)
    obtain ⟨c0, c1, c2⟩ := hc j v hv
    have hg := World.block_lt_of_cell? w _ c0
    clear hc hv
    go_enter Try.func35, Try.ntmps35
    go_wp2
    refine bodyPost_ret (v := .agg #[.int .i64 v.k, .int .i64 v.n, .string (str v.s)]) (by simp [results, Try.results35, go_sem]) rfl ?_
    rw [he.out]
    exact ⟨rfl, (by repeat (first | exact Below.refl _ _ | assumption | apply below_drewN' | apply Below.drew | refine Below.alloc ?_ (by first | omega | (simp; done) | (simp; omega)) _ | refine Below.setCell ?_ (by first | omega | (simp; done) | (simp; omega)) _))⟩
end Go.Proofs.Ytfldmejjepakeaa
/- The document's RowKey, Col. -/
namespace Go.Proofs.Ytfldmejjepakeaa
open Go.ChangeShapes Go.WideShapes Go.ChangeAt Go.RowKit
open Go.ChangeMaps (open_string shut_string)
set_option linter.unusedVariables false
set_option linter.unusedSimpArgs false
set_option maxRecDepth 100000
open Go.Deep

set_option maxHeartbeats 4000000 in
theorem ref_rowkey (t : Int) (A : Option Addr) (n c : Nat) (V : List ValR) (w : World) (h : RV w A n c V) :
    Calls Try.prog 38 #[.agg #[.int .i64 t, .slice A n c]] w fun e w' => e = .returned (.tuple #[.string (str (rowKT ⟨t, V⟩)), .int .i64 (rowKE ⟨t, V⟩)]) ∧ Below w.heap.size w w' := by
  have hl := h.len
  have bb : Below w.heap.size w (w.alloc (.cells #[.int .i64 t, .slice A n c] 26)) := (by repeat (first | exact Below.refl _ _ | assumption | apply below_drewN' | apply Below.drew | refine Below.alloc ?_ (by first | omega | (simp; done) | (simp; omega)) _ | refine Below.setCell ?_ (by first | omega | (simp; done) | (simp; omega)) _))
  cases V with
  | nil =>
    obtain rfl : n = 0 := by simpa using hl.symm
    go_enter Try.func38, Try.ntmps38
    go_wp2
    go_ret2
    exact ⟨rfl, bb⟩
  | cons v V =>
    obtain ⟨g, o, rfl, hc⟩ := h.at_ (by simp at hl; omega)
    obtain ⟨c0, c1, c2⟩ := hc 0 v rfl
    rw [Nat.zero_mul, Nat.add_zero] at c0 c1 c2
    have hg := World.block_lt_of_cell? w _ c0
    have hX := Blk.new w #[.int .i64 t, .slice (some ⟨g, o, none⟩) n c] 26
    have x0 := hX.cell 0 (v := .int .i64 t) rfl
    have x1 := hX.cell 1 (v := .slice (some ⟨g, o, none⟩) n c) rfl
    have hn0 : 0 < n := by simp at hl; omega
    have hne : ((n : Int) == 0) = false := by rw [beq_eq_false_iff_ne]; omega
    have d0 := (bb.cell (p := ⟨g, o, none⟩) hg).trans c0
    have d1 := (bb.cell (p := ⟨g, o + 1, none⟩) hg).trans c1
    have d2 := (bb.cell (p := ⟨g, o + 2, none⟩) hg).trans c2
    have HK := Lib.hid (fun w => rkey_any t v.k v.n v.s w)
    clear hc hl c0 c1 c2
    go_enter Try.func38, Try.ntmps38
    go_wp2_with fail
    obtain ⟨w1, hw1⟩ : ∃ w1, w.alloc (.cells #[.int .i64 t, .slice (some ⟨g, o, none⟩) n c] 26) = w1 := ⟨_, rfl⟩
    rw [hw1] at x0 x1 d0 d1 d2 bb hX ⊢
    have hg1 := World.block_lt_of_cell? w1 _ d0
    clear hw1
    have hvo := Free.val
    refine Free.wp_facts (M := [0, 1, 0, 4, 12, 28, 63, 127, 127, 511, 1023]) (D := [[], [(0, 8)], [], [(2, 10)], [(3, 11)], [(4, 12)], [(1, 9), (5, 13)], [(6, 14)], [(6, 14)], [(7, 15)], [(8, 16)]]) (outs := [9, 10]) (soles := []) (E := [(0, 8, false), (1, 9, false), (2, 10, false), (3, 11, false), (4, 12, false), (5, 13, false), (6, 14, false), (7, 15, false), (8, 16, false), (9, 2, true), (10, 3, true)]) (N := 17) (S := (fun w' => Below w1.heap.size w1 w')) [Free.Fact.is ?_, Free.Fact.is ?_, Free.Fact.is ?_, Free.Fact.is ?_, Free.Fact.is ?_, Free.Fact.is ?_, Free.Fact.is ?_, Free.Fact.is ?_, Free.Fact.is ?_, Free.Fact.is ?_, Free.Fact.is ?_] (by kernel_rfl) (by kernel_rfl) rfl ((Below.refl _ _).drew) ?_ ?_
    rotate_left 11
    refine Free.cons ?_ ?_
    · intro w' hS; intro K hK; have k0 := (hS.cell (p := ⟨w.heap.size, 0, none⟩) hX.lt).trans x0; have k1 := (hS.cell (p := ⟨w.heap.size, 1, none⟩) hX.lt).trans x1; have k2 := (hS.cell (p := ⟨g, o, none⟩) hg1).trans d0; have k3 := (hS.cell (p := ⟨g, o + 1, none⟩) hg1).trans d1; have k4 := (hS.cell (p := ⟨g, o + 2, none⟩) hg1).trans d2; first | (refine Free.run_yes (by rfl) ?_; go_simp; refine Free.o hK hS ?_; exact rfl) | (refine Free.run_no (by rfl) (Free.o hK hS ?_); exact rfl)
    refine Free.cons ?_ ?_
    · intro w' hS; (rintro _ rfl); intro K hK; have k0 := (hS.cell (p := ⟨w.heap.size, 0, none⟩) hX.lt).trans x0; have k1 := (hS.cell (p := ⟨w.heap.size, 1, none⟩) hX.lt).trans x1; have k2 := (hS.cell (p := ⟨g, o, none⟩) hg1).trans d0; have k3 := (hS.cell (p := ⟨g, o + 1, none⟩) hg1).trans d1; have k4 := (hS.cell (p := ⟨g, o + 2, none⟩) hg1).trans d2; first | (refine Free.run_yes (by rfl) ?_; go_simp; refine Free.o hK hS ?_; exact rfl) | (refine Free.run_no (by rfl) (Free.o hK hS ?_); exact rfl)
    refine Free.cons ?_ ?_
    · intro w' hS; intro K hK; have k0 := (hS.cell (p := ⟨w.heap.size, 0, none⟩) hX.lt).trans x0; have k1 := (hS.cell (p := ⟨w.heap.size, 1, none⟩) hX.lt).trans x1; have k2 := (hS.cell (p := ⟨g, o, none⟩) hg1).trans d0; have k3 := (hS.cell (p := ⟨g, o + 1, none⟩) hg1).trans d1; have k4 := (hS.cell (p := ⟨g, o + 2, none⟩) hg1).trans d2; first | (refine Free.run_yes (by rfl) ?_; go_simp; refine Free.o hK hS ?_; exact rfl) | (refine Free.run_no (by rfl) (Free.o hK hS ?_); exact rfl)
    refine Free.cons ?_ ?_
    · intro w' hS; (rintro _ rfl); intro K hK; have k0 := (hS.cell (p := ⟨w.heap.size, 0, none⟩) hX.lt).trans x0; have k1 := (hS.cell (p := ⟨w.heap.size, 1, none⟩) hX.lt).trans x1; have k2 := (hS.cell (p := ⟨g, o, none⟩) hg1).trans d0; have k3 := (hS.cell (p := ⟨g, o + 1, none⟩) hg1).trans d1; have k4 := (hS.cell (p := ⟨g, o + 2, none⟩) hg1).trans d2; first | (refine Free.run_yes (by rfl) ?_; go_simp; refine Free.o hK hS ?_; exact rfl) | (refine Free.run_no (by rfl) (Free.o hK hS ?_); exact rfl)
    refine Free.cons ?_ ?_
    · intro w' hS; (rintro _ rfl); intro K hK; have k0 := (hS.cell (p := ⟨w.heap.size, 0, none⟩) hX.lt).trans x0; have k1 := (hS.cell (p := ⟨w.heap.size, 1, none⟩) hX.lt).trans x1; have k2 := (hS.cell (p := ⟨g, o, none⟩) hg1).trans d0; have k3 := (hS.cell (p := ⟨g, o + 1, none⟩) hg1).trans d1; have k4 := (hS.cell (p := ⟨g, o + 2, none⟩) hg1).trans d2; first | (refine Free.run_yes (by rfl) ?_; go_simp; refine Free.o hK hS ?_; exact rfl) | (refine Free.run_no (by rfl) (Free.o hK hS ?_); exact rfl)
    refine Free.cons ?_ ?_
    · intro w' hS; (rintro _ rfl); intro K hK; have k0 := (hS.cell (p := ⟨w.heap.size, 0, none⟩) hX.lt).trans x0; have k1 := (hS.cell (p := ⟨w.heap.size, 1, none⟩) hX.lt).trans x1; have k2 := (hS.cell (p := ⟨g, o, none⟩) hg1).trans d0; have k3 := (hS.cell (p := ⟨g, o + 1, none⟩) hg1).trans d1; have k4 := (hS.cell (p := ⟨g, o + 2, none⟩) hg1).trans d2; first | (refine Free.run_yes (by rfl) ?_; go_simp; refine Free.o hK hS ?_; exact rfl) | (refine Free.run_no (by rfl) (Free.o hK hS ?_); exact rfl)
    refine Free.cons ?_ ?_
    · intro w' hS; (rintro _ rfl); (rintro _ rfl); intro K hK; have k0 := (hS.cell (p := ⟨w.heap.size, 0, none⟩) hX.lt).trans x0; have k1 := (hS.cell (p := ⟨w.heap.size, 1, none⟩) hX.lt).trans x1; have k2 := (hS.cell (p := ⟨g, o, none⟩) hg1).trans d0; have k3 := (hS.cell (p := ⟨g, o + 1, none⟩) hg1).trans d1; have k4 := (hS.cell (p := ⟨g, o + 2, none⟩) hg1).trans d2; refine Free.run_yes (by rfl) ?_; (go_simp; go_at_call 62; refine (HK.out _).mono ?_; rintro e w' ⟨rfl, hb⟩; (try simp only [Free.valOf, Act.put, List.setIfInBounds_toArray, List.set_cons_zero, List.set_cons_succ, Array.getD_eq_getD_getElem?, List.getElem?_toArray, List.getElem?_cons_succ, List.getElem?_cons_zero, Option.getD_some]); refine hK.out _ _ ?_ (Below.next hS hb (Nat.le_refl _)) (.inr hb); exact rfl)
    refine Free.cons ?_ ?_
    · intro w' hS; (rintro _ rfl); intro K hK; have k0 := (hS.cell (p := ⟨w.heap.size, 0, none⟩) hX.lt).trans x0; have k1 := (hS.cell (p := ⟨w.heap.size, 1, none⟩) hX.lt).trans x1; have k2 := (hS.cell (p := ⟨g, o, none⟩) hg1).trans d0; have k3 := (hS.cell (p := ⟨g, o + 1, none⟩) hg1).trans d1; have k4 := (hS.cell (p := ⟨g, o + 2, none⟩) hg1).trans d2; first | (refine Free.run_yes (by rfl) ?_; go_simp; refine Free.o hK hS ?_; exact rfl) | (refine Free.run_no (by rfl) (Free.o hK hS ?_); exact rfl)
    refine Free.cons ?_ ?_
    · intro w' hS; (rintro _ rfl); intro K hK; have k0 := (hS.cell (p := ⟨w.heap.size, 0, none⟩) hX.lt).trans x0; have k1 := (hS.cell (p := ⟨w.heap.size, 1, none⟩) hX.lt).trans x1; have k2 := (hS.cell (p := ⟨g, o, none⟩) hg1).trans d0; have k3 := (hS.cell (p := ⟨g, o + 1, none⟩) hg1).trans d1; have k4 := (hS.cell (p := ⟨g, o + 2, none⟩) hg1).trans d2; first | (refine Free.run_yes (by rfl) ?_; go_simp; refine Free.o hK hS ?_; exact rfl) | (refine Free.run_no (by rfl) (Free.o hK hS ?_); exact rfl)
    refine Free.cons ?_ ?_
    · intro w' hS; (rintro _ rfl); intro K hK; have k0 := (hS.cell (p := ⟨w.heap.size, 0, none⟩) hX.lt).trans x0; have k1 := (hS.cell (p := ⟨w.heap.size, 1, none⟩) hX.lt).trans x1; have k2 := (hS.cell (p := ⟨g, o, none⟩) hg1).trans d0; have k3 := (hS.cell (p := ⟨g, o + 1, none⟩) hg1).trans d1; have k4 := (hS.cell (p := ⟨g, o + 2, none⟩) hg1).trans d2; first | (refine Free.run_yes (by rfl) ?_; go_simp; refine Free.o hK hS ?_; exact rfl) | (refine Free.run_no (by rfl) (Free.o hK hS ?_); exact rfl)
    refine Free.cons ?_ ?_
    · intro w' hS; (rintro _ rfl); intro K hK; have k0 := (hS.cell (p := ⟨w.heap.size, 0, none⟩) hX.lt).trans x0; have k1 := (hS.cell (p := ⟨w.heap.size, 1, none⟩) hX.lt).trans x1; have k2 := (hS.cell (p := ⟨g, o, none⟩) hg1).trans d0; have k3 := (hS.cell (p := ⟨g, o + 1, none⟩) hg1).trans d1; have k4 := (hS.cell (p := ⟨g, o + 2, none⟩) hg1).trans d2; first | (refine Free.run_yes (by rfl) ?_; go_simp; refine Free.o hK hS ?_; exact rfl) | (refine Free.run_no (by rfl) (Free.o hK hS ?_); exact rfl)
    exact Free.nil
    clear hvo
    intro w' hS; intro v0; intro v1; intro v2; intro v3; intro v4; intro v5; intro v6; intro v7; intro v8; (rintro _ rfl); (rintro _ rfl); (try simp only [Act.put, List.setIfInBounds_toArray, List.set_cons_zero, List.set_cons_succ]); refine Free.toldE_nil ?_
    go_wp2
    go_ret2
    exact ⟨rfl, Below.next bb hS (Nat.le_refl _)⟩
set_option maxHeartbeats 4000000 in
theorem ref_col (t : Int) (A : Option Addr) (n c : Nat) (V : List ValR) (i : Int) (w : World) (h : RV w A n c V) :
    Calls Try.prog 42 #[.agg #[.int .i64 t, .slice A n c], .int .i64 i] w fun e w' => e = .returned (vcR (colR V i)) ∧ Below w.heap.size w w' := by
  have hl := h.len
  have hX0 := (Blk.new w #[.int .i64 t, .slice A n c] 26).alloc (.cells #[.int .i64 0, .int .i64 0, .string (str [])] 51)
  have hR0 := Blk.new2 w (.cells #[.int .i64 t, .slice A n c] 26) #[.int .i64 0, .int .i64 0, .string (str [])] 51
  have bl0 : Below w.heap.size w ((w.alloc (.cells #[.int .i64 t, .slice A n c] 26)).alloc (.cells #[.int .i64 0, .int .i64 0, .string (str [])] 51)) := (by repeat (first | exact Below.refl _ _ | assumption | apply below_drewN' | apply Below.drew | refine Below.alloc ?_ (by first | omega | (simp; done) | (simp; omega)) _ | refine Below.setCell ?_ (by first | omega | (simp; done) | (simp; omega)) _))
  rcases (show i < 0 ∨ (¬ i < 0 ∧ (n : Int) ≤ i) ∨ (∃ j : Nat, i = j ∧ j < n) by
    rcases Int.lt_or_le i 0 with a | a
    · exact .inl a
    · rcases Int.lt_or_le i n with b | b
      · exact .inr (.inr ⟨i.toNat, by omega, by omega⟩)
      · exact .inr (.inl ⟨by omega, b⟩)) with i1 | ⟨i1, i2⟩ | ⟨j, rfl, hj⟩
  · have he := Lib.hid (colR_neg (V := V) i1)
    go_enter Try.func42, Try.ntmps42
    go_wp2
    refine bodyPost_ret (v := .agg #[.int .i64 1, .int .i64 0, .string (str [])]) (by simp [results, Try.results42, go_sem, str]) rfl ?_
    rw [he.out]
    exact ⟨rfl, (by repeat (first | exact Below.refl _ _ | assumption | apply below_drewN' | apply Below.drew | refine Below.alloc ?_ (by first | omega | (simp; done) | (simp; omega)) _ | refine Below.setCell ?_ (by first | omega | (simp; done) | (simp; omega)) _))⟩
  · have he := Lib.hid (colR_far (V := V) (i := i) (by omega))
    go_enter Try.func42, Try.ntmps42
    go_wp2
    refine bodyPost_ret (v := .agg #[.int .i64 1, .int .i64 0, .string (str [])]) (by simp [results, Try.results42, go_sem, str]) rfl ?_
    rw [he.out]
    exact ⟨rfl, (by repeat (first | exact Below.refl _ _ | assumption | apply below_drewN' | apply Below.drew | refine Below.alloc ?_ (by first | omega | (simp; done) | (simp; omega)) _ | refine Below.setCell ?_ (by first | omega | (simp; done) | (simp; omega)) _))⟩
  · obtain ⟨v, hv⟩ : ∃ v, V[j]? = some v := ⟨_, List.getElem?_eq_getElem (by omega)⟩
    have he := Lib.hid (colR_in hv)
    obtain ⟨g, o, rfl, hc⟩ := h.at_ (by omega)
    obtain ⟨c0, c1, c2⟩ := hc j v hv
    have hg := World.block_lt_of_cell? w _ c0
    clear hc hv
    go_enter Try.func42, Try.ntmps42
    go_wp2
    refine bodyPost_ret (v := .agg #[.int .i64 v.k, .int .i64 v.n, .string (str v.s)]) (by simp [results, Try.results42, go_sem]) rfl ?_
    rw [he.out]
    exact ⟨rfl, (by repeat (first | exact Below.refl _ _ | assumption | apply below_drewN' | apply Below.drew | refine Below.alloc ?_ (by first | omega | (simp; done) | (simp; omega)) _ | refine Below.setCell ?_ (by first | omega | (simp; done) | (simp; omega)) _))⟩
end Go.Proofs.Ytfldmejjepakeaa
/- Do values fit kinds; may a row be: the document's. -/
namespace Go.Proofs.Ytfldmejjepakeaa
open Go.ChangeShapes Go.WideShapes Go.ChangeAt Go.RowKit
open Go.ChangeMaps (open_string shut_string)
set_option linter.unusedVariables false
set_option linter.unusedSimpArgs false
set_option maxRecDepth 100000
open Go.Deep

def fit1 (k : Int) (v : ValR) : Bool := v.k == k && mayVR v
def fitsL (K : List Int) (V : List ValR) : Bool := K.length == V.length && (List.range V.length).all fun i => fit1 (K.getD i 0) (V.getD i default)
theorem fits_len {K : List Int} {V : List ValR} (h : K.length ≠ V.length) : fitsL K V = false := by
  unfold fitsL
  rw [beq_eq_false_iff_ne.2 h]
  rfl
theorem fits_no {K : List Int} {V : List ValR} {i : Nat} {k : Int} {v : ValR} (hk : K[i]? = some k) (hv : V[i]? = some v) (h : fit1 k v = false) : fitsL K V = false := by
  have hi := (List.getElem?_eq_some_iff.1 hv).1
  unfold fitsL
  rw [Bool.and_eq_false_iff]
  right
  rw [List.all_eq_false]
  refine ⟨i, List.mem_range.2 hi, ?_⟩
  rw [List.getD_eq_getElem?_getD, List.getD_eq_getElem?_getD, hk, hv]
  simp [h]
theorem fits_yes {K : List Int} {V : List ValR} (hl : K.length = V.length) (h : ∀ i k v, i < V.length → K[i]? = some k → V[i]? = some v → fit1 k v = true) : fitsL K V = true := by
  unfold fitsL
  rw [hl, beq_self_eq_true, Bool.true_and, List.all_eq_true]
  intro i hi
  have hi := List.mem_range.1 hi
  have e1 : K[i]? = some (K[i]'(by omega)) := List.getElem?_eq_getElem (by omega)
  have e2 : V[i]? = some (V[i]'hi) := List.getElem?_eq_getElem hi
  rw [List.getD_eq_getElem?_getD, List.getD_eq_getElem?_getD, e1, e2]
  exact h i _ _ hi e1 e2
set_option maxHeartbeats 4000000 in
theorem ref_fits (A : Option Addr) (n c : Nat) (K : List Int) (A2 : Option Addr) (n2 c2 : Nat) (V : List ValR) (w : World) (h : RN w A n c K) (h2 : RV w A2 n2 c2 V) :
    Calls Try.prog 40 #[.slice A n c, .slice A2 n2 c2] w fun e w' => e = .returned (.bool (fitsL K V)) ∧ Below w.heap.size w w' := by
  have hnm : n ≤ maxLen := Nat.le_trans h.cap h.max
  have hnm2 : n2 ≤ maxLen := Nat.le_trans h2.cap h2.max
  unfold maxLen at hnm hnm2
  have hKn := h.len
  have hVn := h2.len
  by_cases hl : n = n2
  rotate_left
  · have hno := Lib.hid (fits_len (K := K) (V := V) (by omega))
    have e1 : ((n : Int) != (n2 : Int)) = true := by rw [bne_iff_ne]; omega
    go_enter Try.func40, Try.ntmps40
    go_wp2
    go_ret
    exact ⟨(show Ending.returned (.bool false) = .returned (.bool (fitsL K V)) from by rewrite [hno.out]; rfl), Below.refl _ _⟩
  subst hl
  go_enter Try.func40, Try.ntmps40
  go_wp2
  go_loopw [5] (fun i wr => ∃ k : Nat, k ≤ n ∧ i = .int .i64 k ∧ Below w.heap.size w wr ∧ Hid (∀ i k' v, i < k → K[i]? = some k' → V[i]? = some v → fit1 k' v = true)) (fun i _ => n - (intOf i).toNat)
  case atStart => exact ⟨0, by omega, rfl, (by repeat (first | exact Below.refl _ _ | assumption | apply below_drewN' | apply Below.drew | refine Below.alloc ?_ (by first | omega | (simp; done) | (simp; omega)) _ | refine Below.setCell ?_ (by first | omega | (simp; done) | (simp; omega)) _)), Lib.hid (fun i a b hi => absurd hi (by omega))⟩
  case round =>
    obtain ⟨k, hk, rfl, bl, hall⟩ := hrel
    by_cases hlt : k < n
    · obtain ⟨q, hq⟩ : ∃ q, K[k]? = some q := ⟨_, List.getElem?_eq_getElem (by omega)⟩
      obtain ⟨p, hp⟩ : ∃ p, V[k]? = some p := ⟨_, List.getElem?_eq_getElem (by omega)⟩
      obtain ⟨g2, o2, rfl, hd⟩ := h.at_ (by omega)
      have d0 := hd k q hq
      obtain ⟨g, o, rfl, hc⟩ := h2.at_ (by omega)
      obtain ⟨c0, c1, c2⟩ := hc k p hp
      have hqh := Lib.hid hq
      have hph := Lib.hid hp
      clear hc hd hp hq
      have hg2 := World.block_lt_of_cell? w _ d0
      have hg := World.block_lt_of_cell? w _ c0
      obtain ⟨y, hy⟩ : ∃ y, mayVR p = y := ⟨_, rfl⟩
      have HM := Lib.hid (fun w => refmay_is p.k p.n p.s y w hy)
      by_cases hk0 : p.k = q
      rotate_left
      · have e1 : (p.k != q) = true := by rw [bne_iff_ne]; exact hk0
        have hno := Lib.hid (fits_no hqh.out hph.out (by unfold fit1; rw [beq_eq_false_iff_ne.2 hk0]; rfl))
        go_wp2_with fail
        have hvo := Free.val
        refine Free.wp_facts (M := [0, 0, 3, 7, 15, 0, 0, 96, 224, 511, 1023, 2047, 2047, 8191, 16383, 32767, 65535, 131071]) (D := [[], [], [(0, 17), (1, 18)], [(2, 19)], [(3, 20)], [], [], [(5, 22), (6, 23)], [(7, 24)], [(4, 21), (8, 25)], [(9, 26)], [(10, 27)], [(10, 27)], [(11, 28), (12, 29), (10, 27)], [(13, 30), (10, 27)], [(14, 31), (10, 27)], [(15, 32), (10, 27)], [(10, 27), (16, 33)]]) (outs := [17]) (soles := []) (E := [(0, 17, false), (1, 18, false), (2, 19, false), (3, 20, false), (4, 21, false), (5, 22, false), (6, 23, false), (7, 24, false), (8, 25, false), (9, 26, false), (10, 27, false), (11, 28, false), (12, 29, false), (13, 30, false), (14, 31, false), (15, 32, false), (16, 33, false), (17, 34, true)]) (N := 35) (S := (fun w' => Below w.heap.size w w')) [Free.Fact.is ?_, Free.Fact.is ?_, Free.Fact.is ?_, Free.Fact.is ?_, Free.Fact.is ?_, Free.Fact.is ?_, Free.Fact.is ?_, Free.Fact.is ?_, Free.Fact.is ?_, Free.Fact.is ?_, Free.Fact.is ?_, Free.Fact.is ?_, Free.Fact.is ?_, Free.Fact.is ?_, Free.Fact.is ?_, Free.Fact.is ?_, Free.Fact.is ?_, Free.Fact.is ?_] (by kernel_rfl) (by kernel_rfl) rfl (bl.drew) ?_ ?_
        rotate_left 18
        refine Free.cons ?_ ?_
        · intro w' hS; intro K hK; have ka0 := (hS.cell (p := ⟨g, o + k * 3, none⟩) hg).trans c0; have ka1 := (hS.cell (p := ⟨g, o + k * 3 + 1, none⟩) hg).trans c1; have ka2 := (hS.cell (p := ⟨g, o + k * 3 + 2, none⟩) hg).trans c2; have ka3 := (hS.cell (p := ⟨g2, o2 + k, none⟩) hg2).trans d0; first | (refine Free.run_yes (by rfl) ?_; go_simp; refine Free.o hK hS ?_; exact rfl) | (refine Free.run_no (by rfl) (Free.o hK hS ?_); exact rfl)
        refine Free.cons ?_ ?_
        · intro w' hS; intro K hK; have ka0 := (hS.cell (p := ⟨g, o + k * 3, none⟩) hg).trans c0; have ka1 := (hS.cell (p := ⟨g, o + k * 3 + 1, none⟩) hg).trans c1; have ka2 := (hS.cell (p := ⟨g, o + k * 3 + 2, none⟩) hg).trans c2; have ka3 := (hS.cell (p := ⟨g2, o2 + k, none⟩) hg2).trans d0; first | (refine Free.run_yes (by rfl) ?_; go_simp; refine Free.o hK hS ?_; exact rfl) | (refine Free.run_no (by rfl) (Free.o hK hS ?_); exact rfl)
        refine Free.cons ?_ ?_
        · intro w' hS; (rintro _ rfl); (rintro _ rfl); intro K hK; have ka0 := (hS.cell (p := ⟨g, o + k * 3, none⟩) hg).trans c0; have ka1 := (hS.cell (p := ⟨g, o + k * 3 + 1, none⟩) hg).trans c1; have ka2 := (hS.cell (p := ⟨g, o + k * 3 + 2, none⟩) hg).trans c2; have ka3 := (hS.cell (p := ⟨g2, o2 + k, none⟩) hg2).trans d0; first | (refine Free.run_yes (by rfl) ?_; go_simp; refine Free.o hK hS ?_; exact rfl) | (refine Free.run_no (by rfl) (Free.o hK hS ?_); exact rfl)
        refine Free.cons ?_ ?_
        · intro w' hS; (rintro _ rfl); intro K hK; have ka0 := (hS.cell (p := ⟨g, o + k * 3, none⟩) hg).trans c0; have ka1 := (hS.cell (p := ⟨g, o + k * 3 + 1, none⟩) hg).trans c1; have ka2 := (hS.cell (p := ⟨g, o + k * 3 + 2, none⟩) hg).trans c2; have ka3 := (hS.cell (p := ⟨g2, o2 + k, none⟩) hg2).trans d0; first | (refine Free.run_yes (by rfl) ?_; go_simp; refine Free.o hK hS ?_; exact rfl) | (refine Free.run_no (by rfl) (Free.o hK hS ?_); exact rfl)
        refine Free.cons ?_ ?_
        · intro w' hS; (rintro _ rfl); intro K hK; have ka0 := (hS.cell (p := ⟨g, o + k * 3, none⟩) hg).trans c0; have ka1 := (hS.cell (p := ⟨g, o + k * 3 + 1, none⟩) hg).trans c1; have ka2 := (hS.cell (p := ⟨g, o + k * 3 + 2, none⟩) hg).trans c2; have ka3 := (hS.cell (p := ⟨g2, o2 + k, none⟩) hg2).trans d0; first | (refine Free.run_yes (by rfl) ?_; go_simp; refine Free.o hK hS ?_; exact rfl) | (refine Free.run_no (by rfl) (Free.o hK hS ?_); exact rfl)
        refine Free.cons ?_ ?_
        · intro w' hS; intro K hK; have ka0 := (hS.cell (p := ⟨g, o + k * 3, none⟩) hg).trans c0; have ka1 := (hS.cell (p := ⟨g, o + k * 3 + 1, none⟩) hg).trans c1; have ka2 := (hS.cell (p := ⟨g, o + k * 3 + 2, none⟩) hg).trans c2; have ka3 := (hS.cell (p := ⟨g2, o2 + k, none⟩) hg2).trans d0; first | (refine Free.run_yes (by rfl) ?_; go_simp; refine Free.o hK hS ?_; exact rfl) | (refine Free.run_no (by rfl) (Free.o hK hS ?_); exact rfl)
        refine Free.cons ?_ ?_
        · intro w' hS; intro K hK; have ka0 := (hS.cell (p := ⟨g, o + k * 3, none⟩) hg).trans c0; have ka1 := (hS.cell (p := ⟨g, o + k * 3 + 1, none⟩) hg).trans c1; have ka2 := (hS.cell (p := ⟨g, o + k * 3 + 2, none⟩) hg).trans c2; have ka3 := (hS.cell (p := ⟨g2, o2 + k, none⟩) hg2).trans d0; first | (refine Free.run_yes (by rfl) ?_; go_simp; refine Free.o hK hS ?_; exact rfl) | (refine Free.run_no (by rfl) (Free.o hK hS ?_); exact rfl)
        refine Free.cons ?_ ?_
        · intro w' hS; (rintro _ rfl); (rintro _ rfl); intro K hK; have ka0 := (hS.cell (p := ⟨g, o + k * 3, none⟩) hg).trans c0; have ka1 := (hS.cell (p := ⟨g, o + k * 3 + 1, none⟩) hg).trans c1; have ka2 := (hS.cell (p := ⟨g, o + k * 3 + 2, none⟩) hg).trans c2; have ka3 := (hS.cell (p := ⟨g2, o2 + k, none⟩) hg2).trans d0; first | (refine Free.run_yes (by rfl) ?_; go_simp; refine Free.o hK hS ?_; exact rfl) | (refine Free.run_no (by rfl) (Free.o hK hS ?_); exact rfl)
        refine Free.cons ?_ ?_
        · intro w' hS; (rintro _ rfl); intro K hK; have ka0 := (hS.cell (p := ⟨g, o + k * 3, none⟩) hg).trans c0; have ka1 := (hS.cell (p := ⟨g, o + k * 3 + 1, none⟩) hg).trans c1; have ka2 := (hS.cell (p := ⟨g, o + k * 3 + 2, none⟩) hg).trans c2; have ka3 := (hS.cell (p := ⟨g2, o2 + k, none⟩) hg2).trans d0; first | (refine Free.run_yes (by rfl) ?_; go_simp; refine Free.o hK hS ?_; exact rfl) | (refine Free.run_no (by rfl) (Free.o hK hS ?_); exact rfl)
        refine Free.cons ?_ ?_
        · intro w' hS; (rintro _ rfl); (rintro _ rfl); intro K hK; have ka0 := (hS.cell (p := ⟨g, o + k * 3, none⟩) hg).trans c0; have ka1 := (hS.cell (p := ⟨g, o + k * 3 + 1, none⟩) hg).trans c1; have ka2 := (hS.cell (p := ⟨g, o + k * 3 + 2, none⟩) hg).trans c2; have ka3 := (hS.cell (p := ⟨g2, o2 + k, none⟩) hg2).trans d0; first | (refine Free.run_yes (by rfl) ?_; go_simp; refine Free.o hK hS ?_; exact rfl) | (refine Free.run_no (by rfl) (Free.o hK hS ?_); exact rfl)
        refine Free.cons ?_ ?_
        · intro w' hS; (rintro _ rfl); intro K hK; have ka0 := (hS.cell (p := ⟨g, o + k * 3, none⟩) hg).trans c0; have ka1 := (hS.cell (p := ⟨g, o + k * 3 + 1, none⟩) hg).trans c1; have ka2 := (hS.cell (p := ⟨g, o + k * 3 + 2, none⟩) hg).trans c2; have ka3 := (hS.cell (p := ⟨g2, o2 + k, none⟩) hg2).trans d0; first | (refine Free.run_yes (by rfl) ?_; go_simp; refine Free.o hK hS ?_; exact rfl) | (refine Free.run_no (by rfl) (Free.o hK hS ?_); exact rfl)
        refine Free.cons ?_ ?_
        · intro w' hS; (rintro _ rfl); intro K hK; have ka0 := (hS.cell (p := ⟨g, o + k * 3, none⟩) hg).trans c0; have ka1 := (hS.cell (p := ⟨g, o + k * 3 + 1, none⟩) hg).trans c1; have ka2 := (hS.cell (p := ⟨g, o + k * 3 + 2, none⟩) hg).trans c2; have ka3 := (hS.cell (p := ⟨g2, o2 + k, none⟩) hg2).trans d0; first | (refine Free.run_yes (by rfl) ?_; go_simp; refine Free.o hK hS ?_; exact rfl) | (refine Free.run_no (by rfl) (Free.o hK hS ?_); exact rfl)
        refine Free.cons ?_ ?_
        · intro w' hS; (rintro _ rfl); intro K hK; have ka0 := (hS.cell (p := ⟨g, o + k * 3, none⟩) hg).trans c0; have ka1 := (hS.cell (p := ⟨g, o + k * 3 + 1, none⟩) hg).trans c1; have ka2 := (hS.cell (p := ⟨g, o + k * 3 + 2, none⟩) hg).trans c2; have ka3 := (hS.cell (p := ⟨g2, o2 + k, none⟩) hg2).trans d0; first | (refine Free.run_yes (by rfl) ?_; go_simp; refine Free.o hK hS ?_; exact rfl) | (refine Free.run_no (by rfl) (Free.o hK hS ?_); exact rfl)
        refine Free.cons ?_ ?_
        · intro w' hS; (rintro _ rfl); (rintro _ rfl); (rintro _ rfl); intro K hK; have ka0 := (hS.cell (p := ⟨g, o + k * 3, none⟩) hg).trans c0; have ka1 := (hS.cell (p := ⟨g, o + k * 3 + 1, none⟩) hg).trans c1; have ka2 := (hS.cell (p := ⟨g, o + k * 3 + 2, none⟩) hg).trans c2; have ka3 := (hS.cell (p := ⟨g2, o2 + k, none⟩) hg2).trans d0; first | (refine Free.run_yes (by rfl) ?_; go_simp; refine Free.o hK hS ?_; exact rfl) | (refine Free.run_no (by rfl) (Free.o hK hS ?_); exact rfl)
        refine Free.cons ?_ ?_
        · intro w' hS; (rintro _ rfl); (rintro _ rfl); intro K hK; have ka0 := (hS.cell (p := ⟨g, o + k * 3, none⟩) hg).trans c0; have ka1 := (hS.cell (p := ⟨g, o + k * 3 + 1, none⟩) hg).trans c1; have ka2 := (hS.cell (p := ⟨g, o + k * 3 + 2, none⟩) hg).trans c2; have ka3 := (hS.cell (p := ⟨g2, o2 + k, none⟩) hg2).trans d0; first | (refine Free.run_yes (by rfl) ?_; go_simp; refine Free.o hK hS ?_; exact rfl) | (refine Free.run_no (by rfl) (Free.o hK hS ?_); exact rfl)
        refine Free.cons ?_ ?_
        · intro w' hS; (rintro _ rfl); (rintro _ rfl); intro K hK; have ka0 := (hS.cell (p := ⟨g, o + k * 3, none⟩) hg).trans c0; have ka1 := (hS.cell (p := ⟨g, o + k * 3 + 1, none⟩) hg).trans c1; have ka2 := (hS.cell (p := ⟨g, o + k * 3 + 2, none⟩) hg).trans c2; have ka3 := (hS.cell (p := ⟨g2, o2 + k, none⟩) hg2).trans d0; first | (refine Free.run_yes (by rfl) ?_; go_simp; (fail); go_simp; refine Free.c hK (keep hS hb) hb ?_; exact rfl) | (refine Free.run_no (by rfl) (Free.o hK hS ?_); exact rfl)
        refine Free.cons ?_ ?_
        · intro w' hS; (rintro _ rfl); (rintro _ rfl); intro K hK; have ka0 := (hS.cell (p := ⟨g, o + k * 3, none⟩) hg).trans c0; have ka1 := (hS.cell (p := ⟨g, o + k * 3 + 1, none⟩) hg).trans c1; have ka2 := (hS.cell (p := ⟨g, o + k * 3 + 2, none⟩) hg).trans c2; have ka3 := (hS.cell (p := ⟨g2, o2 + k, none⟩) hg2).trans d0; first | (refine Free.run_yes (by rfl) ?_; go_simp; refine Free.o hK hS ?_; exact rfl) | (refine Free.run_no (by rfl) (Free.o hK hS ?_); exact rfl)
        refine Free.cons ?_ ?_
        · intro w' hS; (rintro _ rfl); (rintro _ rfl); intro K hK; have ka0 := (hS.cell (p := ⟨g, o + k * 3, none⟩) hg).trans c0; have ka1 := (hS.cell (p := ⟨g, o + k * 3 + 1, none⟩) hg).trans c1; have ka2 := (hS.cell (p := ⟨g, o + k * 3 + 2, none⟩) hg).trans c2; have ka3 := (hS.cell (p := ⟨g2, o2 + k, none⟩) hg2).trans d0; first | (refine Free.run_yes (by rfl) ?_; go_simp; refine Free.o hK hS ?_; exact rfl) | (refine Free.run_no (by rfl) (Free.o hK hS ?_); exact rfl)
        exact Free.nil
        clear hvo
        intro w' hS; intro v0; intro v1; intro v2; intro v3; intro v4; intro v5; intro v6; intro v7; intro v8; intro v9; intro v10; intro v11; intro v12; intro v13; intro v14; intro v15; intro v16; (rintro _ rfl); (try simp only [Act.put, List.setIfInBounds_toArray, List.set_cons_zero, List.set_cons_succ]); refine Free.toldE_nil ?_
        go_wp2
        go_ret
        exact ⟨(show Ending.returned (.bool false) = .returned (.bool (fitsL K V)) from by rewrite [hno.out]; rfl), hS⟩
      have e1 : (p.k != q) = false := by rw [hk0, bne_self_eq_false]
      cases y with
      | false =>
        have hno := Lib.hid (fits_no hqh.out hph.out (by unfold fit1; rw [hy, Bool.and_false]))
        clear hk0 hy
        go_wp2_with fail
        have hvo := Free.val
        refine Free.wp_facts (M := [0, 0, 3, 7, 15, 0, 0, 96, 224, 511, 1023, 2047, 2047, 8191, 16383, 32767, 65535, 131071]) (D := [[], [], [(0, 17), (1, 18)], [(2, 19)], [(3, 20)], [], [], [(5, 22), (6, 23)], [(7, 24)], [(4, 21), (8, 25)], [(9, 26)], [(10, 27)], [(10, 27)], [(11, 28), (12, 29), (10, 27)], [(13, 30), (10, 27)], [(14, 31), (10, 27)], [(15, 32), (10, 27)], [(10, 27), (16, 33)]]) (outs := [17]) (soles := []) (E := [(0, 17, false), (1, 18, false), (2, 19, false), (3, 20, false), (4, 21, false), (5, 22, false), (6, 23, false), (7, 24, false), (8, 25, false), (9, 26, false), (10, 27, false), (11, 28, false), (12, 29, false), (13, 30, false), (14, 31, false), (15, 32, false), (16, 33, false), (17, 34, true)]) (N := 35) (S := (fun w' => Below w.heap.size w w')) [Free.Fact.is ?_, Free.Fact.is ?_, Free.Fact.is ?_, Free.Fact.is ?_, Free.Fact.is ?_, Free.Fact.is ?_, Free.Fact.is ?_, Free.Fact.is ?_, Free.Fact.is ?_, Free.Fact.is ?_, Free.Fact.is ?_, Free.Fact.is ?_, Free.Fact.is ?_, Free.Fact.is ?_, Free.Fact.is ?_, Free.Fact.is ?_, Free.Fact.is ?_, Free.Fact.is ?_] (by kernel_rfl) (by kernel_rfl) rfl (bl.drew) ?_ ?_
        rotate_left 18
        refine Free.cons ?_ ?_
        · intro w' hS; intro K hK; have ka0 := (hS.cell (p := ⟨g, o + k * 3, none⟩) hg).trans c0; have ka1 := (hS.cell (p := ⟨g, o + k * 3 + 1, none⟩) hg).trans c1; have ka2 := (hS.cell (p := ⟨g, o + k * 3 + 2, none⟩) hg).trans c2; have ka3 := (hS.cell (p := ⟨g2, o2 + k, none⟩) hg2).trans d0; first | (refine Free.run_yes (by rfl) ?_; go_simp; refine Free.o hK hS ?_; exact rfl) | (refine Free.run_no (by rfl) (Free.o hK hS ?_); exact rfl)
        refine Free.cons ?_ ?_
        · intro w' hS; intro K hK; have ka0 := (hS.cell (p := ⟨g, o + k * 3, none⟩) hg).trans c0; have ka1 := (hS.cell (p := ⟨g, o + k * 3 + 1, none⟩) hg).trans c1; have ka2 := (hS.cell (p := ⟨g, o + k * 3 + 2, none⟩) hg).trans c2; have ka3 := (hS.cell (p := ⟨g2, o2 + k, none⟩) hg2).trans d0; first | (refine Free.run_yes (by rfl) ?_; go_simp; refine Free.o hK hS ?_; exact rfl) | (refine Free.run_no (by rfl) (Free.o hK hS ?_); exact rfl)
        refine Free.cons ?_ ?_
        · intro w' hS; (rintro _ rfl); (rintro _ rfl); intro K hK; have ka0 := (hS.cell (p := ⟨g, o + k * 3, none⟩) hg).trans c0; have ka1 := (hS.cell (p := ⟨g, o + k * 3 + 1, none⟩) hg).trans c1; have ka2 := (hS.cell (p := ⟨g, o + k * 3 + 2, none⟩) hg).trans c2; have ka3 := (hS.cell (p := ⟨g2, o2 + k, none⟩) hg2).trans d0; first | (refine Free.run_yes (by rfl) ?_; go_simp; refine Free.o hK hS ?_; exact rfl) | (refine Free.run_no (by rfl) (Free.o hK hS ?_); exact rfl)
        refine Free.cons ?_ ?_
        · intro w' hS; (rintro _ rfl); intro K hK; have ka0 := (hS.cell (p := ⟨g, o + k * 3, none⟩) hg).trans c0; have ka1 := (hS.cell (p := ⟨g, o + k * 3 + 1, none⟩) hg).trans c1; have ka2 := (hS.cell (p := ⟨g, o + k * 3 + 2, none⟩) hg).trans c2; have ka3 := (hS.cell (p := ⟨g2, o2 + k, none⟩) hg2).trans d0; first | (refine Free.run_yes (by rfl) ?_; go_simp; refine Free.o hK hS ?_; exact rfl) | (refine Free.run_no (by rfl) (Free.o hK hS ?_); exact rfl)
        refine Free.cons ?_ ?_
        · intro w' hS; (rintro _ rfl); intro K hK; have ka0 := (hS.cell (p := ⟨g, o + k * 3, none⟩) hg).trans c0; have ka1 := (hS.cell (p := ⟨g, o + k * 3 + 1, none⟩) hg).trans c1; have ka2 := (hS.cell (p := ⟨g, o + k * 3 + 2, none⟩) hg).trans c2; have ka3 := (hS.cell (p := ⟨g2, o2 + k, none⟩) hg2).trans d0; first | (refine Free.run_yes (by rfl) ?_; go_simp; refine Free.o hK hS ?_; exact rfl) | (refine Free.run_no (by rfl) (Free.o hK hS ?_); exact rfl)
        refine Free.cons ?_ ?_
        · intro w' hS; intro K hK; have ka0 := (hS.cell (p := ⟨g, o + k * 3, none⟩) hg).trans c0; have ka1 := (hS.cell (p := ⟨g, o + k * 3 + 1, none⟩) hg).trans c1; have ka2 := (hS.cell (p := ⟨g, o + k * 3 + 2, none⟩) hg).trans c2; have ka3 := (hS.cell (p := ⟨g2, o2 + k, none⟩) hg2).trans d0; first | (refine Free.run_yes (by rfl) ?_; go_simp; refine Free.o hK hS ?_; exact rfl) | (refine Free.run_no (by rfl) (Free.o hK hS ?_); exact rfl)
        refine Free.cons ?_ ?_
        · intro w' hS; intro K hK; have ka0 := (hS.cell (p := ⟨g, o + k * 3, none⟩) hg).trans c0; have ka1 := (hS.cell (p := ⟨g, o + k * 3 + 1, none⟩) hg).trans c1; have ka2 := (hS.cell (p := ⟨g, o + k * 3 + 2, none⟩) hg).trans c2; have ka3 := (hS.cell (p := ⟨g2, o2 + k, none⟩) hg2).trans d0; first | (refine Free.run_yes (by rfl) ?_; go_simp; refine Free.o hK hS ?_; exact rfl) | (refine Free.run_no (by rfl) (Free.o hK hS ?_); exact rfl)
        refine Free.cons ?_ ?_
        · intro w' hS; (rintro _ rfl); (rintro _ rfl); intro K hK; have ka0 := (hS.cell (p := ⟨g, o + k * 3, none⟩) hg).trans c0; have ka1 := (hS.cell (p := ⟨g, o + k * 3 + 1, none⟩) hg).trans c1; have ka2 := (hS.cell (p := ⟨g, o + k * 3 + 2, none⟩) hg).trans c2; have ka3 := (hS.cell (p := ⟨g2, o2 + k, none⟩) hg2).trans d0; first | (refine Free.run_yes (by rfl) ?_; go_simp; refine Free.o hK hS ?_; exact rfl) | (refine Free.run_no (by rfl) (Free.o hK hS ?_); exact rfl)
        refine Free.cons ?_ ?_
        · intro w' hS; (rintro _ rfl); intro K hK; have ka0 := (hS.cell (p := ⟨g, o + k * 3, none⟩) hg).trans c0; have ka1 := (hS.cell (p := ⟨g, o + k * 3 + 1, none⟩) hg).trans c1; have ka2 := (hS.cell (p := ⟨g, o + k * 3 + 2, none⟩) hg).trans c2; have ka3 := (hS.cell (p := ⟨g2, o2 + k, none⟩) hg2).trans d0; first | (refine Free.run_yes (by rfl) ?_; go_simp; refine Free.o hK hS ?_; exact rfl) | (refine Free.run_no (by rfl) (Free.o hK hS ?_); exact rfl)
        refine Free.cons ?_ ?_
        · intro w' hS; (rintro _ rfl); (rintro _ rfl); intro K hK; have ka0 := (hS.cell (p := ⟨g, o + k * 3, none⟩) hg).trans c0; have ka1 := (hS.cell (p := ⟨g, o + k * 3 + 1, none⟩) hg).trans c1; have ka2 := (hS.cell (p := ⟨g, o + k * 3 + 2, none⟩) hg).trans c2; have ka3 := (hS.cell (p := ⟨g2, o2 + k, none⟩) hg2).trans d0; first | (refine Free.run_yes (by rfl) ?_; go_simp; refine Free.o hK hS ?_; exact rfl) | (refine Free.run_no (by rfl) (Free.o hK hS ?_); exact rfl)
        refine Free.cons ?_ ?_
        · intro w' hS; (rintro _ rfl); intro K hK; have ka0 := (hS.cell (p := ⟨g, o + k * 3, none⟩) hg).trans c0; have ka1 := (hS.cell (p := ⟨g, o + k * 3 + 1, none⟩) hg).trans c1; have ka2 := (hS.cell (p := ⟨g, o + k * 3 + 2, none⟩) hg).trans c2; have ka3 := (hS.cell (p := ⟨g2, o2 + k, none⟩) hg2).trans d0; first | (refine Free.run_yes (by rfl) ?_; go_simp; refine Free.o hK hS ?_; exact rfl) | (refine Free.run_no (by rfl) (Free.o hK hS ?_); exact rfl)
        refine Free.cons ?_ ?_
        · intro w' hS; (rintro _ rfl); intro K hK; have ka0 := (hS.cell (p := ⟨g, o + k * 3, none⟩) hg).trans c0; have ka1 := (hS.cell (p := ⟨g, o + k * 3 + 1, none⟩) hg).trans c1; have ka2 := (hS.cell (p := ⟨g, o + k * 3 + 2, none⟩) hg).trans c2; have ka3 := (hS.cell (p := ⟨g2, o2 + k, none⟩) hg2).trans d0; first | (refine Free.run_yes (by rfl) ?_; go_simp; refine Free.o hK hS ?_; exact rfl) | (refine Free.run_no (by rfl) (Free.o hK hS ?_); exact rfl)
        refine Free.cons ?_ ?_
        · intro w' hS; (rintro _ rfl); intro K hK; have ka0 := (hS.cell (p := ⟨g, o + k * 3, none⟩) hg).trans c0; have ka1 := (hS.cell (p := ⟨g, o + k * 3 + 1, none⟩) hg).trans c1; have ka2 := (hS.cell (p := ⟨g, o + k * 3 + 2, none⟩) hg).trans c2; have ka3 := (hS.cell (p := ⟨g2, o2 + k, none⟩) hg2).trans d0; first | (refine Free.run_yes (by rfl) ?_; go_simp; refine Free.o hK hS ?_; exact rfl) | (refine Free.run_no (by rfl) (Free.o hK hS ?_); exact rfl)
        refine Free.cons ?_ ?_
        · intro w' hS; (rintro _ rfl); (rintro _ rfl); (rintro _ rfl); intro K hK; have ka0 := (hS.cell (p := ⟨g, o + k * 3, none⟩) hg).trans c0; have ka1 := (hS.cell (p := ⟨g, o + k * 3 + 1, none⟩) hg).trans c1; have ka2 := (hS.cell (p := ⟨g, o + k * 3 + 2, none⟩) hg).trans c2; have ka3 := (hS.cell (p := ⟨g2, o2 + k, none⟩) hg2).trans d0; first | (refine Free.run_yes (by rfl) ?_; go_simp; refine Free.o hK hS ?_; exact rfl) | (refine Free.run_no (by rfl) (Free.o hK hS ?_); exact rfl)
        refine Free.cons ?_ ?_
        · intro w' hS; (rintro _ rfl); (rintro _ rfl); intro K hK; have ka0 := (hS.cell (p := ⟨g, o + k * 3, none⟩) hg).trans c0; have ka1 := (hS.cell (p := ⟨g, o + k * 3 + 1, none⟩) hg).trans c1; have ka2 := (hS.cell (p := ⟨g, o + k * 3 + 2, none⟩) hg).trans c2; have ka3 := (hS.cell (p := ⟨g2, o2 + k, none⟩) hg2).trans d0; first | (refine Free.run_yes (by rfl) ?_; go_simp; refine Free.o hK hS ?_; exact rfl) | (refine Free.run_no (by rfl) (Free.o hK hS ?_); exact rfl)
        refine Free.cons ?_ ?_
        · intro w' hS; (rintro _ rfl); (rintro _ rfl); intro K hK; have ka0 := (hS.cell (p := ⟨g, o + k * 3, none⟩) hg).trans c0; have ka1 := (hS.cell (p := ⟨g, o + k * 3 + 1, none⟩) hg).trans c1; have ka2 := (hS.cell (p := ⟨g, o + k * 3 + 2, none⟩) hg).trans c2; have ka3 := (hS.cell (p := ⟨g2, o2 + k, none⟩) hg2).trans d0; refine Free.run_yes (by rfl) ?_; (go_simp; go_at_call 66; refine (HM.out _).mono ?_; rintro e w' ⟨rfl, hb⟩; (try simp only [Free.valOf, Act.put, List.setIfInBounds_toArray, List.set_cons_zero, List.set_cons_succ, Array.getD_eq_getD_getElem?, List.getElem?_toArray, List.getElem?_cons_succ, List.getElem?_cons_zero, Option.getD_some]); refine hK.out _ _ ?_ (Below.next hS hb (Nat.le_refl _)) (.inr hb); exact rfl)
        refine Free.cons ?_ ?_
        · intro w' hS; (rintro _ rfl); (rintro _ rfl); intro K hK; have ka0 := (hS.cell (p := ⟨g, o + k * 3, none⟩) hg).trans c0; have ka1 := (hS.cell (p := ⟨g, o + k * 3 + 1, none⟩) hg).trans c1; have ka2 := (hS.cell (p := ⟨g, o + k * 3 + 2, none⟩) hg).trans c2; have ka3 := (hS.cell (p := ⟨g2, o2 + k, none⟩) hg2).trans d0; first | (refine Free.run_yes (by rfl) ?_; go_simp; refine Free.o hK hS ?_; exact rfl) | (refine Free.run_no (by rfl) (Free.o hK hS ?_); exact rfl)
        refine Free.cons ?_ ?_
        · intro w' hS; (rintro _ rfl); (rintro _ rfl); intro K hK; have ka0 := (hS.cell (p := ⟨g, o + k * 3, none⟩) hg).trans c0; have ka1 := (hS.cell (p := ⟨g, o + k * 3 + 1, none⟩) hg).trans c1; have ka2 := (hS.cell (p := ⟨g, o + k * 3 + 2, none⟩) hg).trans c2; have ka3 := (hS.cell (p := ⟨g2, o2 + k, none⟩) hg2).trans d0; first | (refine Free.run_yes (by rfl) ?_; go_simp; refine Free.o hK hS ?_; exact rfl) | (refine Free.run_no (by rfl) (Free.o hK hS ?_); exact rfl)
        exact Free.nil
        clear hvo
        intro w' hS; intro v0; intro v1; intro v2; intro v3; intro v4; intro v5; intro v6; intro v7; intro v8; intro v9; intro v10; intro v11; intro v12; intro v13; intro v14; intro v15; intro v16; (rintro _ rfl); (try simp only [Act.put, List.setIfInBounds_toArray, List.set_cons_zero, List.set_cons_succ]); refine Free.toldE_nil ?_
        go_wp2
        go_ret
        exact ⟨(show Ending.returned (.bool false) = .returned (.bool (fitsL K V)) from by rewrite [hno.out]; rfl), hS⟩
      | true =>
        have hyes := Lib.hid (show fit1 q p = true from by unfold fit1; rw [hy, hk0, beq_self_eq_true]; rfl)
        clear hk0 hy
        go_wp2_with fail
        have hvo := Free.val
        refine Free.wp_facts (M := [0, 0, 3, 7, 15, 0, 0, 96, 224, 511, 1023, 2047, 2047, 8191, 16383, 32767, 65535, 131071]) (D := [[], [], [(0, 17), (1, 18)], [(2, 19)], [(3, 20)], [], [], [(5, 22), (6, 23)], [(7, 24)], [(4, 21), (8, 25)], [(9, 26)], [(10, 27)], [(10, 27)], [(11, 28), (12, 29), (10, 27)], [(13, 30), (10, 27)], [(14, 31), (10, 27)], [(15, 32), (10, 27)], [(10, 27), (16, 33)]]) (outs := [17]) (soles := []) (E := [(0, 17, false), (1, 18, false), (2, 19, false), (3, 20, false), (4, 21, false), (5, 22, false), (6, 23, false), (7, 24, false), (8, 25, false), (9, 26, false), (10, 27, false), (11, 28, false), (12, 29, false), (13, 30, false), (14, 31, false), (15, 32, false), (16, 33, false), (17, 34, true)]) (N := 35) (S := (fun w' => Below w.heap.size w w')) [Free.Fact.is ?_, Free.Fact.is ?_, Free.Fact.is ?_, Free.Fact.is ?_, Free.Fact.is ?_, Free.Fact.is ?_, Free.Fact.is ?_, Free.Fact.is ?_, Free.Fact.is ?_, Free.Fact.is ?_, Free.Fact.is ?_, Free.Fact.is ?_, Free.Fact.is ?_, Free.Fact.is ?_, Free.Fact.is ?_, Free.Fact.is ?_, Free.Fact.is ?_, Free.Fact.is ?_] (by kernel_rfl) (by kernel_rfl) rfl (bl.drew) ?_ ?_
        rotate_left 18
        refine Free.cons ?_ ?_
        · intro w' hS; intro K hK; have ka0 := (hS.cell (p := ⟨g, o + k * 3, none⟩) hg).trans c0; have ka1 := (hS.cell (p := ⟨g, o + k * 3 + 1, none⟩) hg).trans c1; have ka2 := (hS.cell (p := ⟨g, o + k * 3 + 2, none⟩) hg).trans c2; have ka3 := (hS.cell (p := ⟨g2, o2 + k, none⟩) hg2).trans d0; first | (refine Free.run_yes (by rfl) ?_; go_simp; refine Free.o hK hS ?_; exact rfl) | (refine Free.run_no (by rfl) (Free.o hK hS ?_); exact rfl)
        refine Free.cons ?_ ?_
        · intro w' hS; intro K hK; have ka0 := (hS.cell (p := ⟨g, o + k * 3, none⟩) hg).trans c0; have ka1 := (hS.cell (p := ⟨g, o + k * 3 + 1, none⟩) hg).trans c1; have ka2 := (hS.cell (p := ⟨g, o + k * 3 + 2, none⟩) hg).trans c2; have ka3 := (hS.cell (p := ⟨g2, o2 + k, none⟩) hg2).trans d0; first | (refine Free.run_yes (by rfl) ?_; go_simp; refine Free.o hK hS ?_; exact rfl) | (refine Free.run_no (by rfl) (Free.o hK hS ?_); exact rfl)
        refine Free.cons ?_ ?_
        · intro w' hS; (rintro _ rfl); (rintro _ rfl); intro K hK; have ka0 := (hS.cell (p := ⟨g, o + k * 3, none⟩) hg).trans c0; have ka1 := (hS.cell (p := ⟨g, o + k * 3 + 1, none⟩) hg).trans c1; have ka2 := (hS.cell (p := ⟨g, o + k * 3 + 2, none⟩) hg).trans c2; have ka3 := (hS.cell (p := ⟨g2, o2 + k, none⟩) hg2).trans d0; first | (refine Free.run_yes (by rfl) ?_; go_simp; refine Free.o hK hS ?_; exact rfl) | (refine Free.run_no (by rfl) (Free.o hK hS ?_); exact rfl)
        refine Free.cons ?_ ?_
        · intro w' hS; (rintro _ rfl); intro K hK; have ka0 := (hS.cell (p := ⟨g, o + k * 3, none⟩) hg).trans c0; have ka1 := (hS.cell (p := ⟨g, o + k * 3 + 1, none⟩) hg).trans c1; have ka2 := (hS.cell (p := ⟨g, o + k * 3 + 2, none⟩) hg).trans c2; have ka3 := (hS.cell (p := ⟨g2, o2 + k, none⟩) hg2).trans d0; first | (refine Free.run_yes (by rfl) ?_; go_simp; refine Free.o hK hS ?_; exact rfl) | (refine Free.run_no (by rfl) (Free.o hK hS ?_); exact rfl)
        refine Free.cons ?_ ?_
        · intro w' hS; (rintro _ rfl); intro K hK; have ka0 := (hS.cell (p := ⟨g, o + k * 3, none⟩) hg).trans c0; have ka1 := (hS.cell (p := ⟨g, o + k * 3 + 1, none⟩) hg).trans c1; have ka2 := (hS.cell (p := ⟨g, o + k * 3 + 2, none⟩) hg).trans c2; have ka3 := (hS.cell (p := ⟨g2, o2 + k, none⟩) hg2).trans d0; first | (refine Free.run_yes (by rfl) ?_; go_simp; refine Free.o hK hS ?_; exact rfl) | (refine Free.run_no (by rfl) (Free.o hK hS ?_); exact rfl)
        refine Free.cons ?_ ?_
        · intro w' hS; intro K hK; have ka0 := (hS.cell (p := ⟨g, o + k * 3, none⟩) hg).trans c0; have ka1 := (hS.cell (p := ⟨g, o + k * 3 + 1, none⟩) hg).trans c1; have ka2 := (hS.cell (p := ⟨g, o + k * 3 + 2, none⟩) hg).trans c2; have ka3 := (hS.cell (p := ⟨g2, o2 + k, none⟩) hg2).trans d0; first | (refine Free.run_yes (by rfl) ?_; go_simp; refine Free.o hK hS ?_; exact rfl) | (refine Free.run_no (by rfl) (Free.o hK hS ?_); exact rfl)
        refine Free.cons ?_ ?_
        · intro w' hS; intro K hK; have ka0 := (hS.cell (p := ⟨g, o + k * 3, none⟩) hg).trans c0; have ka1 := (hS.cell (p := ⟨g, o + k * 3 + 1, none⟩) hg).trans c1; have ka2 := (hS.cell (p := ⟨g, o + k * 3 + 2, none⟩) hg).trans c2; have ka3 := (hS.cell (p := ⟨g2, o2 + k, none⟩) hg2).trans d0; first | (refine Free.run_yes (by rfl) ?_; go_simp; refine Free.o hK hS ?_; exact rfl) | (refine Free.run_no (by rfl) (Free.o hK hS ?_); exact rfl)
        refine Free.cons ?_ ?_
        · intro w' hS; (rintro _ rfl); (rintro _ rfl); intro K hK; have ka0 := (hS.cell (p := ⟨g, o + k * 3, none⟩) hg).trans c0; have ka1 := (hS.cell (p := ⟨g, o + k * 3 + 1, none⟩) hg).trans c1; have ka2 := (hS.cell (p := ⟨g, o + k * 3 + 2, none⟩) hg).trans c2; have ka3 := (hS.cell (p := ⟨g2, o2 + k, none⟩) hg2).trans d0; first | (refine Free.run_yes (by rfl) ?_; go_simp; refine Free.o hK hS ?_; exact rfl) | (refine Free.run_no (by rfl) (Free.o hK hS ?_); exact rfl)
        refine Free.cons ?_ ?_
        · intro w' hS; (rintro _ rfl); intro K hK; have ka0 := (hS.cell (p := ⟨g, o + k * 3, none⟩) hg).trans c0; have ka1 := (hS.cell (p := ⟨g, o + k * 3 + 1, none⟩) hg).trans c1; have ka2 := (hS.cell (p := ⟨g, o + k * 3 + 2, none⟩) hg).trans c2; have ka3 := (hS.cell (p := ⟨g2, o2 + k, none⟩) hg2).trans d0; first | (refine Free.run_yes (by rfl) ?_; go_simp; refine Free.o hK hS ?_; exact rfl) | (refine Free.run_no (by rfl) (Free.o hK hS ?_); exact rfl)
        refine Free.cons ?_ ?_
        · intro w' hS; (rintro _ rfl); (rintro _ rfl); intro K hK; have ka0 := (hS.cell (p := ⟨g, o + k * 3, none⟩) hg).trans c0; have ka1 := (hS.cell (p := ⟨g, o + k * 3 + 1, none⟩) hg).trans c1; have ka2 := (hS.cell (p := ⟨g, o + k * 3 + 2, none⟩) hg).trans c2; have ka3 := (hS.cell (p := ⟨g2, o2 + k, none⟩) hg2).trans d0; first | (refine Free.run_yes (by rfl) ?_; go_simp; refine Free.o hK hS ?_; exact rfl) | (refine Free.run_no (by rfl) (Free.o hK hS ?_); exact rfl)
        refine Free.cons ?_ ?_
        · intro w' hS; (rintro _ rfl); intro K hK; have ka0 := (hS.cell (p := ⟨g, o + k * 3, none⟩) hg).trans c0; have ka1 := (hS.cell (p := ⟨g, o + k * 3 + 1, none⟩) hg).trans c1; have ka2 := (hS.cell (p := ⟨g, o + k * 3 + 2, none⟩) hg).trans c2; have ka3 := (hS.cell (p := ⟨g2, o2 + k, none⟩) hg2).trans d0; first | (refine Free.run_yes (by rfl) ?_; go_simp; refine Free.o hK hS ?_; exact rfl) | (refine Free.run_no (by rfl) (Free.o hK hS ?_); exact rfl)
        refine Free.cons ?_ ?_
        · intro w' hS; (rintro _ rfl); intro K hK; have ka0 := (hS.cell (p := ⟨g, o + k * 3, none⟩) hg).trans c0; have ka1 := (hS.cell (p := ⟨g, o + k * 3 + 1, none⟩) hg).trans c1; have ka2 := (hS.cell (p := ⟨g, o + k * 3 + 2, none⟩) hg).trans c2; have ka3 := (hS.cell (p := ⟨g2, o2 + k, none⟩) hg2).trans d0; first | (refine Free.run_yes (by rfl) ?_; go_simp; refine Free.o hK hS ?_; exact rfl) | (refine Free.run_no (by rfl) (Free.o hK hS ?_); exact rfl)
        refine Free.cons ?_ ?_
        · intro w' hS; (rintro _ rfl); intro K hK; have ka0 := (hS.cell (p := ⟨g, o + k * 3, none⟩) hg).trans c0; have ka1 := (hS.cell (p := ⟨g, o + k * 3 + 1, none⟩) hg).trans c1; have ka2 := (hS.cell (p := ⟨g, o + k * 3 + 2, none⟩) hg).trans c2; have ka3 := (hS.cell (p := ⟨g2, o2 + k, none⟩) hg2).trans d0; first | (refine Free.run_yes (by rfl) ?_; go_simp; refine Free.o hK hS ?_; exact rfl) | (refine Free.run_no (by rfl) (Free.o hK hS ?_); exact rfl)
        refine Free.cons ?_ ?_
        · intro w' hS; (rintro _ rfl); (rintro _ rfl); (rintro _ rfl); intro K hK; have ka0 := (hS.cell (p := ⟨g, o + k * 3, none⟩) hg).trans c0; have ka1 := (hS.cell (p := ⟨g, o + k * 3 + 1, none⟩) hg).trans c1; have ka2 := (hS.cell (p := ⟨g, o + k * 3 + 2, none⟩) hg).trans c2; have ka3 := (hS.cell (p := ⟨g2, o2 + k, none⟩) hg2).trans d0; first | (refine Free.run_yes (by rfl) ?_; go_simp; refine Free.o hK hS ?_; exact rfl) | (refine Free.run_no (by rfl) (Free.o hK hS ?_); exact rfl)
        refine Free.cons ?_ ?_
        · intro w' hS; (rintro _ rfl); (rintro _ rfl); intro K hK; have ka0 := (hS.cell (p := ⟨g, o + k * 3, none⟩) hg).trans c0; have ka1 := (hS.cell (p := ⟨g, o + k * 3 + 1, none⟩) hg).trans c1; have ka2 := (hS.cell (p := ⟨g, o + k * 3 + 2, none⟩) hg).trans c2; have ka3 := (hS.cell (p := ⟨g2, o2 + k, none⟩) hg2).trans d0; first | (refine Free.run_yes (by rfl) ?_; go_simp; refine Free.o hK hS ?_; exact rfl) | (refine Free.run_no (by rfl) (Free.o hK hS ?_); exact rfl)
        refine Free.cons ?_ ?_
        · intro w' hS; (rintro _ rfl); (rintro _ rfl); intro K hK; have ka0 := (hS.cell (p := ⟨g, o + k * 3, none⟩) hg).trans c0; have ka1 := (hS.cell (p := ⟨g, o + k * 3 + 1, none⟩) hg).trans c1; have ka2 := (hS.cell (p := ⟨g, o + k * 3 + 2, none⟩) hg).trans c2; have ka3 := (hS.cell (p := ⟨g2, o2 + k, none⟩) hg2).trans d0; refine Free.run_yes (by rfl) ?_; (go_simp; go_at_call 66; refine (HM.out _).mono ?_; rintro e w' ⟨rfl, hb⟩; (try simp only [Free.valOf, Act.put, List.setIfInBounds_toArray, List.set_cons_zero, List.set_cons_succ, Array.getD_eq_getD_getElem?, List.getElem?_toArray, List.getElem?_cons_succ, List.getElem?_cons_zero, Option.getD_some]); refine hK.out _ _ ?_ (Below.next hS hb (Nat.le_refl _)) (.inr hb); exact rfl)
        refine Free.cons ?_ ?_
        · intro w' hS; (rintro _ rfl); (rintro _ rfl); intro K hK; have ka0 := (hS.cell (p := ⟨g, o + k * 3, none⟩) hg).trans c0; have ka1 := (hS.cell (p := ⟨g, o + k * 3 + 1, none⟩) hg).trans c1; have ka2 := (hS.cell (p := ⟨g, o + k * 3 + 2, none⟩) hg).trans c2; have ka3 := (hS.cell (p := ⟨g2, o2 + k, none⟩) hg2).trans d0; first | (refine Free.run_yes (by rfl) ?_; go_simp; refine Free.o hK hS ?_; exact rfl) | (refine Free.run_no (by rfl) (Free.o hK hS ?_); exact rfl)
        refine Free.cons ?_ ?_
        · intro w' hS; (rintro _ rfl); (rintro _ rfl); intro K hK; have ka0 := (hS.cell (p := ⟨g, o + k * 3, none⟩) hg).trans c0; have ka1 := (hS.cell (p := ⟨g, o + k * 3 + 1, none⟩) hg).trans c1; have ka2 := (hS.cell (p := ⟨g, o + k * 3 + 2, none⟩) hg).trans c2; have ka3 := (hS.cell (p := ⟨g2, o2 + k, none⟩) hg2).trans d0; first | (refine Free.run_yes (by rfl) ?_; go_simp; refine Free.o hK hS ?_; exact rfl) | (refine Free.run_no (by rfl) (Free.o hK hS ?_); exact rfl)
        exact Free.nil
        clear hvo
        intro w' hS; intro v0; intro v1; intro v2; intro v3; intro v4; intro v5; intro v6; intro v7; intro v8; intro v9; intro v10; intro v11; intro v12; intro v13; intro v14; intro v15; intro v16; (rintro _ rfl); (try simp only [Act.put, List.setIfInBounds_toArray, List.set_cons_zero, List.set_cons_succ]); refine Free.toldE_nil ?_
        go_wp2
        go_roundw
        case rel =>
          refine ⟨k + 1, by omega, by go_num, hS, Lib.hid fun i a b hi ha hb => ?_⟩
          by_cases ei : i = k
          · subst ei; rw [hqh.out] at ha; rw [hph.out] at hb; injection ha with ha; injection hb with hb; rw [← ha, ← hb]; exact hyes.out
          · exact hall.out i a b (by omega) ha hb
        case measure => simp [intOf]; omega
    · have hkn : n = k := by omega
      have hyes := Lib.hid (fits_yes (K := K) (V := V) (by omega) (fun i a b hi ha hb => hall.out i a b (by omega) ha hb))
      subst hkn
      go_wp2
      go_ret
      exact ⟨(show Ending.returned (.bool true) = .returned (.bool (fitsL K V)) from by rewrite [hyes.out]; rfl), bl⟩
end Go.Proofs.Ytfldmejjepakeaa
