/- Rows as bytes: row.Encode, and the document's. -/
import Derived.Test.YtfldmejjepakeaaRwB
import Derived.Test.YtfldmejjepakeaaAppZ
import Derived.Test.YtfldmejjepakeaaVal6
namespace Go.Proofs.Ytfldmejjepakeaa
open Go.ChangeShapes Go.WideShapes Go.ChangeAt Go.RowKit
open Go.ChangeMaps (open_string shut_string)
set_option linter.unusedVariables false
set_option linter.unusedSimpArgs false
set_option maxRecDepth 100000
open Go.Deep

def zr (n : Nat) : List UInt8 := List.replicate n 0
def mayVR (v : ValR) : Bool := mayV v.k v.n v.s
def encVR (v : ValR) : List UInt8 := encB v.k v.n v.s
/-- The texts of values, one behind the other. -/
def bytesV (V : List ValR) : List UInt8 := V.flatMap encVR
/-- Why a row has no text; its text. -/
def rowE (r : RowR) : Int := if r.t < 0 ∨ 4 ≤ r.t ∨ (r.V.length : Int) < 1 ∨ 4 < (r.V.length : Int) then 1 else if r.V.all mayVR = true then 0 else 12
def rowB (r : RowR) : List UInt8 := UInt8.ofNat (r.t + 1).toNat :: (bytesV r.V ++ zr (36 - 9 * r.V.length))
def rowT (r : RowR) : List UInt8 := if rowE r = 0 then rowB r else []
theorem encVR_len {v : ValR} (h : mayVR v = true) : (encVR v).length = 9 := by
  unfold mayVR at h
  unfold encVR encB
  split
  · rw [List.length_cons, be_length]
  · rw [List.length_cons, fill_length]
theorem bytesV_len (V : List ValR) (h : ∀ v ∈ V, mayVR v = true) : (bytesV V).length = 9 * V.length := by
  induction V with
  | nil => rfl
  | cons v r ih =>
    have h1 := encVR_len (h v (by simp))
    have h2 := ih (fun c hc => h c (by simp [hc]))
    unfold bytesV at *
    rw [List.flatMap_cons, List.length_append, h2, List.length_cons, h1]
    omega
theorem bytesV_snoc (V : List ValR) (v : ValR) : bytesV (V ++ [v]) = bytesV V ++ encVR v := by simp [bytesV]
theorem rowE_one {r : RowR} (h : r.t < 0 ∨ 4 ≤ r.t ∨ (r.V.length : Int) < 1 ∨ 4 < (r.V.length : Int)) : rowE r = 1 := if_pos h
theorem rowE_kind {r : RowR} (h : ¬ (r.t < 0 ∨ 4 ≤ r.t ∨ (r.V.length : Int) < 1 ∨ 4 < (r.V.length : Int))) {i : Nat} {v : ValR} (hv : r.V[i]? = some v) (hm : mayVR v = false) : rowE r = 12 := by
  unfold rowE
  rw [if_neg h, if_neg]
  intro ha
  rw [List.all_eq_true] at ha
  have := ha v (List.mem_of_getElem? hv)
  rw [hm] at this
  cases this
theorem rowE_ok {r : RowR} (h : ¬ (r.t < 0 ∨ 4 ≤ r.t ∨ (r.V.length : Int) < 1 ∨ 4 < (r.V.length : Int))) (hm : ∀ (i : Nat) (v : ValR), i < r.V.length → r.V[i]? = some v → mayVR v = true) : rowE r = 0 := by
  unfold rowE
  rw [if_neg h, if_pos]
  rw [List.all_eq_true]
  intro v hv
  obtain ⟨i, hi⟩ := List.mem_iff_getElem?.1 hv
  exact hm i v (List.getElem?_eq_some_iff.1 hi).1 hi
theorem rowE_zero {r : RowR} (h : rowE r = 0) : (0 ≤ r.t ∧ r.t < 4 ∧ 1 ≤ r.V.length ∧ r.V.length ≤ 4) ∧ ∀ v ∈ r.V, mayVR v = true := by
  unfold rowE at h
  split at h
  · cases h
  · rename_i hh
    split at h
    · rename_i ha
      rw [List.all_eq_true] at ha
      exact ⟨by omega, ha⟩
    · cases h
theorem rowT_no {r : RowR} (h : rowE r ≠ 0) : rowT r = [] := if_neg h
theorem rowT_len {r : RowR} (h : rowE r = 0) : (rowT r).length = 37 := by
  obtain ⟨h1, h2⟩ := rowE_zero h
  unfold rowT
  rw [if_pos h]
  unfold rowB zr
  rw [List.length_cons, List.length_append, bytesV_len _ h2, List.length_replicate]
  omega
theorem encE_is (v : ValR) : encE v.k v.n v.s = if mayVR v = true then 0 else 12 := rfl
theorem take_all {V : List ValR} {k : Nat} {p : ValR → Prop} (h : ∀ (i : Nat) (v : ValR), i < k → V[i]? = some v → p v) : ∀ v ∈ V.take k, p v := by
  intro y hy
  obtain ⟨i, hi⟩ := List.mem_iff_getElem?.1 hy
  rw [List.getElem?_take] at hi
  by_cases ik : i < k
  · rw [if_pos ik] at hi
    exact h i y ik hi
  · rw [if_neg ik] at hi
    cases hi
/-- What is told: a slice that reads as l. -/
def RBv (w : World) (v : Value) (l : List UInt8) : Prop := ∃ A n c, v = .slice A n c ∧ RB w A n c l
theorem RBv.nil (w : World) : RBv w (.slice none 0 0) [] := ⟨none, 0, 0, rfl, RB.none_ w⟩
theorem RBv.sl {w : World} {v : Value} {l : List UInt8} (h : RBv w v l) (n : Nat) (hn : l.length = n) : ∃ A c, v = .slice A n c ∧ RB w A n c l := by
  obtain ⟨A, m, c, rfl, hr⟩ := h
  obtain rfl : m = n := by rw [← hr.len, hn]
  exact ⟨A, c, rfl, hr⟩
set_option maxHeartbeats 8000000 in
theorem row_encode (t : Int) (A : Option Addr) (n c : Nat) (V : List ValR) (w : World) (h : RV w A n c V) :
    Calls Try.prog 18 #[.agg #[.int .i64 t, .slice A n c]] w fun e w' => ∃ v, e = .returned (.tuple #[v, .int .i64 (rowE ⟨t, V⟩)]) ∧ RBv w' v (rowT ⟨t, V⟩) ∧ Below w.heap.size w w' := by
  have hLn := h.len
  have hnm : n ≤ maxLen := Nat.le_trans h.cap h.max
  unfold maxLen at hnm
  obtain ⟨E, hE⟩ : ∃ E, rowE ⟨t, V⟩ = E := ⟨_, rfl⟩
  rw [hE]
  have hres := Lib.hid hE
  clear hE
  have hX0 := Blk.new w #[.int .i64 t, .slice A n c] 26
  have bb : Below w.heap.size w (w.alloc (.cells #[.int .i64 t, .slice A n c] 26)) := (by repeat (first | exact Below.refl _ _ | assumption | apply below_drewN' | apply Below.drew | refine Below.alloc ?_ (by first | omega | (simp; done) | (simp; omega)) _ | refine Below.setCell ?_ (by first | omega | (simp; done) | (simp; omega)) _))
  rcases (show t < 0 ∨ (¬ t < 0 ∧ 4 ≤ t) ∨ (¬ t < 0 ∧ ¬ 4 ≤ t) by omega) with t1 | ⟨t1, t2⟩ | ⟨t1, t2⟩
  · have e1 := Lib.hid (rowE_one (r := ⟨t, V⟩) (.inl t1))
    go_enter Try.func18, Try.ntmps18
    go_wp2
    go_ret2
    exact ⟨_, (show Ending.returned (.tuple #[.slice none 0 0, .int .i64 1]) = .returned (.tuple #[_, .int .i64 E]) from by rw [← hres.out, e1.out]), (show RBv _ (.slice none 0 0) (rowT ⟨t, V⟩) from by rw [rowT_no (by rw [e1.out]; decide)]; exact RBv.nil _), bb⟩
  · have e1 := Lib.hid (rowE_one (r := ⟨t, V⟩) (.inr (.inl t2)))
    go_enter Try.func18, Try.ntmps18
    go_wp2
    go_ret2
    exact ⟨_, (show Ending.returned (.tuple #[.slice none 0 0, .int .i64 1]) = .returned (.tuple #[_, .int .i64 E]) from by rw [← hres.out, e1.out]), (show RBv _ (.slice none 0 0) (rowT ⟨t, V⟩) from by rw [rowT_no (by rw [e1.out]; decide)]; exact RBv.nil _), bb⟩
  rcases (show n < 1 ∨ (¬ n < 1 ∧ 4 < n) ∨ (¬ n < 1 ∧ ¬ 4 < n) by omega) with n1 | ⟨n1, n2⟩ | ⟨n1, n2⟩
  · have e1 := Lib.hid (rowE_one (r := ⟨t, V⟩) (.inr (.inr (.inl (by show (V.length : Int) < 1; omega)))))
    have n1' : (n : Int) < 1 := by omega
    go_enter Try.func18, Try.ntmps18
    go_wp2
    go_ret2
    exact ⟨_, (show Ending.returned (.tuple #[.slice none 0 0, .int .i64 1]) = .returned (.tuple #[_, .int .i64 E]) from by rw [← hres.out, e1.out]), (show RBv _ (.slice none 0 0) (rowT ⟨t, V⟩) from by rw [rowT_no (by rw [e1.out]; decide)]; exact RBv.nil _), bb⟩
  · have e1 := Lib.hid (rowE_one (r := ⟨t, V⟩) (.inr (.inr (.inr (by show 4 < (V.length : Int); omega)))))
    have n1' : ¬ (n : Int) < 1 := by omega
    have n2' : 4 < (n : Int) := by omega
    go_enter Try.func18, Try.ntmps18
    go_wp2
    go_ret2
    exact ⟨_, (show Ending.returned (.tuple #[.slice none 0 0, .int .i64 1]) = .returned (.tuple #[_, .int .i64 E]) from by rw [← hres.out, e1.out]), (show RBv _ (.slice none 0 0) (rowT ⟨t, V⟩) from by rw [rowT_no (by rw [e1.out]; decide)]; exact RBv.nil _), bb⟩
  have n1' : ¬ (n : Int) < 1 := by omega
  have n2' : ¬ 4 < (n : Int) := by omega
  have hin := Lib.hid (show ¬ (t < 0 ∨ 4 ≤ t ∨ (V.length : Int) < 1 ∨ 4 < (V.length : Int)) by omega)
  obtain ⟨x, hx⟩ : ∃ x, x = UInt8.ofNat (t + 1).toNat := ⟨_, rfl⟩
  have hw1 : IntKind.i64.wrap (t + 1) = t + 1 := IntWalk.i64_in _ (by omega)
  have hx8 : IntKind.u8.wrap (t + 1) = (x.toNat : Int) := by rw [hx, UInt8.toNat_ofNat', IntKind.wrap_u8]; omega
  have hx9 : (t + 1) % 256 = (x.toNat : Int) := by rw [hx, UInt8.toNat_ofNat']; omega
  have hxh := Lib.hid hx
  clear hx
  go_enter Try.func18, Try.ntmps18
  go_wp2
  go_loopw [4, 37] (fun s i wr => ∃ (k : Nat) (v : Value), k ≤ n ∧ s = v ∧ i = .int .i64 k ∧ OB wr w.heap.size v (x :: bytesV (V.take k)) ∧ Below w.heap.size w wr ∧ Hid (∀ (i : Nat) (v : ValR), i < k → V[i]? = some v → mayVR v = true)) (fun s i _ => n - (intOf i).toNat)
  case atStart =>
    refine ⟨0, _, by omega, rfl, rfl, ?_, (by repeat (first | exact Below.refl _ _ | assumption | apply below_drewN' | apply Below.drew | refine Below.alloc ?_ (by first | omega | (simp; done) | (simp; omega)) _ | refine Below.setCell ?_ (by first | omega | (simp; done) | (simp; omega)) _)), Lib.hid (fun i v hi => absurd hi (by omega))⟩
    have := OB.of_row (w := (w.alloc (.cells #[.int .i64 t, .slice A n c] 26)).alloc (.cells (bcells [x]) 5)) (B := w.heap.size) (l := [x]) (Blk.new _ _ _) (by unfold maxLen; simp) (by simp)
    rw [World.size_alloc] at this
    exact this
  case round =>
    obtain ⟨k, u, hk, rfl, rfl, hO, bl, hall⟩ := hrel
    have hTl : (x :: bytesV (V.take k)).length = 1 + 9 * k := by
      rw [List.length_cons, bytesV_len _ (take_all hall.out), List.length_take]
      omega
    replace hTl := Lib.hid hTl
    obtain ⟨A', c', rfl, hR⟩ := hO.sl (1 + 9 * k) hTl.out
    have hc37 := hR.cap
    by_cases hlt : k < n
    · obtain ⟨p, hp⟩ : ∃ p, V[k]? = some p := ⟨_, List.getElem?_eq_getElem (by omega)⟩
      obtain ⟨g, o, rfl, hc⟩ := h.at_ (by omega)
      obtain ⟨c0, c1, c2⟩ := hc k p hp
      have hph := Lib.hid hp
      have hg := World.block_lt_of_cell? w _ c0
      replace c0 := (bl.cell (p := ⟨g, _, none⟩) hg).trans c0
      replace c1 := (bl.cell (p := ⟨g, _, none⟩) (World.block_lt_of_cell? w _ c1)).trans c1
      replace c2 := (bl.cell (p := ⟨g, _, none⟩) (World.block_lt_of_cell? w _ c2)).trans c2
      clear hc hp
      obtain ⟨pk, pn, ps⟩ := p
      have hsz := bl.size
      have HE := Lib.hid (fun w => enc_any pk pn ps w)
      have hX := Blk.new wr #[.int .i64 (pk), .int .i64 (pn), .string (str (ps))] 51
      have ba : Below wr.heap.size wr (wr.alloc (.cells #[.int .i64 (pk), .int .i64 (pn), .string (str (ps))] 51)) := (by repeat (first | exact Below.refl _ _ | assumption | apply below_drewN' | apply Below.drew | refine Below.alloc ?_ (by first | omega | (simp; done) | (simp; omega)) _ | refine Below.setCell ?_ (by first | omega | (simp; done) | (simp; omega)) _))
      have bl2 := Below.next bl ba (Nat.le_refl _)
      have hO2 := hO.below ba
      clear hO bl
      go_wp2_with fail
      refine (HE.out _).mono ?_
      rintro e w4 ⟨v4, rfl, hO4, b4⟩
      have bl4 := Below.next bl2 b4 (Nat.le_refl _)
      have hO5 := hO2.below b4
      clear bl2 hO2
      cases hm : mayV pk pn ps with
      | false =>
        have hm := Lib.hid hm
        have e1 := Lib.hid (rowE_kind (r := ⟨t, V⟩) hin.out hph.out (show mayVR ⟨pk, pn, ps⟩ = false from hm.out))
        rw [show encE pk pn ps = 12 from by unfold encE; rw [hm.out]; rfl]
        rw [show encT pk pn ps = [] from by unfold encT; rw [hm.out]; rfl] at hO4
        obtain ⟨A4, c4, rfl, hR4⟩ := hO4.sl 0 rfl
        go_wp2
        go_ret2
        exact ⟨_, (show Ending.returned (.tuple #[.slice none 0 0, .int .i64 12]) = .returned (.tuple #[_, .int .i64 E]) from by rw [← hres.out, e1.out]), (show RBv _ (.slice none 0 0) (rowT ⟨t, V⟩) from by rw [rowT_no (by rw [e1.out]; decide)]; exact RBv.nil _), bl4⟩
      | true =>
        have hm := Lib.hid hm
        rw [show encE pk pn ps = 0 from by unfold encE; rw [hm.out]; rfl]
        rw [show encT pk pn ps = encVR ⟨pk, pn, ps⟩ from by unfold encT; rw [hm.out]; rfl] at hO4
        obtain ⟨A4, c4, rfl, hR4⟩ := hO4.sl 9 (encVR_len hm.out)
        have hnx : Hid (x :: bytesV (V.take (k + 1)) = (x :: bytesV (V.take k)) ++ encVR ⟨pk, pn, ps⟩) := Lib.hid (by rw [List.take_add_one, hph.out, Option.toList_some, bytesV_snoc, List.cons_append])
        generalize x :: bytesV (V.take k) = T at *
        generalize encVR ⟨pk, pn, ps⟩ = e9 at *
        go_wp2_with (refine wpList_app rfl (.tmp 49) (.tmp 50) rfl w.heap.size (.slice A' (1 + 9 * k) c') T e9 A4 9 c4 rfl rfl hO5 hR4 (by rw [hTl.out]; omega) (by have := bl4.size; omega) ?_; intro v6 w6 ha)
        go_roundw
        case rel =>
          refine ⟨k + 1, _, by omega, rfl, by go_num, (by rw [hnx.out]; exact ha.own), bl4.keeps ha.keeps (fun i hi e => by have := (hO5.lt i e).1; omega) (Nat.le_refl _), Lib.hid fun i v hi hv => ?_⟩
          by_cases ei : i = k
          · subst ei; rw [hph.out] at hv; injection hv with hv; rw [← hv]; exact hm.out
          · exact hall.out i v (by omega) hv
        case measure => simp [intOf]; omega
    · have hkn : n = k := by omega
      have e1 := Lib.hid (rowE_ok (r := ⟨t, V⟩) hin.out (fun i v hi hv => hall.out i v (by have : i < V.length := hi; omega) hv))
      have hfin : Hid (rowT ⟨t, V⟩ = (x :: bytesV (V.take k)) ++ zr (36 - 9 * k)) := Lib.hid (by
        unfold rowT
        rw [if_pos e1.out]
        unfold rowB
        rw [← hxh.out, hLn, hkn, List.take_of_length_le (by omega), List.cons_append])
      generalize x :: bytesV (V.take k) = T at *
      subst hkn
      obtain ⟨z, hz⟩ : ∃ z : Nat, 36 - 9 * n = z := ⟨_, rfl⟩
      obtain ⟨m, hm⟩ : ∃ m : Nat, 1 + 9 * n = m := ⟨_, rfl⟩
      rw [hz] at hfin
      have hz1 : (37 : Int) - (m : Int) = (z : Int) := by omega
      have hz2 : IntKind.i64.wrap (37 - (m : Int)) = (z : Int) := by rw [hz1]; exact IntWalk.i64_in _ (by omega)
      have hz3 : IntKind.i64.wrap (z : Int) = (z : Int) := IntWalk.i64_in _ (by omega)
      have hms : 0 < m ∧ m + z ≤ 256 := by omega
      clear hTl
      rw [hm] at hR hO ⊢
      replace hm := Lib.hid hm
      replace hz := Lib.hid hz
      replace hms := Lib.hid hms
      go_wp2_with (refine wpList_appz rfl (.tmp 53) (.tmp 56) rfl w.heap.size (.slice A' m c') T m z rfl rfl hO hR.len hms.out.1 hms.out.2 bl.size ?_; intro A6 c6 w6 hR6 hb6)
      go_ret2
      exact ⟨_, (show Ending.returned (.tuple #[.slice A6 _ c6, .int .i64 0]) = .returned (.tuple #[_, .int .i64 E]) from by rw [← hres.out, e1.out]), (show RBv w6 (.slice A6 (m + z) c6) (rowT ⟨t, V⟩) from by rw [hfin.out]; exact ⟨_, _, _, rfl, hR6⟩), bl.trans hb6⟩
end Go.Proofs.Ytfldmejjepakeaa
