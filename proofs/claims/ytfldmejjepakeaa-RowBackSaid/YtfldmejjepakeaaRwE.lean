/- Slices of values of the call's own; a row's text, read (pure). -/
import Derived.Test.YtfldmejjepakeaaRwD
import Derived.Test.YtfldmejjepakeaaVal13
import Derived.Laws.OwnMore
namespace Go.Proofs.Ytfldmejjepakeaa
open Go.ChangeShapes Go.WideShapes Go.ChangeAt Go.RowKit
open Go.ChangeMaps (open_string shut_string)
set_option linter.unusedVariables false
set_option linter.unusedSimpArgs false
set_option maxRecDepth 100000
open Go.Deep

def cell3 (v : ValR) : List Value := [.int .i64 v.k, .int .i64 v.n, .string (str v.s)]
def cellsV (V : List ValR) : List Value := V.flatMap cell3
theorem cellsV_cons (v : ValR) (V : List ValR) : cellsV (v :: V) = .int .i64 v.k :: .int .i64 v.n :: .string (str v.s) :: cellsV V := rfl
theorem cellsV_len (V : List ValR) : (cellsV V).length = V.length * 3 := by
  induction V with
  | nil => rfl
  | cons v V ih => rw [cellsV_cons]; simp only [List.length_cons, ih]; omega
theorem cellsV_app (V M : List ValR) : cellsV (V ++ M) = cellsV V ++ cellsV M := by simp [cellsV]
theorem cellsV_at {V : List ValR} : ∀ {i : Nat} {v : ValR}, V[i]? = some v → (cellsV V)[i * 3]? = some (.int .i64 v.k) ∧ (cellsV V)[i * 3 + 1]? = some (.int .i64 v.n) ∧ (cellsV V)[i * 3 + 2]? = some (.string (str v.s)) := by
  induction V with
  | nil => intro i v h; simp at h
  | cons u V ih =>
    intro i v h
    cases i with
    | zero =>
      simp at h
      subst h
      exact ⟨rfl, rfl, rfl⟩
    | succ i =>
      obtain ⟨h0, h1, h2⟩ := ih (i := i) (v := v) (by simpa using h)
      rw [cellsV_cons]
      refine ⟨?_, ?_, ?_⟩
      · rw [show (i + 1) * 3 = i * 3 + 1 + 1 + 1 by omega]; simpa using h0
      · rw [show (i + 1) * 3 + 1 = i * 3 + 1 + 1 + 1 + 1 by omega]; simpa using h1
      · rw [show (i + 1) * 3 + 2 = i * 3 + 2 + 1 + 1 + 1 by omega]; simpa using h2
theorem cellsV_inv {V : List ValR} : ∀ {j : Nat} {u : Value}, (cellsV V)[j]? = some u → ∃ i v, V[i]? = some v ∧ ((j = i * 3 ∧ u = .int .i64 v.k) ∨ (j = i * 3 + 1 ∧ u = .int .i64 v.n) ∨ (j = i * 3 + 2 ∧ u = .string (str v.s))) := by
  induction V with
  | nil => intro j u h; simp [cellsV] at h
  | cons w V ih =>
    intro j u h
    rw [cellsV_cons] at h
    match j with
    | 0 => simp at h; exact ⟨0, w, rfl, .inl ⟨rfl, h.symm⟩⟩
    | 1 => simp at h; exact ⟨0, w, rfl, .inr (.inl ⟨rfl, h.symm⟩)⟩
    | 2 => simp at h; exact ⟨0, w, rfl, .inr (.inr ⟨rfl, h.symm⟩)⟩
    | j + 3 =>
      obtain ⟨i, v, hv, hh⟩ := ih (j := j) (u := u) (by simpa using h)
      exact ⟨i + 1, v, by simpa using hv, by
        rcases hh with ⟨a, b⟩ | ⟨a, b⟩ | ⟨a, b⟩
        · exact .inl ⟨by omega, b⟩
        · exact .inr (.inl ⟨by omega, b⟩)
        · exact .inr (.inr ⟨by omega, b⟩)⟩
theorem RV.cells {w : World} {g o n c : Nat} {V : List ValR} (h : RV w (some ⟨g, o, none⟩) n c V) : ∀ j u, (cellsV V)[j]? = some u → w.cell? ((⟨g, o, none⟩ : Addr).add j) = some u := by
  intro j u hu
  obtain ⟨i, v, hv, hh⟩ := cellsV_inv hu
  have hn := (List.getElem?_eq_some_iff.1 hv).1
  rw [h.len] at hn
  obtain ⟨g', o', e, hc⟩ := h.at_ (by omega)
  injection e with e
  injection e with e1 e2
  subst e1 e2
  obtain ⟨c0, c1, c2⟩ := hc i v hv
  rw [Addr.add_lit]
  rcases hh with ⟨rfl, rfl⟩ | ⟨rfl, rfl⟩ | ⟨rfl, rfl⟩
  · exact c0
  · rw [← Nat.add_assoc]; exact c1
  · rw [← Nat.add_assoc]; exact c2
theorem RV.of_cells {w : World} {g o n c : Nat} {V : List ValR} (hl : V.length = n) (hc : n ≤ c) (hm : c ≤ maxLen) (h : ∀ j u, (cellsV V)[j]? = some u → w.cell? ⟨g, o + j, none⟩ = some u) : RV w (some ⟨g, o, none⟩) n c V := by
  refine ⟨hl, hc, hm, fun h => (by cases h), fun _ => ⟨g, o, rfl, fun i v hv => ?_⟩⟩
  obtain ⟨h0, h1, h2⟩ := cellsV_at hv
  exact ⟨h _ _ h0, by rw [Nat.add_assoc]; exact h _ _ h1, by rw [Nat.add_assoc]; exact h _ _ h2⟩
/-- A slice of new memory that reads as values. -/
def VO (w : World) (B : Nat) (v : Value) (V : List ValR) : Prop := w.ownsRow B 51 3 v V.length (cellsV V)
namespace VO
variable {w w' : World} {B : Nat} {v : Value} {V : List ValR}
theorem nil (w : World) (B : Nat) : VO w B (.slice none 0 0) [] := World.ownsRow_nil w B _ 3
theorem empty (w : World) (hB : B ≤ w.heap.size) : VO (w.alloc (.cells #[] 51)) B (.slice (some ⟨w.heap.size, 0, none⟩) 0 0) [] :=
  ⟨rfl, .inr ⟨w.heap.size, 0, #[], rfl, hB, Blk.new w #[] 51, Nat.le_refl _, by decide, rfl, rfl⟩⟩
theorem lt (h : VO w B v V) : ∀ k, v.ownBlock = some k → B ≤ k ∧ k < w.heap.size := World.ownsRow.lt h
theorem rv (h : VO w B v V) (n : Nat) (hn : V.length = n) : ∃ A c, v = .slice A n c ∧ RV w A n c V := by
  subst hn
  obtain ⟨hl, ho⟩ := h
  rcases ho with ⟨rfl, h0⟩ | ⟨g, cap, cur, rfl, hg, hheap, hnc, hcm, hcs, htake⟩
  · obtain rfl : V = [] := List.eq_nil_of_length_eq_zero h0
    exact ⟨none, 0, rfl, RV.none_ w⟩
  · refine ⟨some ⟨g, 0, none⟩, cap, rfl, RV.of_cells rfl hnc hcm fun j u hu => ?_⟩
    rw [← htake, List.getElem?_take] at hu
    split at hu
    · rw [Nat.zero_add]
      simp [World.cell?, hheap]
      rw [← Array.getElem?_toList]
      exact hu
    · cases hu
theorem kept {S : Nat → Prop} (h : VO w B v V) (hk : Keeps S w w') (hS : ∀ k, v.ownBlock = some k → ¬ S k) : VO w' B v V := by
  refine ⟨h.1, ?_⟩
  rcases h.2 with hn | ⟨g, cap, cur, rfl, hb, hg, rest⟩
  · exact .inl hn
  · exact .inr ⟨g, cap, cur, rfl, hb, (hk.block g (Array.getElem?_eq_some_iff.1 hg).1 (hS g rfl)).trans hg, rest⟩
theorem below (h : VO w B v V) (hb : Below w.heap.size w w') : VO w' B v V := h.kept (S := fun _ => False) (Keeps.of_below hb) (fun _ _ => id)
theorem mono {B' : Nat} (h : VO w B v V) (hB : B' ≤ B) : VO w B' v V := by
  refine ⟨h.1, ?_⟩
  rcases h.2 with hn | ⟨g, cap, cur, rfl, hb, hg, rest⟩
  · exact .inl hn
  · exact .inr ⟨g, cap, cur, rfl, by omega, hg, rest⟩
theorem drew (h : VO w B v V) : VO w.drew B v V := h
theorem set (h : VO w B v V) {p : Addr} (hp : ∀ k, v.ownBlock = some k → k ≠ p.block) (u : Value) : VO (w.setCell p u) B v V :=
  h.kept (S := fun k => k = p.block) ((Keeps.refl (fun k => k = p.block) _).setCell (.inl rfl) u) (fun k hk e => hp k hk e)
theorem alloc (h : VO w B v V) (o : Obj) : VO (w.alloc o) B v V := World.ownsRow.alloc h o
end VO
theorem cellsV_one (V : List ValR) : ∀ u ∈ cellsV V, u.oneCell' = true := by
  intro u hu
  obtain ⟨j, hj⟩ := List.mem_iff_getElem?.1 hu
  obtain ⟨i, v, _, ⟨_, rfl⟩ | ⟨_, rfl⟩ | ⟨_, rfl⟩⟩ := cellsV_inv hj <;> rfl
theorem info_val : (Try.prog.info? 51).map (fun i => (i.zero, i.size, i.bytes)) = some (some (.agg #[.int .i64 0, .int .i64 0, .string (str [])]), 3, 32) := by kernel_rfl
theorem run_appv (ty : TypeId) (w : World) (B : Nat) (v : Value) (V M : List ValR) (h : VO w B v V) (hB : B ≤ w.heap.size) (g o m c : Nat) (hr : RV w (some ⟨g, o, none⟩) m c M) (hsz : V.length + m ≤ 100000) :
    ∃ v' w', (Builtin.append_ #[24, 24] ty #[v, .slice (some ⟨g, o, none⟩) m c]).run Try.prog w = .ok v' w' ∧ VO w' B v' (V ++ M) ∧ Keeps (fun k => v.ownBlock = some k) w w' := by
  obtain ⟨i0, hi, hz0, hz1, hz2⟩ := info_parts info_val
  have hm := hr.len
  obtain ⟨v', w', hrun, h1, h2, _, h4⟩ := run_append_own_at (P := Try.prog) w B 24 ty 51 i0 _ 3 32 Try.underlying24 hi hz0 hz1 hz2 rfl (by decide) v V.length (cellsV V) h ⟨g, o, none⟩ m c (cellsV M) (by rw [cellsV_len, hm])
    hr.cells (cellsV_one M) (by unfold maxLen; omega) (by omega) hB
  refine ⟨v', w', hrun, ?_, ⟨h2.os, h2.tape, h2.output, h2.size, fun k hk hn => h2.block k hk (fun e => hn e.symm)⟩⟩
  unfold VO
  rw [cellsV_app, List.length_append, hm]
  exact h1
theorem wpList_appv {ops : Array Oper} {o : Oper} {a : Act} {w : World} {rest : List Oper} {Q : Exit → Act → World → Prop} (hgd : o.guard = none) (s x : Operand) (hop : o.op = Op.call { callee := Callee.builtin Builtin.append, args := #[s, x], argTypes := #[24, 24] })
    (B : Nat) (v : Value) (V M : List ValR) (g of m c : Nat) (hs : a.eval s = v) (hx : a.eval x = .slice (some ⟨g, of, none⟩) m c) (h : VO w B v V) (hr : RV w (some ⟨g, of, none⟩) m c M) (hsz : V.length + m ≤ 100000) (hB : B ≤ w.heap.size)
    (hk : ∀ v' w', VO w' B v' (V ++ M) → Keeps (fun k => v.ownBlock = some k) w w' → wpList Try.prog ops Q rest (a.put o.dst v') w') : wpList Try.prog ops Q (o :: rest) a w := by
  refine wpList_plain hgd fun K hK => ?_
  obtain ⟨v', w', hrun, h1, h3⟩ := run_appv o.type w B v V M h hB g of m c hr hsz
  unfold Oper.wp execOp
  simp only [hop, resolve, invoke, builtin, Sem.run_bind, Sem.run_pure, Result.andThen_ok, List.map_toArray, List.map_cons, List.map_nil, hs, hx, hrun]
  exact hK _ _ (hk v' w' h1 h3)
/-- One value, built. -/
theorem RV.one {w : World} {g t : Nat} {v : ValR} (h : Blk w g #[.int .i64 v.k, .int .i64 v.n, .string (str v.s)] t) : RV w (some ⟨g, 0, none⟩) 1 1 [v] :=
  RV.of_cells rfl (Nat.le_refl _) (by unfold maxLen; omega) fun j u hu => by rw [Nat.zero_add]; exact h.cell j (by rw [← Array.getElem?_toList]; exact hu)

/-- A piece of nine bytes as a value. -/
def dkV (l : List UInt8) : Option ValR := if l.length = 9 ∧ dkOk (l.getD 0 0) (l.drop 1) = true then some ⟨dkK (l.getD 0 0), dkN (l.getD 0 0) (l.drop 1), dkS (l.getD 0 0) (l.drop 1)⟩ else none
theorem dkV_cases (l : List UInt8) : (dkV l = none ∧ dkL l = dkRet false 0 0 []) ∨ ∃ v, dkV l = some v ∧ dkL l = dkRet true v.k v.n v.s := by
  unfold dkV dkL
  by_cases h : l.length = 9
  · rw [if_pos h]
    cases hd : dkOk (l.getD 0 0) (l.drop 1) with
    | false => exact .inl ⟨if_neg (fun hh => absurd hh.2 (by decide)), dkRet_no _ _ _ _ _ _⟩
    | true => exact .inr ⟨_, if_pos ⟨h, rfl⟩, rfl⟩
  · rw [if_neg h]
    exact .inl ⟨if_neg (fun hh => h hh.1), rfl⟩
theorem dkV_zero (l : List UInt8) (h : l.getD 0 0 = 0) : dkV l = none := by
  unfold dkV
  rw [if_neg]
  intro hh
  have := hh.2
  rw [h, dkOk_zero] at this
  cases this
/-- The values that bytes begin with. -/
def prsV : Nat → List UInt8 → List ValR
  | 0, _ => []
  | k + 1, l => match dkV (l.take 9) with
    | some v => v :: prsV k (l.drop 9)
    | none => []
theorem prsV_len (k : Nat) : ∀ l, (prsV k l).length ≤ k := by
  induction k with
  | zero => intro l; exact Nat.le_refl _
  | succ k ih =>
    intro l
    unfold prsV
    split
    · have := ih (l.drop 9); simp only [List.length_cons]; omega
    · simp
theorem prsV_some {k : Nat} {l : List UInt8} {v : ValR} (h : dkV (l.take 9) = some v) : prsV (k + 1) l = v :: prsV k (l.drop 9) := by
  show (match dkV (l.take 9) with | some v => v :: prsV k (l.drop 9) | none => []) = _
  rw [h]
theorem prsV_none {k : Nat} {l : List UInt8} (h : dkV (l.take 9) = none) : prsV k l = [] := by
  cases k with
  | zero => rfl
  | succ k =>
    show (match dkV (l.take 9) with | some v => v :: prsV k (l.drop 9) | none => []) = _
    rw [h]
def rowP (b : List UInt8) : RowR := ⟨((b.getD 0 0).toNat : Int) - 1, prsV 4 (b.drop 1)⟩
/-- What Decode tells. -/
def decR (b : List UInt8) : RowR × Int := if b.length = 37 ∧ rowE (rowP b) = 0 ∧ rowB (rowP b) = b then (rowP b, 0) else (⟨0, []⟩, 2)
theorem decR_yes {b : List UInt8} (h : b.length = 37) (h0 : rowE (rowP b) = 0) (h1 : rowB (rowP b) = b) : decR b = (rowP b, 0) := if_pos ⟨h, h0, h1⟩
theorem decR_no {b : List UInt8} (h : ¬ (b.length = 37 ∧ rowE (rowP b) = 0 ∧ rowB (rowP b) = b)) : decR b = (⟨0, []⟩, 2) := if_neg h
theorem decR_short {b : List UInt8} (h : b.length ≠ 37) : decR b = (⟨0, []⟩, 2) := decR_no (fun hh => h hh.1)
theorem decR_fell {b : List UInt8} {e : Int} (he : rowE (rowP b) = e) (h : e ≠ 0) : decR b = (⟨0, []⟩, 2) := decR_no (fun hh => h (he ▸ hh.2.1))
/-- Behind a row's values a text is zero. -/
theorem rowB_zero {r : RowR} (h : rowE r = 0) (h4 : r.V.length < 4) : (rowB r)[1 + 9 * r.V.length]? = some 0 := by
  obtain ⟨h1, h2⟩ := rowE_zero h
  unfold rowB zr
  rw [show 1 + 9 * r.V.length = 9 * r.V.length + 1 by omega, List.getElem?_cons_succ, List.getElem?_append_right (by rw [bytesV_len _ h2]; exact Nat.le_refl _), bytesV_len _ h2, Nat.sub_self, List.getElem?_replicate, if_pos (by omega)]
/-- A piece that is no value, its first byte not zero: no text. -/
theorem decR_piece {b : List UInt8} {V : List ValR} {k : Nat} {y : UInt8} (hk : k < 4) (hV : prsV 4 (b.drop 1) = V) (hl : V.length = k) (hy : b[1 + 9 * k]? = some y) (h0 : y ≠ 0) : decR b = (⟨0, []⟩, 2) := by
  refine decR_no fun hh => ?_
  have e : (rowP b).V.length = k := by show (prsV 4 (b.drop 1)).length = k; rw [hV, hl]
  have := rowB_zero hh.2.1 (by omega)
  rw [hh.2.2, e, hy] at this
  injection this with this
  exact h0 this
end Go.Proofs.Ytfldmejjepakeaa
