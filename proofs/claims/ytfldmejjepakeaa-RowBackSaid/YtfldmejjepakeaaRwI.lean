/- A row's text is read back; oublaw16.first. -/
import Derived.Test.YtfldmejjepakeaaRwH
import Derived.Test.YtfldmejjepakeaaRwB
import Derived.Test.YtfldmejjepakeaaValPure2
namespace Go.Proofs.Ytfldmejjepakeaa
open Go.ChangeShapes Go.WideShapes Go.ChangeAt Go.RowKit
open Go.ChangeMaps (open_string shut_string)
set_option linter.unusedVariables false
set_option linter.unusedSimpArgs false
set_option maxRecDepth 100000
open Go.Deep

theorem str_inj {a b : List UInt8} (h : str a = str b) : a = b := by rw [← str_list a, h, str_list]
theorem dkV_back {v : ValR} (h : mayVR v = true) (hn : N64 v.n) : dkV (encVR v) = some v := by
  have hb := dkL_back v.k v.n v.s h hn.1 hn.2
  rcases dkV_cases (encVR v) with ⟨_, e⟩ | ⟨u, e1, e⟩
  · have : dkRet false 0 0 [] = dkRet true v.k v.n v.s := e.symm.trans hb
    simp [dkRet] at this
  · have : dkRet true u.k u.n u.s = dkRet true v.k v.n v.s := e.symm.trans hb
    simp [dkRet] at this
    obtain ⟨a, b, c⟩ := this
    rw [e1]
    obtain ⟨k, n, s⟩ := v
    obtain ⟨k', n', s'⟩ := u
    simp only at a b c
    rw [a, b, str_inj c]
theorem prs_back : ∀ (V : List ValR) (m : Nat) (Z : List UInt8), (∀ v ∈ V, mayVR v = true ∧ N64 v.n) → V.length ≤ m → prsV m (bytesV V ++ Z) = V ++ prsV (m - V.length) Z := by
  intro V
  induction V with
  | nil => intro m Z _ _; rfl
  | cons v V ih =>
    intro m Z h hl
    obtain ⟨m, rfl⟩ : ∃ m', m = m' + 1 := ⟨m - 1, by simp at hl; omega⟩
    obtain ⟨h1, h2⟩ := h v (by simp)
    have e9 := encVR_len h1
    have eb : bytesV (v :: V) ++ Z = encVR v ++ (bytesV V ++ Z) := by unfold bytesV; rw [List.flatMap_cons, List.append_assoc]
    rw [eb, prsV_some (v := v) (by rw [List.take_left' e9]; exact dkV_back h1 h2), List.drop_left' e9, ih m Z (fun c hc => h c (by simp [hc])) (by simp at hl; omega)]
    simp only [List.cons_append, List.length_cons]
    rw [show m + 1 - (V.length + 1) = m - V.length by omega]
theorem prs_zero (m k : Nat) : prsV m (zr k) = [] := by
  refine prsV_none (dkV_zero _ ?_)
  unfold zr
  rw [List.take_replicate, List.getD_eq_getElem?_getD, List.getElem?_replicate]
  split <;> rfl
theorem rowP_back {r : RowR} (h : rowE r = 0) (hn : ∀ v ∈ r.V, N64 v.n) : rowP (rowB r) = r := by
  obtain ⟨⟨t0, t1, n0, n1⟩, hv⟩ := rowE_zero h
  obtain ⟨t, V⟩ := r
  unfold rowP rowB
  simp only at t0 t1 n0 n1 hv ⊢
  rw [List.drop_succ_cons, List.drop_zero, prs_back V 4 _ (fun v hc => ⟨hv v hc, hn v hc⟩) n1, prs_zero, List.append_nil, List.getD_cons_zero]
  congr 1
  rw [UInt8.toNat_ofNat']
  omega
theorem decR_back {r : RowR} (h : rowE r = 0) (hn : ∀ v ∈ r.V, N64 v.n) : decR (rowT r) = (r, 0) := by
  have hl := rowT_len h
  have e : rowT r = rowB r := if_pos h
  rw [e] at hl ⊢
  have hp := rowP_back h hn
  rw [decR_yes hl (by rw [hp]; exact h) (by rw [hp]), hp]
theorem allV_self : ∀ V : List ValR, allV V V = true := by
  intro V
  refine allV_yes rfl (fun i a b _ ha hb => ?_)
  rw [ha] at hb
  injection hb with hb
  subst hb
  exact same1V_iff.2 rfl
theorem sameR_self (r : RowR) : sameR r r = true := by
  unfold sameR
  rw [allV_self, beq_self_eq_true]
  rfl
def r16 : RowR := ⟨0, [⟨1, 5, []⟩]⟩
theorem r16_ok : rowE r16 = 0 := by decide
theorem r16_back : decR (rowT r16) = (r16, 0) := decR_back r16_ok (fun v hv => by simp [r16] at hv; subst hv; exact ⟨by decide, by decide⟩)
theorem r16_same : sameR r16 r16 = true := by decide
theorem zr37 : decR (zr 37) = (⟨0, []⟩, 2) := decR_fell (e := 1) (by
  have : rowP (zr 37) = ⟨-1, []⟩ := by
    unfold rowP
    rw [show (zr 37).drop 1 = zr 36 from rfl, prs_zero]
    rfl
  rw [this]
  rfl) (by decide)
end Go.Proofs.Ytfldmejjepakeaa
