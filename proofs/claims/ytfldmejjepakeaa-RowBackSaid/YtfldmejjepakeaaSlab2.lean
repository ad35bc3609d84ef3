/- Contracts of slab.Writer: Sealed, Raw of one part, Len; of slab.Reader. -/
import Derived.Test.YtfldmejjepakeaaSlab
namespace Go.Proofs.Ytfldmejjepakeaa
open Go.ChangeShapes Go.WideShapes Go.ChangeAt Go.RowKit
open Go.ChangeMaps (open_string shut_string)
set_option linter.unusedVariables false
set_option linter.unusedSimpArgs false
set_option maxRecDepth 100000

/-- What Sealed tells. -/
def sealedE (l : List UInt8) (br : Bool) (n : Int) : Int := if br || decide (n < 0) || decide (1048576 < n) then 1 else if n < l.length then 4 else 0

theorem sealed_err (p : Nat) (v : Value) (l : List UInt8) (br : Bool) (n : Int) (w : World) (h : Wr w p v l br) (hl : l.length ≤ 1099511627776) (he : sealedE l br n ≠ 0) :
    Calls Try.prog 55 #[.pointer (some ⟨p, 0, none⟩), .int .i64 n] w fun e w' => e = .returned (.tuple #[.slice none 0 0, .int .i64 (sealedE l br n)]) ∧ w = w' := by
  obtain ⟨A, c, rfl, hc1, hc2⟩ := h.own.form
  have c0 := h.c0
  have c1 := h.c1
  rcases br with _ | _
  · by_cases h1 : n < 0
    · have e : sealedE l false n = 1 := by simp [sealedE, h1]
      rw [e]
      go_enter Try.func55, Try.ntmps55
      go_wp2
      go_ret2
      exact ⟨rfl, rfl⟩
    · by_cases h2 : 1048576 < n
      · have e : sealedE l false n = 1 := by simp [sealedE, h2]
        rw [e]
        go_enter Try.func55, Try.ntmps55
        go_wp2
        go_ret2
        exact ⟨rfl, rfl⟩
      · have h3 : n < l.length := by simp only [sealedE] at he; simp [h1, h2] at he; omega
        have e : sealedE l false n = 4 := by simp [sealedE, h1, h2, h3]
        rw [e]
        go_enter Try.func55, Try.ntmps55
        go_wp2
        go_ret2
        exact ⟨rfl, rfl⟩
  · have e : sealedE l true n = 1 := by simp [sealedE]
    rw [e]
    go_enter Try.func55, Try.ntmps55
    go_wp2
    go_ret2
    exact ⟨rfl, rfl⟩

theorem sealed_ok (p : Nat) (v : Value) (l : List UInt8) (n : Nat) (w : World) (h : Wr w p v l false) (hn : n ≤ 1048576) (hl : l.length ≤ n) :
    Calls Try.prog 55 #[.pointer (some ⟨p, 0, none⟩), .int .i64 n] w fun e w' => e = .returned (.tuple #[.slice (some ⟨w.heap.size, 0, none⟩) n n, .int .i64 0]) ∧
      Blk w' w.heap.size (bcells (fill l n)) 5 ∧ Below w.heap.size w w' := by
  obtain ⟨A, c, rfl, hc1, hc2⟩ := h.own.form
  have c0 := h.c0
  have c1 := h.c1
  have hmk := fun w => run_mk w n (by omega)
  have hlt := h.lt
  go_enter Try.func55, Try.ntmps55
  go_wp2_with (refine wpList_cp rfl (.tmp 30) (.tmp 34) rfl w.heap.size 0 n n (List.replicate n 0) l A l.length c rfl rfl (Blk.new _ _ _) (h.own.reads.alloc _) (by simp) ?_; intro w2 hb2 hk2)
  rw [splice_fill] at hb2
  have b2 : Below w.heap.size w w2 := ((Below.refl w.heap.size w).alloc (Nat.le_refl _) _).keeps hk2 (by omega) (Nat.le_refl _)
  go_wp2
  go_ret2
  exact ⟨rfl, hb2, b2⟩

end Go.Proofs.Ytfldmejjepakeaa
