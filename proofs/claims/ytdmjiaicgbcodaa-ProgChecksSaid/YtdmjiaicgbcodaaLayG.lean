/- Contracts of package lay: areas. -/
import Derived.Test.YtdmjiaicgbcodaaLayF
namespace Go.Proofs.Ytdmjiaicgbcodaa
open Go.ChangeShapes Go.WideShapes Go.ChangeAt Go.RowKit
open Go.ChangeMaps (open_string shut_string)
set_option linter.unusedVariables false
set_option linter.unusedSimpArgs false

set_option maxHeartbeats 1000000 in
set_option maxRecDepth 100000 in
theorem lay_area (x : Cfg) (A : Option Addr) (n c : Nat) (f i l : Int) (w : World) (h : x.B) (f0 : 0 ≤ f) (f1 : f ≤ 1000000) (i0 : 0 ≤ i) (i1 : i ≤ 1000) (l0 : 1 ≤ l) (l1 : l ≤ 10000) :
    Calls Try.prog 64 #[.agg #[.int .i64 x.h, .int .i64 x.z, .int .i64 x.b, .int .i64 x.r, .int .i64 x.d, .int .i64 x.e, .int .i64 x.s, .int .i64 x.p, .int .i64 x.q, .int .i64 x.t, .slice A n c], .int .i64 f, .int .i64 i, .int .i64 l] w fun e w' => e = .returned (.agg #[.int .i64 (f + i * cellsC x l), .int .i64 (cellsC x l)]) ∧ Below w.heap.size w w' := by
  have HC := Lib.hid (fun w => lay_cells x A n c l w h l0 (by omega))
  have r := cellsC_range h l l0
  have r2 : 0 ≤ i * cellsC x l := Int.mul_nonneg (by omega) (by omega)
  have r3 : i * cellsC x l ≤ 1000 * 10000 := Int.mul_le_mul (by omega) (by omega) (by omega) (by omega)
  clear h
  generalize cellsC x l = k at *
  have w1 : IntKind.i64.wrap (i * k) = i * k := IntWalk.i64_in _ (by omega)
  have w2 : IntKind.i64.wrap (f + i * k) = f + i * k := IntWalk.i64_in _ (by omega)
  have bb : Below w.heap.size w ((w.alloc (.cells #[.int .i64 x.h, .int .i64 x.z, .int .i64 x.b, .int .i64 x.r, .int .i64 x.d, .int .i64 x.e, .int .i64 x.s, .int .i64 x.p, .int .i64 x.q, .int .i64 x.t, .slice A n c] 28)).alloc (.cells #[.int .i64 0, .int .i64 0] 34)) := (by repeat (first | exact Below.refl _ _ | assumption | apply below_drewN' | apply Below.drew | refine Below.alloc ?_ (by first | omega | (simp; done) | (simp; omega)) _ | refine Below.setCell ?_ (by first | omega | (simp; done) | (simp; omega)) _))
  have hr0 := Blk.new2 w (.cells #[.int .i64 x.h, .int .i64 x.z, .int .i64 x.b, .int .i64 x.r, .int .i64 x.d, .int .i64 x.e, .int .i64 x.s, .int .i64 x.p, .int .i64 x.q, .int .i64 x.t, .slice A n c] 28) #[.int .i64 0, .int .i64 0] 34
  go_enter Try.func64, Try.ntmps64
  go_wp2_with fail
  refine (HC.out _).mono ?_
  rintro e w3 ⟨rfl, hb⟩
  have hr := hr0.below hb hr0.lt
  have b3 := bnext bb hb
  have c0 := hr.cell 0 (v := .int .i64 0) rfl
  have c1 := hr.cell 1 (v := .int .i64 0) rfl
  have g0 := hr.fz 0
  have g1 := hr.fz 1
  have hf := (hr.set 0 (.int .i64 (f + i * k))).set 1 (.int .i64 k)
  have hlt := hr.lt
  clear hr0 bb hb hr
  go_wp2
  have bF : Below w.heap.size w ((w3.setCell ⟨w.heap.size + 1, 0, none⟩ (.int .i64 (f + i * k))).setCell ⟨w.heap.size + 1, 1, none⟩ (.int .i64 k)) := (by repeat (first | exact Below.refl _ _ | assumption | apply below_drewN' | apply Below.drew | refine Below.alloc ?_ (by first | omega | (simp; done) | (simp; omega)) _ | refine Below.setCell ?_ (by first | omega | (simp; done) | (simp; omega)) _))
  generalize (w3.setCell ⟨w.heap.size + 1, 0, none⟩ (.int .i64 (f + i * k))).setCell ⟨w.heap.size + 1, 1, none⟩ (.int .i64 k) = WF at *
  have z0 := hf.cell 0 (v := .int .i64 (f + i * k)) rfl
  have z1 := hf.cell 1 (v := .int .i64 k) rfl
  refine bodyPost_ret (v := .agg #[.int .i64 (f + i * k), .int .i64 (k)]) (by simp [results, Try.results64, go_sem, z0, z1]) rfl ⟨rfl, bF⟩
end Go.Proofs.Ytdmjiaicgbcodaa
