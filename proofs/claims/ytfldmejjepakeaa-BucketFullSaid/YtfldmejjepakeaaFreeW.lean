/- Free.wp_facts where an operation without a slot (a store) tells something behind the region. -/
import Derived.Test.YtfldmejjepakeaaFree
namespace Go.Proofs.Ytfldmejjepakeaa
open Go.ChangeShapes Go.WideShapes Go.ChangeAt Go.RowKit
open Go.ChangeMaps (open_string shut_string)
set_option linter.unusedVariables false
set_option linter.unusedSimpArgs false
set_option maxRecDepth 100000
namespace Free
variable {P : Program} {ops : Array Oper}
def ToldW (F : Nat → Value → World → Prop) (w : World) : List (Nat × Option Tmp × Bool) → Act → (Act → Prop) → Prop
  | [], a, k => k a
  | (i, some t, true) :: r, a, k => ∀ v, F i v w → ToldW F w r (a.put (some t) v) k
  | (_, some t, false) :: r, a, k => ∀ v, ToldW F w r (a.put (some t) v) k
  | (i, none, _) :: r, a, k => ∀ v, F i v w → ToldW F w r a k
def told (ops : Array Oper) (outs : List Nat) (i : Nat) : Option (Nat × Option Tmp × Bool) :=
  match dst ops i with
  | some t => some (i, some t, outs.contains i)
  | none => if outs.contains i = true then some (i, none, true) else none
theorem ToldW.told {F : Nat → Value → World → Prop} {outs : List Nat} {w : World} {k : Act → Prop} : ∀ (R : List Nat) (a : Act), ToldW F w (R.filterMap (Free.told ops outs)) a k → ToldE ops F outs w R a k
  | [], _, h => h
  | i :: r, a, h => fun v hv => by
    rw [List.filterMap_cons] at h
    unfold Free.told at h
    cases hd : dst ops i with
    | none =>
      rw [hd] at h
      cases ho : outs.contains i with
      | true =>
        rw [ho] at h
        rw [if_pos ho] at hv
        exact ToldW.told r _ (h v hv)
      | false =>
        rw [ho] at h
        exact ToldW.told r _ h
    | some t =>
      rw [hd] at h
      cases ho : outs.contains i with
      | true =>
        rw [ho] at h
        rw [if_pos ho] at hv
        exact ToldW.told r _ (h v hv)
      | false =>
        rw [ho] at h
        exact ToldW.told r _ (h v)
def chkW (ops : Array Oper) (M : List Nat) (D : List (List (Nat × Tmp))) (outs soles : List Nat) (E : List (Nat × Option Tmp × Bool)) (N : Nat) : Bool :=
  chk ops M (D.map fun l => l.map (·.1)) outs soles N && (D.all fun l => l.all fun p => dst ops p.1 == some p.2) && ((List.range ops.size).filterMap (told ops outs)) == E
theorem wp_factsW {M : List Nat} {D : List (List (Nat × Tmp))} {outs soles : List Nat} {E : List (Nat × Option Tmp × Bool)} {N : Nat} {id : Nat} {w : World} {a : Act} {Q : Exit → Act → World → Prop} {S : World → Prop} (L : List Fact)
    (hm : P.follows .mixedOrders = true) (hc : chkW ops M D outs soles E N = true) (hN : a.tmps.size = N) (hS : S w.drew)
    (hstep : StepsFrom (fun j o => ∀ w', S w' → Told' (facts L) w' (D.getD j []) a (StepAt P ops S (facts L) soles j o a.defers w')) 0 ops.toList)
    (hend : ∀ w', S w' → ToldW (facts L) w' E a (fun a' => Q .normal a' w')) : (Code.region id ops true).wp P Q a w := by
  unfold chkW at hc
  simp only [Bool.and_eq_true, beq_iff_eq] at hc
  obtain ⟨⟨hc1, hc2⟩, hc3⟩ := hc
  refine wp_free hc1 (F := facts L) (S := S) hm hN (fun i v w w' h hb => (L.getD i Fact.any).stab v w w' h hb) hS ?_ ?_
  · intro j o hj w' hw'
    have h := StepsFrom.all ops.toList 0 hstep j o (by simpa using hj)
    rw [Nat.zero_add] at h
    have h2 := h w' hw'
    have e : (D.map fun l => l.map (·.1)).getD j [] = (D.getD j []).map (·.1) := by
      simp only [List.getD_eq_getElem?_getD, List.getElem?_map]
      cases D[j]? <;> rfl
    rw [e]
    refine Told'.told _ _ ?_ h2
    cases hd : D[j]? with
    | none => simp [List.getD_eq_getElem?_getD, hd]
    | some l =>
      rw [List.all_eq_true] at hc2
      simp only [List.getD_eq_getElem?_getD, hd, Option.getD_some]
      exact hc2 l (List.mem_of_getElem? hd)
  · intro w' hw'
    refine ToldW.told _ _ ?_
    rw [hc3]
    exact hend w' hw'
theorem toldW_nil {F : Nat → Value → World → Prop} {w : World} {a : Act} {k : Act → Prop} (h : k a) : ToldW F w [] a k := h
/-- A row of cells stands in a block. -/
def Fact.blk (g : Nat) (cs : Array Value) (t : Nat) : Fact := ⟨fun _ w => Blk w g cs t, fun _ _ _ h hb => h.below hb h.lt⟩
end Free
end Go.Proofs.Ytfldmejjepakeaa
