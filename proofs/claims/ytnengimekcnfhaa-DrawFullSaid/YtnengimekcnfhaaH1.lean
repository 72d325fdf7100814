import Derived.Test.YtnengimekcnfhaaK
import Derived.RangeFuncCalls
import Derived.Deep.RegionHeld
import Derived.OrdersIn
import Derived.TacticsIn
set_option linter.unusedVariables false
namespace Go.Proofs.Ytnengimekcnfhaa
open Go.RowKit
section
variable {P : Program} {ops : Array Oper} {Q : Exit → Act → World → Prop} {md : Region.Mode} {S : World → Prop}

def OnlyOn (Q : Exit → Act → World → Prop) : Exit → Act → World → Prop
  | .normal, a, w => Q .normal a w
  | _, _, _ => False

theorem onlyOn_normal {a : Act} {w : World} (h : Q .normal a w) : OnlyOn Q .normal a w := h

theorem onlyOn_out (h : LetsOut (OnlyOn Q)) : False := by
  obtain ⟨a, w, h⟩ := h
  exact h

def noDefer (ops : Array Oper) : Bool := ops.all fun o => match o.op with | .defer _ => false | _ => true

theorem noDefer_spec (h : noDefer ops = true) : ∀ (i : Nat) o, ops[i]? = some o → ∀ c, o.op ≠ .defer c := by
  intro i o ho c hc
  unfold noDefer at h
  rw [Array.all_eq_true] at h
  obtain ⟨hi, rfl⟩ := Array.getElem?_eq_some_iff.1 ho
  have := h i hi
  rw [hc] at this
  simp at this

theorem wpOp_round {l n i : Nat} {K : Act → World → Prop} {a : Act} {w : World} (hnd : ∀ (i : Nat) o, ops[i]? = some o → ∀ c, o.op ≠ .defer c)
    (h : wpOp P ops (OnlyOn Q) i K a w) : wpOpIn (Fence.wide.inRound l) n P ops Q i K a w := by
  unfold wpOp at h
  unfold wpOpIn
  cases ho : ops[i]? with
  | none => simpa only [ho] using h
  | some o =>
    simp only [ho] at h ⊢
    have hd := hnd i o ho
    split
    · rename_i hw
      simp only [hw, if_true] at h
      rcases h with h | h
      · refine ⟨fun _ _ => trivial, ?_⟩
        rw [show (Fence.wide.inRound l).round = some l from rfl, Oper.semAt_some l _ _ hd]
        unfold Oper.wp at h
        generalize (execOp a.eval o).run P w = r at *
        cases r with
        | ok x w' =>
          cases x <;> simp only [Oper.upon] at h <;> simp only [Oper.uponIn]
          case value => exact h
          case skip => exact h
          case defer => exact h
          case enter f args =>
            refine ⟨fun hx => by simp [Fence.wide] at hx, CallsIn.inRound l ((callsIn_wide.2 h).mono fun e w'' he => ?_)⟩
            cases e with
            | returned v => exact he
            | panicked c => exact he.elim
            | outgrown => exact (onlyOn_out he).elim
          case row row args =>
            refine ⟨fun hx => by simp [Fence.wide] at hx, fun c cs _ => ?_⟩
            obtain ⟨v, w'', r, s⟩ := h c cs
            exact ⟨v, w'', r, stepsIn_wide.2 s⟩
        | halt x w' => cases x <;> simp only [Oper.upon] at h <;> exact h.elim
      · exact (onlyOn_out h.2).elim
    · rename_i hw
      simp only [hw] at h
      exact ⟨fun _ _ => trivial, h⟩

theorem wpAny_round {l n : Nat} (hnd : ∀ (i : Nat) o, ops[i]? = some o → ∀ c, o.op ≠ .defer c) :
    ∀ (fuel : Nat) (listed : Array Bool) (a : Act) (w : World), wpAny P md ops (OnlyOn Q) fuel listed a w → wpAnyIn (Fence.wide.inRound l) n P md ops Q fuel listed a w
  | 0, _, _, _, h => h
  | fuel + 1, listed, a, w, h => ⟨h.1, fun i hi => wpOp_round hnd (wpOp_mono (fun a w hk => wpAny_round hnd fuel _ a w hk) (h.2 i hi))⟩

theorem wpIn_region_round {l n id : Nat} {a : Act} {w : World} (hm : P.follows .mixedOrders = true) (hnd : noDefer ops = true) (hS : S w.drew)
    (h : S w.drew → wpAnyH P .any ops (OnlyOn Q) S ops.size (Array.replicate ops.size false) a w.drew) : (Code.region id ops true).wpIn (Fence.wide.inRound l) n P Q a w :=
  wpIn_region_any hm (wpAny_round (noDefer_spec hnd) _ _ _ _ (wpAny_of_held _ _ _ _ (h hS)))
end
end Go.Proofs.Ytnengimekcnfhaa
