/- A region that draws its order inside a round of a range over a function, walked by the plain words; the frame of what a round keeps. -/
import Derived.RangeFuncNested
import Derived.RangeFuncCalls
import Derived.OrdersIn
import Derived.OwnWalkIn
import Derived.Test.YtononoakdebjeaaDoorWLast
import Derived.Test.YtononoakdebjeaaDoorHeapOps
namespace Go.Proofs.YtononoakdebjeaaDoor.Base
open Go.RowKit Go.Proofs.YtononoakdebjeaaDoorW.PrintWords Go.Proofs.YtononoakdebjeaaDoorW.PrintLast Go.Maps
set_option linter.unusedVariables false
set_option linter.unusedSimpArgs false

def noDefer (ops : Array Oper) : Bool := ops.all fun o => match o.op with | .defer _ => false | _ => true
theorem noDefer_spec {ops : Array Oper} (h : noDefer ops = true) {i : Nat} {o : Oper} (ho : ops[i]? = some o) : ∀ c, o.op ≠ .defer c := by
  intro c hc
  unfold noDefer at h
  rw [Array.all_eq_true] at h
  obtain ⟨hi, e⟩ := Array.getElem?_eq_some_iff.1 ho
  have h1 := h i hi
  rw [e, hc] at h1
  simp at h1
section
variable {P : Program} {ops : Array Oper} {Q : Exit → Act → World → Prop} {l n : Nat}
theorem oper_inRound {o : Oper} {a : Act} {w : World} {K : Act → World → Prop} (hd : ∀ c, o.op ≠ .defer c) (h : Oper.wp P o a w K Q) : Oper.wpIn (Fence.wide.inRound l) n P o a w K Q := by
  refine ⟨fun _ _ => trivial, ?_⟩
  rw [Oper.semAt_eq _ _ _ hd]
  unfold Oper.wp at h
  cases hr : (execOp a.eval o).run P w with
  | ok nx w1 =>
    rw [hr] at h
    cases nx with
    | value v => exact h
    | skip => exact h
    | defer d => exact h
    | enter f args =>
      have h2 : (Fence.wide.inRound l).depth.isSome = true → 1 ≤ n := by intro hh; cases hh
      exact And.intro h2 (CallsIn.inRound l (callsIn_wide.2 h))
    | row row args =>
      have h2 : (Fence.wide.inRound l).depth.isSome = true → 1 ≤ n := by intro hh; cases hh
      refine And.intro h2 (fun c cs _ => ?_)
      obtain ⟨v, w', r, s⟩ := h c cs
      exact ⟨v, w', r, stepsIn_wide.2 s⟩
    | _ => exact h.elim
  | halt hl w1 =>
    rw [hr] at h
    cases hl with
    | panic v => exact h
    | _ => exact h.elim
theorem any_inRound {md : Region.Mode} (hd : noDefer ops = true) (hQ : ∀ a w, ¬ Q .outgrown a w) : ∀ (fuel : Nat) (listed : Array Bool) (a : Act) (w : World), wpAny P md ops Q fuel listed a w → wpAnyIn (Fence.wide.inRound l) n P md ops Q fuel listed a w
  | 0, _, _, _, h => h
  | fuel + 1, listed, a, w, h => by
    refine ⟨h.1, fun i hi => ?_⟩
    have h1 := h.2 i hi
    unfold wpOp at h1
    unfold wpOpIn
    cases ho : ops[i]? with
    | none =>
      rw [ho] at h1
      exact any_inRound hd hQ fuel _ _ _ h1
    | some o =>
      rw [ho] at h1
      simp only at h1 ⊢
      split
      · next hw =>
        rw [if_pos hw] at h1
        rcases h1 with h1 | ⟨_, a', w', h2⟩
        · exact oper_inRound (noDefer_spec hd ho) (Oper.wp_mono (fun a' w' hk => any_inRound hd hQ fuel _ _ _ hk) h1)
        · exact absurd h2 (hQ a' w')
      · next hw =>
        rw [if_neg hw] at h1
        exact ⟨fun _ _ => trivial, any_inRound hd hQ fuel _ _ _ h1⟩
variable {S : World → Prop} {ds : List Nat}
/-- The walk of a region in a round begins. -/
theorem startR_ {id m : Nat} {a : Act} {w : World} (lb : Array Bool) (hm : P.follows .mixedOrders = true) (hn : ops.size = m) (hl : Array.replicate m false = lb) (hd : noDefer ops = true) (hQ : ∀ a w, ¬ Q .outgrown a w) (hS : S w.drew)
    (h : S w.drew → wpAnyLast P .any ops Q S ds m lb a w.drew) : (Code.region id ops true).wpIn (Fence.wide.inRound l) n P Q a w := by
  subst hn
  subst hl
  exact wpIn_region_any hm (any_inRound hd hQ _ _ _ _ (wpAny_of_last _ _ _ _ (h hS)))
end
end Go.Proofs.YtononoakdebjeaaDoor.Base
