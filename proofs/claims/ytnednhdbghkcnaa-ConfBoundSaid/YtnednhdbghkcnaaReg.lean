/- Moves of a walk through a region that draws its order: each with the operation written out ahead of the rest. For any program. -/
import Derived.Test.YtnednhdbghkcnaaC01
import Derived.Deep.RegionHeld3
namespace Go.Proofs.Ytnednhdbghkcnaa.Reg
open Go Go.RowKit
set_option linter.unusedVariables false
variable {P : Program} {ops : Array Oper} {Q : Exit → Act → World → Prop} {md : Region.Mode} {S : World → Prop}
/-- An operation is taken first. -/
theorem tk {i : Nat} {oi : Oper} {fuel : Nat} {listed : Array Bool} {a : Act} {w : World} (hi : ops[i]? = some oi)
    (h : ∃ v, Region.noSelect ops = true ∧ Region.free md ops listed i = true ∧ (Region.ready md ops listed).contains i = true ∧ (∀ c a w, Q (.panic c) (a.put oi.dst v) w → Q (.panic c) a w) ∧ YieldsIf P ops S oi v a ∧ S w ∧ wpAnyH P md ops Q S fuel (listed.setIfInBounds i true) (a.put oi.dst v) w) :
    wpAnyH P md ops Q S (fuel + 1) listed a w := by
  obtain ⟨v, h1, h2, h3, h4, h5, h6, h7⟩ := h
  exact wpAnyH_take hi h1 h2 h3 h4 h5 h6 h7
/-- The one operation that may come up. -/
theorem one {i : Nat} {oi : Oper} {fuel : Nat} {listed : Array Bool} {a : Act} {w : World} (hi : ops[i]? = some oi)
    (h : Region.ready md ops listed = [i] ∧ ∀ K' : Act → World → Prop, Shut (∀ a w, S w → (S w → wpAnyH P md ops Q S fuel (listed.setIfInBounds i true) a w) → K' a w) → if Region.wanted oi (yielded ops a.tmps) = true then Oper.wp P oi a w K' Q else K' (a.put oi.dst undef) w) :
    wpAnyH P md ops Q S (fuel + 1) listed a w :=
  wpAnyH_ready h.1 (by simp) (AllReadyH.cons hi h.2 AllReadyH.nil)
end Go.Proofs.Ytnednhdbghkcnaa.Reg
