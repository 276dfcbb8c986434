/- Moves of a walk through a region that draws its order, each with the operation written out, and nothing but the frame laid anew. For any program. -/
import Derived.WalkKit
import Derived.KernelRfl
import Derived.Deep.RegionHeld3
namespace Go.Proofs.Ytmemafhdondfhaa.Rg
open Go Go.RowKit
set_option linter.unusedVariables false
variable {P : Program} {ops : Array Oper} {Q : Exit → Act → World → Prop} {md : Region.Mode} {S : World → Prop}
/-- What stands behind the region, kept out of sight. -/
theorem start {Q0 : Exit → Act → World → Prop} {id : Nat} {a : Act} {w : World} (hm : P.follows .mixedOrders = true) (hp : ∀ c a t v w, Q0 (.panic c) (a.put (some t) v) w → Q0 (.panic c) a w) (hS : S w.drew)
    (h : ∀ Q : Exit → Act → World → Prop, Hid (∀ c a t v w, Q (.panic c) (a.put (some t) v) w → Q (.panic c) a w) → Hid (∀ a w, Q0 .normal a w → Q .normal a w) → ∀ wz, S wz → wpAnyH P .any ops Q S ops.size (Array.replicate ops.size false) a wz) : (Code.region id ops true).wp P Q0 a w :=
  wp_region_held_drew hm hS (fun hS => h Q0 hp (fun _ _ h => h) _ hS)
/-- The same, with a fact on the world in which the region begins. -/
theorem start2 {Q0 : Exit → Act → World → Prop} {id : Nat} {a : Act} {w : World} {T : World → Prop} (hm : P.follows .mixedOrders = true) (hp : ∀ c a t v w, Q0 (.panic c) (a.put (some t) v) w → Q0 (.panic c) a w) (hS : S w.drew) (hT : T w.drew)
    (h : ∀ Q : Exit → Act → World → Prop, Hid (∀ c a t v w, Q (.panic c) (a.put (some t) v) w → Q (.panic c) a w) → Hid (∀ a w, Q0 .normal a w → Q .normal a w) → ∀ wz, S wz → T wz → wpAnyH P .any ops Q S ops.size (Array.replicate ops.size false) a wz) : (Code.region id ops true).wp P Q0 a w :=
  wp_region_held_drew hm hS (fun hS => h Q0 hp (fun _ _ h => h) _ hS hT)
/-- An operation is taken first. -/
theorem tk {i : Nat} {d : Option Tmp} {op : Op} {ty : TypeId} {pos : String} {aft : Array Edge} {g : Option (Nat × Bool)} {fuel : Nat} {listed : Array Bool} {a : Act} {w : World} (hi : ops[i]? = some ⟨d, op, ty, pos, aft, g⟩)
    (hp : Hid (∀ c a t v w, Q (.panic c) (a.put (some t) v) w → Q (.panic c) a w))
    (h : ∃ v a', Region.noSelect ops = true ∧ Region.free md ops listed i = true ∧ (Region.ready md ops listed).contains i = true ∧ YieldsIf P ops S ⟨d, op, ty, pos, aft, g⟩ v a ∧ S w ∧ a.put d v = a' ∧ wpAnyH P md ops Q S fuel (listed.setIfInBounds i true) a' w) :
    wpAnyH P md ops Q S (fuel + 1) listed a w := by
  obtain ⟨v, a', h1, h2, h3, h5, h6, rfl, h7⟩ := h
  exact wpAnyH_take hi h1 h2 h3 (fun c a w h => by cases d with | none => exact h | some t => exact hp c a t v w h) h5 h6 h7
/-- The one operation that may come up. -/
theorem one {i : Nat} {d : Option Tmp} {op : Op} {ty : TypeId} {pos : String} {aft : Array Edge} {g : Option (Nat × Bool)} {fuel : Nat} {listed : Array Bool} {a : Act} {w : World} (hi : ops[i]? = some ⟨d, op, ty, pos, aft, g⟩)
    (h : Region.ready md ops listed = [i] ∧ Region.wanted ⟨d, op, ty, pos, aft, g⟩ (yielded ops a.tmps) = true ∧ ∀ K' : Act → World → Prop, Shut (∀ a0 w' a', S w' → a0 = a' → (S w' → wpAnyH P md ops Q S fuel (listed.setIfInBounds i true) a' w') → K' a0 w') → Oper.wp P ⟨d, op, ty, pos, aft, g⟩ a w K' Q) :
    wpAnyH P md ops Q S (fuel + 1) listed a w := by
  refine wpAnyH_ready h.1 (by simp) (AllReadyH.cons hi (fun K' hK => ?_) AllReadyH.nil)
  rw [if_pos h.2.1]
  exact h.2.2 K' (fun a0 w' a' hS ha hW => hK _ _ hS (fun hS' => ha ▸ hW hS'))
/-- Two operations may come up. -/
theorem two {i j : Nat} {d d2 : Option Tmp} {op op2 : Op} {ty ty2 : TypeId} {pos pos2 : String} {aft aft2 : Array Edge} {g g2 : Option (Nat × Bool)} {fuel : Nat} {listed : Array Bool} {a : Act} {w : World} (hi : ops[i]? = some ⟨d, op, ty, pos, aft, g⟩) (hj : ops[j]? = some ⟨d2, op2, ty2, pos2, aft2, g2⟩)
    (h : Region.ready md ops listed = [i, j] ∧ Region.wanted ⟨d, op, ty, pos, aft, g⟩ (yielded ops a.tmps) = true ∧ Region.wanted ⟨d2, op2, ty2, pos2, aft2, g2⟩ (yielded ops a.tmps) = true)
    (h1 : ∀ K' : Act → World → Prop, Shut (∀ a0 w' a', S w' → a0 = a' → (S w' → wpAnyH P md ops Q S fuel (listed.setIfInBounds i true) a' w') → K' a0 w') → Oper.wp P ⟨d, op, ty, pos, aft, g⟩ a w K' Q)
    (h2 : ∀ K' : Act → World → Prop, Shut (∀ a0 w' a', S w' → a0 = a' → (S w' → wpAnyH P md ops Q S fuel (listed.setIfInBounds j true) a' w') → K' a0 w') → Oper.wp P ⟨d2, op2, ty2, pos2, aft2, g2⟩ a w K' Q) :
    wpAnyH P md ops Q S (fuel + 1) listed a w := by
  refine wpAnyH_ready h.1 (by simp) (AllReadyH.cons hi (fun K' hK => ?_) (AllReadyH.cons hj (fun K' hK => ?_) AllReadyH.nil))
  · rw [if_pos h.2.1]
    exact h1 K' (fun a0 w' a' hS ha hW => hK _ _ hS (fun hS' => ha ▸ hW hS'))
  · rw [if_pos h.2.2]
    exact h2 K' (fun a0 w' a' hS ha hW => hK _ _ hS (fun hS' => ha ▸ hW hS'))
end Go.Proofs.Ytmemafhdondfhaa.Rg
