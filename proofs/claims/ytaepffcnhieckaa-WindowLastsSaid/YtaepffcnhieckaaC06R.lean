/- Reset of the package window; and what one that is nil tells. -/
import Derived.Test.YtaepffcnhieckaaC06B
namespace Go.Proofs.Ytaepffcnhieckaa.C06
open Go.RowKit Go.Proofs.Ytaepffcnhieckaa Go.Proofs.Ytaepffcnhieckaa.Win
set_option linter.unusedVariables false
set_option linter.unusedSimpArgs false
set_option linter.unnecessarySimpa false
attribute [local go_sem] C01.max2_mx C01.min2_mn C01.max_two C01.min_two
theorem counts_nil (t : Int) (w : World) : Calls Try.prog 11 #[.pointer none, .int .u64 t] w fun e w' => e = .returned (.agg #[.int .u64 0, .int .u64 0, .int .u64 0, .int .u64 0, .int .u64 0]) ∧ Below w.heap.size w w' := by
  go_enter Try.func11, Try.ntmps11
  go_wp2_with fail
  refine bodyPost_ret (v := .agg #[.int .u64 0, .int .u64 0, .int .u64 0, .int .u64 0, .int .u64 0]) (by simp [results, Try.results11, go_sem]) rfl ⟨rfl, ?_⟩
  exact ((Below.refl _ _).alloc (Nat.le_refl _) _).alloc (by simp) _
theorem reset_nil (w : World) : Calls Try.prog 14 #[.pointer none] w fun e w' => e = .returned (.tuple #[]) ∧ w = w' := by
  go_enter Try.func14, Try.ntmps14
  go_wp2_with fail
  go_end0
  exact ⟨rfl, rfl⟩
theorem zeros_lit : (Builtin.zeroCells #[.int .u64 0, .int .u64 0, .int .u64 0, .int .u64 0, .int .u64 0, .int .u64 0] 8).toList = List.replicate 48 (Value.int .u64 0) := by kernel_rfl
theorem run_clear (B : Nat) (w : World) (h : ∀ j, j < 48 → (w.cell? ⟨B, j, none⟩).isSome = true ∧ w.frozen? ⟨B, j, none⟩ = false) :
    Sem.run Try.prog (Builtin.clear_ #[48] 0 #[.slice (some ⟨B, 0, none⟩) 8 8]) w = .ok (.tuple #[]) (w.setCells B 0 (List.replicate 48 (Value.int .u64 0))) := by
  have hz : (zeroValue 42).run Try.prog w = .ok (.agg #[.int .u64 0, .int .u64 0, .int .u64 0, .int .u64 0, .int .u64 0, .int .u64 0]) w := by kernel_rfl
  have hs := run_storeCells_cells (P := Try.prog) B 0 (List.replicate 48 (Value.int .u64 0)) 0 w (by intro j hj; simp at hj; simpa using (h j hj).1) (by intro j hj; simp at hj; simpa using (h j hj).2) (by
    intro v hv
    have := (List.mem_replicate.1 hv).2
    subst this; rfl)
  unfold Builtin.clear_
  simp [Sem.run_bind, run_underlying Try.underlying48, hz, Value.cells]
  rw [zeros_lit, hs]
  rfl
theorem AtF.sets {w : World} {B : Nat} {f : Nat → Int} (h : AtF w B f) : AtF (w.setCells B 0 (List.replicate 48 (Value.int .u64 0))) B (fun i => if i < 48 then 0 else f i) := by
  intro i hi
  refine ⟨?_, by rw [World.frozen?_setCells]; exact (h i hi).2⟩
  by_cases h48 : i < 48
  · have := World.cell?_setCells_in B (List.replicate 48 (Value.int .u64 0)) 0 w (fun j hj => by simp at hj; rw [Nat.zero_add, (h j (by omega)).1]; rfl) i (by simpa using h48)
    rw [Nat.zero_add] at this
    show _ = some (Value.int .u64 (if i < 48 then 0 else f i))
    rw [this, if_pos h48, List.getElem_replicate]
  · show _ = some (Value.int .u64 (if i < 48 then 0 else f i))
    rw [World.cell?_setCells_out _ _ _ _ _ (fun _ _ => .inr (by simp; omega)), if_neg h48]
    exact (h i hi).1
theorem Only.sets {B : Nat} {w w' : World} (h : Only B w w') : ∀ (vs : List Value) (o : Nat), Only B w (w'.setCells B o vs) := by
  intro vs
  induction vs generalizing w' with
  | nil => intro o; exact h
  | cons v vs ih => intro o; exact ih (h.set o v) (o + 1)
set_option maxHeartbeats 1000000 in
theorem reset_calls (B : Nat) (W : Win) (w : World) (h : At w B W) :
    Calls Try.prog 14 #[.pointer (some ⟨B, 0, none⟩)] w fun e w' => e = .returned (.tuple #[]) ∧ At w' B { W with a := fun _ => 0, c := fun _ _ => 0 } ∧ Only B w w' := by
  have hclr := run_clear B w (fun j hj => ⟨by rw [(h j (by omega)).1]; rfl, (h j (by omega)).2⟩)
  have H := hid h
  clear h
  go_enter Try.func14, Try.ntmps14
  go_wp2_with fail
  go_end0
  refine ⟨rfl, H.out.to.sets.at fun i hi => ?_, (Only.refl B w).sets _ _⟩
  by_cases h48 : i < 48
  · rw [if_pos h48]
    unfold Win.cell
    rw [if_pos h48]
    split <;> rfl
  · rw [if_neg h48]
    unfold Win.cell
    rw [if_neg h48, if_neg h48]
end Go.Proofs.Ytaepffcnhieckaa.C06
