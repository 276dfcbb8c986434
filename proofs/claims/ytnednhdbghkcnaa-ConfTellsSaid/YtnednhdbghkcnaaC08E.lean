/- The reference's Check. -/
import Derived.Test.YtnednhdbghkcnaaC08D
import Derived.Test.YtnednhdbghkcnaaReg2
namespace Go.Proofs.Ytnednhdbghkcnaa.C08
open Go.RowKit Go.Proofs.Ytnednhdbghkcnaa
set_option linter.unusedVariables false
set_option linter.unusedSimpArgs false
set_option linter.unnecessarySimpa false
attribute [local go_sem] C01.max2_mx C01.min2_mn C01.max_two C01.min_two
/-- Which fields may be, as the reference asks. -/
def rq (F : Nat → Int) : Nat → Bool
  | 0 => inb (F 0) 1 2 | 1 => onlyb (F 0 == 1) (F 1) 1 8 | 2 => onlyb (F 0 == 1) (F 2) 0 8 | 3 => onlyb (F 0 == 2) (F 3) 1 8 | 4 => inb (F 4) 0 4 | 5 => inb (F 5) 0 3 | 6 => tickb (F 6) 1 | 7 => tickb (F 7) 1
  | 8 => inb (F 8) 1 1000 | 9 => inb (F 9) 0 100 | 10 => tickb (F 10) 0 | 11 => inb (F 11) 1 8 | 12 => tickb (F 12) 1 | 13 => tickb (F 13) 0 | 14 => onlyb (decide (0 < F 13)) (F 14) 1 4 | _ => inb (F 15) 0 2
theorem bs16 (b0 b1 b2 b3 b4 b5 b6 b7 b8 b9 b10 b11 b12 b13 b14 b15 : Bool) (w : World) : ((Instr.buildSlice 49 16 #[(0, .bool b0), (1, .bool b1), (2, .bool b2), (3, .bool b3), (4, .bool b4), (5, .bool b5), (6, .bool b6), (7, .bool b7), (8, .bool b8), (9, .bool b9), (10, .bool b10), (11, .bool b11), (12, .bool b12), (13, .bool b13), (14, .bool b14), (15, .bool b15)] : Sem Value).run Try.prog w) = .ok (.slice (some ⟨w.heap.size, 0, none⟩) 16 16) (w.alloc (.cells #[.bool b0, .bool b1, .bool b2, .bool b3, .bool b4, .bool b5, .bool b6, .bool b7, .bool b8, .bool b9, .bool b10, .bool b11, .bool b12, .bool b13, .bool b14, .bool b15] 4 (0, 0))) := by kernel_rfl
theorem wp_bs {P : Program} {d : Option Tmp} {ty : TypeId} {pos : String} {aft : Array Edge} {g : Option (Nat × Bool)} {a : Act} {w w' : World} {K : Act → World → Prop} {Q : Exit → Act → World → Prop} {t n : Nat} {ps : Array (Nat × Operand)} {op : Op} {l : Array (Nat × Value)} {v : Value} (ho : op = .buildSlice t n ps) (hm : (ps.map fun x => (x.1, a.eval x.2)) = l) (hv : (Instr.buildSlice t n l).run P w = .ok v w') (h : K (a.put d v) w') : Oper.wp P ⟨d, op, ty, pos, aft, g⟩ a w K Q := by
  subst ho hm
  unfold Oper.wp execOp
  simp only [Sem.run_bind, Sem.run_pure, hv, Result.andThen_ok]
  exact h
theorem bool16 {w : World} {B : Nat} (q : Nat → Bool) (t : TypeId) (hB : B = w.heap.size) : ∀ j, j < 16 → (w.alloc (.cells #[.bool (q 0), .bool (q 1), .bool (q 2), .bool (q 3), .bool (q 4), .bool (q 5), .bool (q 6), .bool (q 7), .bool (q 8), .bool (q 9), .bool (q 10), .bool (q 11), .bool (q 12), .bool (q 13), .bool (q 14), .bool (q 15)] t (0, 0))).cell? ⟨B, j, none⟩ = some (.bool (q j)) := by
  subst hB
  intro k hk
  have hh : k = 0 ∨ k = 1 ∨ k = 2 ∨ k = 3 ∨ k = 4 ∨ k = 5 ∨ k = 6 ∨ k = 7 ∨ k = 8 ∨ k = 9 ∨ k = 10 ∨ k = 11 ∨ k = 12 ∨ k = 13 ∨ k = 14 ∨ k = 15 := by omega
  rcases hh with rfl | rfl | rfl | rfl | rfl | rfl | rfl | rfl | rfl | rfl | rfl | rfl | rfl | rfl | rfl | rfl
  all_goals simp [go_sem]
set_option maxRecDepth 20000 in
set_option maxHeartbeats 20000000 in
theorem rcheck_core (F : Nat → Int) (w : World) :
    Calls Try.prog 11 #[.agg #[.int .i64 (F 0), .int .i64 (F 1), .int .i64 (F 2), .int .i64 (F 3), .int .i64 (F 4), .int .i64 (F 5), .int .u64 (F 6), .int .u64 (F 7), .int .i64 (F 8), .int .i64 (F 9), .int .u64 (F 10), .int .i64 (F 11), .int .u64 (F 12), .int .u64 (F 13), .int .i64 (F 14), .int .i64 (F 15)]] w fun e w' => e = .returned (.int .i64 (bad (rq F) 16 0 : Nat)) ∧ Below w.heap.size w w' := by
  have keepS := hid (fun (w2 w3 : World) (hS : Hid (Below w.heap.size w w2 ∧ (w2.cell? ⟨w.heap.size, 0, none⟩ = some (.int .i64 (F 0)) ∧ w2.cell? ⟨w.heap.size, 1, none⟩ = some (.int .i64 (F 1)) ∧ w2.cell? ⟨w.heap.size, 2, none⟩ = some (.int .i64 (F 2)) ∧ w2.cell? ⟨w.heap.size, 3, none⟩ = some (.int .i64 (F 3)) ∧ w2.cell? ⟨w.heap.size, 4, none⟩ = some (.int .i64 (F 4)) ∧ w2.cell? ⟨w.heap.size, 5, none⟩ = some (.int .i64 (F 5)) ∧ w2.cell? ⟨w.heap.size, 6, none⟩ = some (.int .u64 (F 6)) ∧ w2.cell? ⟨w.heap.size, 7, none⟩ = some (.int .u64 (F 7)) ∧ w2.cell? ⟨w.heap.size, 8, none⟩ = some (.int .i64 (F 8)) ∧ w2.cell? ⟨w.heap.size, 9, none⟩ = some (.int .i64 (F 9)) ∧ w2.cell? ⟨w.heap.size, 10, none⟩ = some (.int .u64 (F 10)) ∧ w2.cell? ⟨w.heap.size, 11, none⟩ = some (.int .i64 (F 11)) ∧ w2.cell? ⟨w.heap.size, 12, none⟩ = some (.int .u64 (F 12)) ∧ w2.cell? ⟨w.heap.size, 13, none⟩ = some (.int .u64 (F 13)) ∧ w2.cell? ⟨w.heap.size, 14, none⟩ = some (.int .i64 (F 14)) ∧ w2.cell? ⟨w.heap.size, 15, none⟩ = some (.int .i64 (F 15))))) (hl : Below w2.heap.size w2 w3) =>
    (show Hid (Below w.heap.size w w3 ∧ (w3.cell? ⟨w.heap.size, 0, none⟩ = some (.int .i64 (F 0)) ∧ w3.cell? ⟨w.heap.size, 1, none⟩ = some (.int .i64 (F 1)) ∧ w3.cell? ⟨w.heap.size, 2, none⟩ = some (.int .i64 (F 2)) ∧ w3.cell? ⟨w.heap.size, 3, none⟩ = some (.int .i64 (F 3)) ∧ w3.cell? ⟨w.heap.size, 4, none⟩ = some (.int .i64 (F 4)) ∧ w3.cell? ⟨w.heap.size, 5, none⟩ = some (.int .i64 (F 5)) ∧ w3.cell? ⟨w.heap.size, 6, none⟩ = some (.int .u64 (F 6)) ∧ w3.cell? ⟨w.heap.size, 7, none⟩ = some (.int .u64 (F 7)) ∧ w3.cell? ⟨w.heap.size, 8, none⟩ = some (.int .i64 (F 8)) ∧ w3.cell? ⟨w.heap.size, 9, none⟩ = some (.int .i64 (F 9)) ∧ w3.cell? ⟨w.heap.size, 10, none⟩ = some (.int .u64 (F 10)) ∧ w3.cell? ⟨w.heap.size, 11, none⟩ = some (.int .i64 (F 11)) ∧ w3.cell? ⟨w.heap.size, 12, none⟩ = some (.int .u64 (F 12)) ∧ w3.cell? ⟨w.heap.size, 13, none⟩ = some (.int .u64 (F 13)) ∧ w3.cell? ⟨w.heap.size, 14, none⟩ = some (.int .i64 (F 14)) ∧ w3.cell? ⟨w.heap.size, 15, none⟩ = some (.int .i64 (F 15)))) by
      obtain ⟨hB, h⟩ := hS.out
      refine hid ⟨via hB hl, ?_⟩
      revert h
      simp only [and_imp]
      intros
      (repeat' apply And.intro) <;> exact cell_of hl (by assumption)))
  have hS0 : (fun wz : World => Hid (Below w.heap.size w wz ∧ (wz.cell? ⟨w.heap.size, 0, none⟩ = some (.int .i64 (F 0)) ∧ wz.cell? ⟨w.heap.size, 1, none⟩ = some (.int .i64 (F 1)) ∧ wz.cell? ⟨w.heap.size, 2, none⟩ = some (.int .i64 (F 2)) ∧ wz.cell? ⟨w.heap.size, 3, none⟩ = some (.int .i64 (F 3)) ∧ wz.cell? ⟨w.heap.size, 4, none⟩ = some (.int .i64 (F 4)) ∧ wz.cell? ⟨w.heap.size, 5, none⟩ = some (.int .i64 (F 5)) ∧ wz.cell? ⟨w.heap.size, 6, none⟩ = some (.int .u64 (F 6)) ∧ wz.cell? ⟨w.heap.size, 7, none⟩ = some (.int .u64 (F 7)) ∧ wz.cell? ⟨w.heap.size, 8, none⟩ = some (.int .i64 (F 8)) ∧ wz.cell? ⟨w.heap.size, 9, none⟩ = some (.int .i64 (F 9)) ∧ wz.cell? ⟨w.heap.size, 10, none⟩ = some (.int .u64 (F 10)) ∧ wz.cell? ⟨w.heap.size, 11, none⟩ = some (.int .i64 (F 11)) ∧ wz.cell? ⟨w.heap.size, 12, none⟩ = some (.int .u64 (F 12)) ∧ wz.cell? ⟨w.heap.size, 13, none⟩ = some (.int .u64 (F 13)) ∧ wz.cell? ⟨w.heap.size, 14, none⟩ = some (.int .i64 (F 14)) ∧ wz.cell? ⟨w.heap.size, 15, none⟩ = some (.int .i64 (F 15))))) (w.alloc (.cells #[.int .i64 (F 0), .int .i64 (F 1), .int .i64 (F 2), .int .i64 (F 3), .int .i64 (F 4), .int .i64 (F 5), .int .u64 (F 6), .int .u64 (F 7), .int .i64 (F 8), .int .i64 (F 9), .int .u64 (F 10), .int .i64 (F 11), .int .u64 (F 12), .int .u64 (F 13), .int .i64 (F 14), .int .i64 (F 15)] 24 (0, 0))).drew := by
    refine hid ⟨((Below.refl _ _).alloc (Nat.le_refl _) _).drew, by simp [go_sem]⟩
  go_enter Try.func11, Try.ntmps11
  go_wp2_with fail
  refine Rg.start (S := fun w' => Hid (Below w.heap.size w w' ∧ (w'.cell? ⟨w.heap.size, 0, none⟩ = some (.int .i64 (F 0)) ∧ w'.cell? ⟨w.heap.size, 1, none⟩ = some (.int .i64 (F 1)) ∧ w'.cell? ⟨w.heap.size, 2, none⟩ = some (.int .i64 (F 2)) ∧ w'.cell? ⟨w.heap.size, 3, none⟩ = some (.int .i64 (F 3)) ∧ w'.cell? ⟨w.heap.size, 4, none⟩ = some (.int .i64 (F 4)) ∧ w'.cell? ⟨w.heap.size, 5, none⟩ = some (.int .i64 (F 5)) ∧ w'.cell? ⟨w.heap.size, 6, none⟩ = some (.int .u64 (F 6)) ∧ w'.cell? ⟨w.heap.size, 7, none⟩ = some (.int .u64 (F 7)) ∧ w'.cell? ⟨w.heap.size, 8, none⟩ = some (.int .i64 (F 8)) ∧ w'.cell? ⟨w.heap.size, 9, none⟩ = some (.int .i64 (F 9)) ∧ w'.cell? ⟨w.heap.size, 10, none⟩ = some (.int .u64 (F 10)) ∧ w'.cell? ⟨w.heap.size, 11, none⟩ = some (.int .i64 (F 11)) ∧ w'.cell? ⟨w.heap.size, 12, none⟩ = some (.int .u64 (F 12)) ∧ w'.cell? ⟨w.heap.size, 13, none⟩ = some (.int .u64 (F 13)) ∧ w'.cell? ⟨w.heap.size, 14, none⟩ = some (.int .i64 (F 14)) ∧ w'.cell? ⟨w.heap.size, 15, none⟩ = some (.int .i64 (F 15))))) (by kernel_rfl) (fun _ _ _ _ _ h => h) (hS0) ?_
  intro Q hp hn wz hH0
  refine Rg.tk (i := 0) rfl hp ?_
  refine ⟨?_, ?_, by kernel_rfl, by kernel_rfl, by kernel_rfl, Or.inl ⟨by rfl, ?_⟩, hH0, ?_, ?_⟩
  rotate_left 2
  · (intro w hSw; clear hSw; go_simp; try with_reducible rfl)
  · ((try simp only [Act.put, List.setIfInBounds_toArray, List.set_cons_zero, List.set_cons_succ]); exact rfl)
  refine Rg.tk (i := 1) rfl hp ?_
  refine ⟨?_, ?_, by kernel_rfl, by kernel_rfl, by kernel_rfl, Or.inl ⟨by rfl, ?_⟩, hH0, ?_, ?_⟩
  rotate_left 2
  · (intro w hSw; have hc := hSw.out.2.1; clear hSw; go_simp; try with_reducible rfl)
  · ((try simp only [Act.put, List.setIfInBounds_toArray, List.set_cons_zero, List.set_cons_succ]); exact rfl)
  refine Rg.tk (i := 3) rfl hp ?_
  refine ⟨?_, ?_, by kernel_rfl, by kernel_rfl, by kernel_rfl, Or.inl ⟨by rfl, ?_⟩, hH0, ?_, ?_⟩
  rotate_left 2
  · (intro w hSw; clear hSw; go_simp; try with_reducible rfl)
  · ((try simp only [Act.put, List.setIfInBounds_toArray, List.set_cons_zero, List.set_cons_succ]); exact rfl)
  refine Rg.tk (i := 4) rfl hp ?_
  refine ⟨?_, ?_, by kernel_rfl, by kernel_rfl, by kernel_rfl, Or.inl ⟨by rfl, ?_⟩, hH0, ?_, ?_⟩
  rotate_left 2
  · (intro w hSw; have hc := hSw.out.2.1; clear hSw; go_simp; try with_reducible rfl)
  · ((try simp only [Act.put, List.setIfInBounds_toArray, List.set_cons_zero, List.set_cons_succ]); exact rfl)
  refine Rg.tk (i := 5) rfl hp ?_
  refine ⟨?_, ?_, by kernel_rfl, by kernel_rfl, by kernel_rfl, Or.inl ⟨by rfl, ?_⟩, hH0, ?_, ?_⟩
  rotate_left 2
  · (intro w hSw; clear hSw; go_simp; try with_reducible rfl)
  · ((try simp only [Act.put, List.setIfInBounds_toArray, List.set_cons_zero, List.set_cons_succ]); exact rfl)
  refine Rg.tk (i := 6) rfl hp ?_
  refine ⟨?_, ?_, by kernel_rfl, by kernel_rfl, by kernel_rfl, Or.inl ⟨by rfl, ?_⟩, hH0, ?_, ?_⟩
  rotate_left 2
  · (intro w hSw; clear hSw; go_simp; try with_reducible rfl)
  · ((try simp only [Act.put, List.setIfInBounds_toArray, List.set_cons_zero, List.set_cons_succ]); exact rfl)
  refine Rg.tk (i := 7) rfl hp ?_
  refine ⟨?_, ?_, by kernel_rfl, by kernel_rfl, by kernel_rfl, Or.inl ⟨by rfl, ?_⟩, hH0, ?_, ?_⟩
  rotate_left 2
  · (intro w hSw; have hc := hSw.out.2.2.1; clear hSw; go_simp; try with_reducible rfl)
  · ((try simp only [Act.put, List.setIfInBounds_toArray, List.set_cons_zero, List.set_cons_succ]); exact rfl)
  refine Rg.tk (i := 9) rfl hp ?_
  refine ⟨?_, ?_, by kernel_rfl, by kernel_rfl, by kernel_rfl, Or.inl ⟨by rfl, ?_⟩, hH0, ?_, ?_⟩
  rotate_left 2
  · (intro w hSw; clear hSw; go_simp; try with_reducible rfl)
  · ((try simp only [Act.put, List.setIfInBounds_toArray, List.set_cons_zero, List.set_cons_succ]); exact rfl)
  refine Rg.tk (i := 10) rfl hp ?_
  refine ⟨?_, ?_, by kernel_rfl, by kernel_rfl, by kernel_rfl, Or.inl ⟨by rfl, ?_⟩, hH0, ?_, ?_⟩
  rotate_left 2
  · (intro w hSw; have hc := hSw.out.2.1; clear hSw; go_simp; try with_reducible rfl)
  · ((try simp only [Act.put, List.setIfInBounds_toArray, List.set_cons_zero, List.set_cons_succ]); exact rfl)
  refine Rg.tk (i := 11) rfl hp ?_
  refine ⟨?_, ?_, by kernel_rfl, by kernel_rfl, by kernel_rfl, Or.inl ⟨by rfl, ?_⟩, hH0, ?_, ?_⟩
  rotate_left 2
  · (intro w hSw; clear hSw; go_simp; try with_reducible rfl)
  · ((try simp only [Act.put, List.setIfInBounds_toArray, List.set_cons_zero, List.set_cons_succ]); exact rfl)
  refine Rg.tk (i := 12) rfl hp ?_
  refine ⟨?_, ?_, by kernel_rfl, by kernel_rfl, by kernel_rfl, Or.inl ⟨by rfl, ?_⟩, hH0, ?_, ?_⟩
  rotate_left 2
  · (intro w hSw; clear hSw; go_simp; try with_reducible rfl)
  · ((try simp only [Act.put, List.setIfInBounds_toArray, List.set_cons_zero, List.set_cons_succ]); exact rfl)
  refine Rg.tk (i := 13) rfl hp ?_
  refine ⟨?_, ?_, by kernel_rfl, by kernel_rfl, by kernel_rfl, Or.inl ⟨by rfl, ?_⟩, hH0, ?_, ?_⟩
  rotate_left 2
  · (intro w hSw; have hc := hSw.out.2.2.2.1; clear hSw; go_simp; try with_reducible rfl)
  · ((try simp only [Act.put, List.setIfInBounds_toArray, List.set_cons_zero, List.set_cons_succ]); exact rfl)
  refine Rg.tk (i := 15) rfl hp ?_
  refine ⟨?_, ?_, by kernel_rfl, by kernel_rfl, by kernel_rfl, Or.inl ⟨by rfl, ?_⟩, hH0, ?_, ?_⟩
  rotate_left 2
  · (intro w hSw; clear hSw; go_simp; try with_reducible rfl)
  · ((try simp only [Act.put, List.setIfInBounds_toArray, List.set_cons_zero, List.set_cons_succ]); exact rfl)
  refine Rg.tk (i := 16) rfl hp ?_
  refine ⟨?_, ?_, by kernel_rfl, by kernel_rfl, by kernel_rfl, Or.inl ⟨by rfl, ?_⟩, hH0, ?_, ?_⟩
  rotate_left 2
  · (intro w hSw; have hc := hSw.out.2.1; clear hSw; go_simp; try with_reducible rfl)
  · ((try simp only [Act.put, List.setIfInBounds_toArray, List.set_cons_zero, List.set_cons_succ]); exact rfl)
  refine Rg.tk (i := 17) rfl hp ?_
  refine ⟨?_, ?_, by kernel_rfl, by kernel_rfl, by kernel_rfl, Or.inl ⟨by rfl, ?_⟩, hH0, ?_, ?_⟩
  rotate_left 2
  · (intro w hSw; clear hSw; go_simp; try with_reducible rfl)
  · ((try simp only [Act.put, List.setIfInBounds_toArray, List.set_cons_zero, List.set_cons_succ]); exact rfl)
  refine Rg.tk (i := 18) rfl hp ?_
  refine ⟨?_, ?_, by kernel_rfl, by kernel_rfl, by kernel_rfl, Or.inl ⟨by rfl, ?_⟩, hH0, ?_, ?_⟩
  rotate_left 2
  · (intro w hSw; clear hSw; go_simp; try with_reducible rfl)
  · ((try simp only [Act.put, List.setIfInBounds_toArray, List.set_cons_zero, List.set_cons_succ]); exact rfl)
  refine Rg.tk (i := 19) rfl hp ?_
  refine ⟨?_, ?_, by kernel_rfl, by kernel_rfl, by kernel_rfl, Or.inl ⟨by rfl, ?_⟩, hH0, ?_, ?_⟩
  rotate_left 2
  · (intro w hSw; have hc := hSw.out.2.2.2.2.1; clear hSw; go_simp; try with_reducible rfl)
  · ((try simp only [Act.put, List.setIfInBounds_toArray, List.set_cons_zero, List.set_cons_succ]); exact rfl)
  refine Rg.tk (i := 21) rfl hp ?_
  refine ⟨?_, ?_, by kernel_rfl, by kernel_rfl, by kernel_rfl, Or.inl ⟨by rfl, ?_⟩, hH0, ?_, ?_⟩
  rotate_left 2
  · (intro w hSw; clear hSw; go_simp; try with_reducible rfl)
  · ((try simp only [Act.put, List.setIfInBounds_toArray, List.set_cons_zero, List.set_cons_succ]); exact rfl)
  refine Rg.tk (i := 22) rfl hp ?_
  refine ⟨?_, ?_, by kernel_rfl, by kernel_rfl, by kernel_rfl, Or.inl ⟨by rfl, ?_⟩, hH0, ?_, ?_⟩
  rotate_left 2
  · (intro w hSw; have hc := hSw.out.2.2.2.2.2.1; clear hSw; go_simp; try with_reducible rfl)
  · ((try simp only [Act.put, List.setIfInBounds_toArray, List.set_cons_zero, List.set_cons_succ]); exact rfl)
  refine Rg.tk (i := 24) rfl hp ?_
  refine ⟨?_, ?_, by kernel_rfl, by kernel_rfl, by kernel_rfl, Or.inl ⟨by rfl, ?_⟩, hH0, ?_, ?_⟩
  rotate_left 2
  · (intro w hSw; clear hSw; go_simp; try with_reducible rfl)
  · ((try simp only [Act.put, List.setIfInBounds_toArray, List.set_cons_zero, List.set_cons_succ]); exact rfl)
  refine Rg.tk (i := 25) rfl hp ?_
  refine ⟨?_, ?_, by kernel_rfl, by kernel_rfl, by kernel_rfl, Or.inl ⟨by rfl, ?_⟩, hH0, ?_, ?_⟩
  rotate_left 2
  · (intro w hSw; have hc := hSw.out.2.2.2.2.2.2.1; clear hSw; go_simp; try with_reducible rfl)
  · ((try simp only [Act.put, List.setIfInBounds_toArray, List.set_cons_zero, List.set_cons_succ]); exact rfl)
  refine Rg.tk (i := 27) rfl hp ?_
  refine ⟨?_, ?_, by kernel_rfl, by kernel_rfl, by kernel_rfl, Or.inl ⟨by rfl, ?_⟩, hH0, ?_, ?_⟩
  rotate_left 2
  · (intro w hSw; clear hSw; go_simp; try with_reducible rfl)
  · ((try simp only [Act.put, List.setIfInBounds_toArray, List.set_cons_zero, List.set_cons_succ]); exact rfl)
  refine Rg.tk (i := 28) rfl hp ?_
  refine ⟨?_, ?_, by kernel_rfl, by kernel_rfl, by kernel_rfl, Or.inl ⟨by rfl, ?_⟩, hH0, ?_, ?_⟩
  rotate_left 2
  · (intro w hSw; have hc := hSw.out.2.2.2.2.2.2.2.1; clear hSw; go_simp; try with_reducible rfl)
  · ((try simp only [Act.put, List.setIfInBounds_toArray, List.set_cons_zero, List.set_cons_succ]); exact rfl)
  refine Rg.tk (i := 30) rfl hp ?_
  refine ⟨?_, ?_, by kernel_rfl, by kernel_rfl, by kernel_rfl, Or.inl ⟨by rfl, ?_⟩, hH0, ?_, ?_⟩
  rotate_left 2
  · (intro w hSw; clear hSw; go_simp; try with_reducible rfl)
  · ((try simp only [Act.put, List.setIfInBounds_toArray, List.set_cons_zero, List.set_cons_succ]); exact rfl)
  refine Rg.tk (i := 31) rfl hp ?_
  refine ⟨?_, ?_, by kernel_rfl, by kernel_rfl, by kernel_rfl, Or.inl ⟨by rfl, ?_⟩, hH0, ?_, ?_⟩
  rotate_left 2
  · (intro w hSw; have hc := hSw.out.2.2.2.2.2.2.2.2.1; clear hSw; go_simp; try with_reducible rfl)
  · ((try simp only [Act.put, List.setIfInBounds_toArray, List.set_cons_zero, List.set_cons_succ]); exact rfl)
  refine Rg.tk (i := 33) rfl hp ?_
  refine ⟨?_, ?_, by kernel_rfl, by kernel_rfl, by kernel_rfl, Or.inl ⟨by rfl, ?_⟩, hH0, ?_, ?_⟩
  rotate_left 2
  · (intro w hSw; clear hSw; go_simp; try with_reducible rfl)
  · ((try simp only [Act.put, List.setIfInBounds_toArray, List.set_cons_zero, List.set_cons_succ]); exact rfl)
  refine Rg.tk (i := 34) rfl hp ?_
  refine ⟨?_, ?_, by kernel_rfl, by kernel_rfl, by kernel_rfl, Or.inl ⟨by rfl, ?_⟩, hH0, ?_, ?_⟩
  rotate_left 2
  · (intro w hSw; have hc := hSw.out.2.2.2.2.2.2.2.2.2.1; clear hSw; go_simp; try with_reducible rfl)
  · ((try simp only [Act.put, List.setIfInBounds_toArray, List.set_cons_zero, List.set_cons_succ]); exact rfl)
  refine Rg.tk (i := 36) rfl hp ?_
  refine ⟨?_, ?_, by kernel_rfl, by kernel_rfl, by kernel_rfl, Or.inl ⟨by rfl, ?_⟩, hH0, ?_, ?_⟩
  rotate_left 2
  · (intro w hSw; clear hSw; go_simp; try with_reducible rfl)
  · ((try simp only [Act.put, List.setIfInBounds_toArray, List.set_cons_zero, List.set_cons_succ]); exact rfl)
  refine Rg.tk (i := 37) rfl hp ?_
  refine ⟨?_, ?_, by kernel_rfl, by kernel_rfl, by kernel_rfl, Or.inl ⟨by rfl, ?_⟩, hH0, ?_, ?_⟩
  rotate_left 2
  · (intro w hSw; have hc := hSw.out.2.2.2.2.2.2.2.2.2.2.1; clear hSw; go_simp; try with_reducible rfl)
  · ((try simp only [Act.put, List.setIfInBounds_toArray, List.set_cons_zero, List.set_cons_succ]); exact rfl)
  refine Rg.tk (i := 39) rfl hp ?_
  refine ⟨?_, ?_, by kernel_rfl, by kernel_rfl, by kernel_rfl, Or.inl ⟨by rfl, ?_⟩, hH0, ?_, ?_⟩
  rotate_left 2
  · (intro w hSw; clear hSw; go_simp; try with_reducible rfl)
  · ((try simp only [Act.put, List.setIfInBounds_toArray, List.set_cons_zero, List.set_cons_succ]); exact rfl)
  refine Rg.tk (i := 40) rfl hp ?_
  refine ⟨?_, ?_, by kernel_rfl, by kernel_rfl, by kernel_rfl, Or.inl ⟨by rfl, ?_⟩, hH0, ?_, ?_⟩
  rotate_left 2
  · (intro w hSw; have hc := hSw.out.2.2.2.2.2.2.2.2.2.2.2.1; clear hSw; go_simp; try with_reducible rfl)
  · ((try simp only [Act.put, List.setIfInBounds_toArray, List.set_cons_zero, List.set_cons_succ]); exact rfl)
  refine Rg.tk (i := 42) rfl hp ?_
  refine ⟨?_, ?_, by kernel_rfl, by kernel_rfl, by kernel_rfl, Or.inl ⟨by rfl, ?_⟩, hH0, ?_, ?_⟩
  rotate_left 2
  · (intro w hSw; clear hSw; go_simp; try with_reducible rfl)
  · ((try simp only [Act.put, List.setIfInBounds_toArray, List.set_cons_zero, List.set_cons_succ]); exact rfl)
  refine Rg.tk (i := 43) rfl hp ?_
  refine ⟨?_, ?_, by kernel_rfl, by kernel_rfl, by kernel_rfl, Or.inl ⟨by rfl, ?_⟩, hH0, ?_, ?_⟩
  rotate_left 2
  · (intro w hSw; have hc := hSw.out.2.2.2.2.2.2.2.2.2.2.2.2.1; clear hSw; go_simp; try with_reducible rfl)
  · ((try simp only [Act.put, List.setIfInBounds_toArray, List.set_cons_zero, List.set_cons_succ]); exact rfl)
  refine Rg.tk (i := 45) rfl hp ?_
  refine ⟨?_, ?_, by kernel_rfl, by kernel_rfl, by kernel_rfl, Or.inl ⟨by rfl, ?_⟩, hH0, ?_, ?_⟩
  rotate_left 2
  · (intro w hSw; clear hSw; go_simp; try with_reducible rfl)
  · ((try simp only [Act.put, List.setIfInBounds_toArray, List.set_cons_zero, List.set_cons_succ]); exact rfl)
  refine Rg.tk (i := 46) rfl hp ?_
  refine ⟨?_, ?_, by kernel_rfl, by kernel_rfl, by kernel_rfl, Or.inl ⟨by rfl, ?_⟩, hH0, ?_, ?_⟩
  rotate_left 2
  · (intro w hSw; have hc := hSw.out.2.2.2.2.2.2.2.2.2.2.2.2.2.1; clear hSw; go_simp; try with_reducible rfl)
  · ((try simp only [Act.put, List.setIfInBounds_toArray, List.set_cons_zero, List.set_cons_succ]); exact rfl)
  refine Rg.tk (i := 48) rfl hp ?_
  refine ⟨?_, ?_, by kernel_rfl, by kernel_rfl, by kernel_rfl, Or.inl ⟨by rfl, ?_⟩, hH0, ?_, ?_⟩
  rotate_left 2
  · (intro w hSw; clear hSw; go_simp; try with_reducible rfl)
  · ((try simp only [Act.put, List.setIfInBounds_toArray, List.set_cons_zero, List.set_cons_succ]); exact rfl)
  refine Rg.tk (i := 49) rfl hp ?_
  refine ⟨?_, ?_, by kernel_rfl, by kernel_rfl, by kernel_rfl, Or.inl ⟨by rfl, ?_⟩, hH0, ?_, ?_⟩
  rotate_left 2
  · (intro w hSw; have hc := hSw.out.2.2.2.2.2.2.2.2.2.2.2.2.2.2.1; clear hSw; go_simp; try with_reducible rfl)
  · ((try simp only [Act.put, List.setIfInBounds_toArray, List.set_cons_zero, List.set_cons_succ]); exact rfl)
  refine Rg.tk (i := 51) rfl hp ?_
  refine ⟨?_, ?_, by kernel_rfl, by kernel_rfl, by kernel_rfl, Or.inl ⟨by rfl, ?_⟩, hH0, ?_, ?_⟩
  rotate_left 2
  · (intro w hSw; clear hSw; go_simp; try with_reducible rfl)
  · ((try simp only [Act.put, List.setIfInBounds_toArray, List.set_cons_zero, List.set_cons_succ]); exact rfl)
  refine Rg.tk (i := 52) rfl hp ?_
  refine ⟨?_, ?_, by kernel_rfl, by kernel_rfl, by kernel_rfl, Or.inl ⟨by rfl, ?_⟩, hH0, ?_, ?_⟩
  rotate_left 2
  · (intro w hSw; have hc := hSw.out.2.2.2.2.2.2.2.2.2.2.2.2.2.2.1; clear hSw; go_simp; try with_reducible rfl)
  · ((try simp only [Act.put, List.setIfInBounds_toArray, List.set_cons_zero, List.set_cons_succ]); exact rfl)
  refine Rg.tk (i := 53) rfl hp ?_
  refine ⟨?_, ?_, by kernel_rfl, by kernel_rfl, by kernel_rfl, Or.inl ⟨by rfl, ?_⟩, hH0, ?_, ?_⟩
  rotate_left 2
  · (intro w hSw; clear hSw; go_simp; try with_reducible rfl)
  · ((try simp only [Act.put, List.setIfInBounds_toArray, List.set_cons_zero, List.set_cons_succ]); exact rfl)
  refine Rg.tk (i := 54) rfl hp ?_
  refine ⟨?_, ?_, by kernel_rfl, by kernel_rfl, by kernel_rfl, Or.inl ⟨by rfl, ?_⟩, hH0, ?_, ?_⟩
  rotate_left 2
  · (intro w hSw; clear hSw; go_simp; try with_reducible rfl)
  · ((try simp only [Act.put, List.setIfInBounds_toArray, List.set_cons_zero, List.set_cons_succ]); exact rfl)
  refine Rg.tk (i := 55) rfl hp ?_
  refine ⟨?_, ?_, by kernel_rfl, by kernel_rfl, by kernel_rfl, Or.inl ⟨by rfl, ?_⟩, hH0, ?_, ?_⟩
  rotate_left 2
  · (intro w hSw; have hc := hSw.out.2.2.2.2.2.2.2.2.2.2.2.2.2.2.2.1; clear hSw; go_simp; try with_reducible rfl)
  · ((try simp only [Act.put, List.setIfInBounds_toArray, List.set_cons_zero, List.set_cons_succ]); exact rfl)
  refine Rg.tk (i := 57) rfl hp ?_
  refine ⟨?_, ?_, by kernel_rfl, by kernel_rfl, by kernel_rfl, Or.inl ⟨by rfl, ?_⟩, hH0, ?_, ?_⟩
  rotate_left 2
  · (intro w hSw; clear hSw; go_simp; try with_reducible rfl)
  · ((try simp only [Act.put, List.setIfInBounds_toArray, List.set_cons_zero, List.set_cons_succ]); exact rfl)
  refine Rg.tk (i := 58) rfl hp ?_
  refine ⟨?_, ?_, by kernel_rfl, by kernel_rfl, by kernel_rfl, Or.inl ⟨by rfl, ?_⟩, hH0, ?_, ?_⟩
  rotate_left 2
  · (intro w hSw; have hc := hSw.out.2.2.2.2.2.2.2.2.2.2.2.2.2.2.2.2; clear hSw; go_simp; try with_reducible rfl)
  · ((try simp only [Act.put, List.setIfInBounds_toArray, List.set_cons_zero, List.set_cons_succ]); exact rfl)
  refine Rg.one (i := 2) rfl ⟨by kernel_rfl, by rfl, fun K hK => ?_⟩
  go_simp
  refine (in_calls _ _ _ _).mono ?_
  rintro e w' ⟨rfl, rfl⟩
  refine hK.out _ _ ?_ (hH0) ?_ (fun hH1 => ?_)
  rotate_left
  · ((try simp only [Act.put, List.setIfInBounds_toArray, List.set_cons_zero, List.set_cons_succ]); exact rfl)
  clear hK K hH0
  refine Rg.one (i := 8) rfl ⟨by kernel_rfl, by rfl, fun K hK => ?_⟩
  go_simp
  refine (only_calls _ _ _ _ _).mono ?_
  rintro e w' ⟨rfl, rfl⟩
  refine hK.out _ _ ?_ (hH1) ?_ (fun hH2 => ?_)
  rotate_left
  · ((try simp only [Act.put, List.setIfInBounds_toArray, List.set_cons_zero, List.set_cons_succ]); exact rfl)
  clear hK K hH1
  refine Rg.one (i := 14) rfl ⟨by kernel_rfl, by rfl, fun K hK => ?_⟩
  go_simp
  refine (only_calls _ _ _ _ _).mono ?_
  rintro e w' ⟨rfl, rfl⟩
  refine hK.out _ _ ?_ (hH2) ?_ (fun hH3 => ?_)
  rotate_left
  · ((try simp only [Act.put, List.setIfInBounds_toArray, List.set_cons_zero, List.set_cons_succ]); exact rfl)
  clear hK K hH2
  refine Rg.one (i := 20) rfl ⟨by kernel_rfl, by rfl, fun K hK => ?_⟩
  go_simp
  refine (only_calls _ _ _ _ _).mono ?_
  rintro e w' ⟨rfl, rfl⟩
  refine hK.out _ _ ?_ (hH3) ?_ (fun hH4 => ?_)
  rotate_left
  · ((try simp only [Act.put, List.setIfInBounds_toArray, List.set_cons_zero, List.set_cons_succ]); exact rfl)
  clear hK K hH3
  as_aux_lemma =>
    refine Rg.one (i := 23) rfl ⟨by kernel_rfl, by rfl, fun K hK => ?_⟩
    go_simp
    refine (in_calls _ _ _ _).mono ?_
    rintro e w' ⟨rfl, rfl⟩
    refine hK.out _ _ ?_ (hH4) ?_ (fun hH5 => ?_)
    rotate_left
    · ((try simp only [Act.put, List.setIfInBounds_toArray, List.set_cons_zero, List.set_cons_succ]); exact rfl)
    clear hK K hH4
    refine Rg.one (i := 26) rfl ⟨by kernel_rfl, by rfl, fun K hK => ?_⟩
    go_simp
    refine (in_calls _ _ _ _).mono ?_
    rintro e w' ⟨rfl, rfl⟩
    refine hK.out _ _ ?_ (hH5) ?_ (fun hH6 => ?_)
    rotate_left
    · ((try simp only [Act.put, List.setIfInBounds_toArray, List.set_cons_zero, List.set_cons_succ]); exact rfl)
    clear hK K hH5
    refine Rg.one (i := 29) rfl ⟨by kernel_rfl, by rfl, fun K hK => ?_⟩
    go_simp
    refine (ticks_calls _ _ _).mono ?_
    rintro e w' ⟨rfl, rfl⟩
    refine hK.out _ _ ?_ (hH6) ?_ (fun hH7 => ?_)
    rotate_left
    · ((try simp only [Act.put, List.setIfInBounds_toArray, List.set_cons_zero, List.set_cons_succ]); exact rfl)
    clear hK K hH6
    refine Rg.one (i := 32) rfl ⟨by kernel_rfl, by rfl, fun K hK => ?_⟩
    go_simp
    refine (ticks_calls _ _ _).mono ?_
    rintro e w' ⟨rfl, rfl⟩
    refine hK.out _ _ ?_ (hH7) ?_ (fun hH8 => ?_)
    rotate_left
    · ((try simp only [Act.put, List.setIfInBounds_toArray, List.set_cons_zero, List.set_cons_succ]); exact rfl)
    clear hK K hH7
    as_aux_lemma =>
      refine Rg.one (i := 35) rfl ⟨by kernel_rfl, by rfl, fun K hK => ?_⟩
      go_simp
      refine (in_calls _ _ _ _).mono ?_
      rintro e w' ⟨rfl, rfl⟩
      refine hK.out _ _ ?_ (hH8) ?_ (fun hH9 => ?_)
      rotate_left
      · ((try simp only [Act.put, List.setIfInBounds_toArray, List.set_cons_zero, List.set_cons_succ]); exact rfl)
      clear hK K hH8
      refine Rg.one (i := 38) rfl ⟨by kernel_rfl, by rfl, fun K hK => ?_⟩
      go_simp
      refine (in_calls _ _ _ _).mono ?_
      rintro e w' ⟨rfl, rfl⟩
      refine hK.out _ _ ?_ (hH9) ?_ (fun hH10 => ?_)
      rotate_left
      · ((try simp only [Act.put, List.setIfInBounds_toArray, List.set_cons_zero, List.set_cons_succ]); exact rfl)
      clear hK K hH9
      refine Rg.one (i := 41) rfl ⟨by kernel_rfl, by rfl, fun K hK => ?_⟩
      go_simp
      refine (ticks_calls _ _ _).mono ?_
      rintro e w' ⟨rfl, rfl⟩
      refine hK.out _ _ ?_ (hH10) ?_ (fun hH11 => ?_)
      rotate_left
      · ((try simp only [Act.put, List.setIfInBounds_toArray, List.set_cons_zero, List.set_cons_succ]); exact rfl)
      clear hK K hH10
      refine Rg.one (i := 44) rfl ⟨by kernel_rfl, by rfl, fun K hK => ?_⟩
      go_simp
      refine (in_calls _ _ _ _).mono ?_
      rintro e w' ⟨rfl, rfl⟩
      refine hK.out _ _ ?_ (hH11) ?_ (fun hH12 => ?_)
      rotate_left
      · ((try simp only [Act.put, List.setIfInBounds_toArray, List.set_cons_zero, List.set_cons_succ]); exact rfl)
      clear hK K hH11
      as_aux_lemma =>
        refine Rg.one (i := 47) rfl ⟨by kernel_rfl, by rfl, fun K hK => ?_⟩
        go_simp
        refine (ticks_calls _ _ _).mono ?_
        rintro e w' ⟨rfl, rfl⟩
        refine hK.out _ _ ?_ (hH12) ?_ (fun hH13 => ?_)
        rotate_left
        · ((try simp only [Act.put, List.setIfInBounds_toArray, List.set_cons_zero, List.set_cons_succ]); exact rfl)
        clear hK K hH12
        refine Rg.one (i := 50) rfl ⟨by kernel_rfl, by rfl, fun K hK => ?_⟩
        go_simp
        refine (ticks_calls _ _ _).mono ?_
        rintro e w' ⟨rfl, rfl⟩
        refine hK.out _ _ ?_ (hH13) ?_ (fun hH14 => ?_)
        rotate_left
        · ((try simp only [Act.put, List.setIfInBounds_toArray, List.set_cons_zero, List.set_cons_succ]); exact rfl)
        clear hK K hH13
        refine Rg.one (i := 56) rfl ⟨by kernel_rfl, by rfl, fun K hK => ?_⟩
        go_simp
        refine (only_calls _ _ _ _ _).mono ?_
        rintro e w' ⟨rfl, rfl⟩
        refine hK.out _ _ ?_ (hH14) ?_ (fun hH15 => ?_)
        rotate_left
        · ((try simp only [Act.put, List.setIfInBounds_toArray, List.set_cons_zero, List.set_cons_succ]); exact rfl)
        clear hK K hH14
        refine Rg.one (i := 59) rfl ⟨by kernel_rfl, by rfl, fun K hK => ?_⟩
        go_simp
        refine (in_calls _ _ _ _).mono ?_
        rintro e w' ⟨rfl, rfl⟩
        refine hK.out _ _ ?_ (hH15) ?_ (fun hH16 => ?_)
        rotate_left
        · ((try simp only [Act.put, List.setIfInBounds_toArray, List.set_cons_zero, List.set_cons_succ]); exact rfl)
        clear hK K hH15
        refine Rg.one (i := 60) rfl ⟨by kernel_rfl, by rfl, fun K hK => ?_⟩
        refine wp_bs (t := 49) (n := 16) (l := #[(0, .bool (inb (F 0) 1 2)), (1, .bool (onlyb (F 0 == 1) (F 1) 1 8)), (2, .bool (onlyb (F 0 == 1) (F 2) 0 8)), (3, .bool (onlyb (F 0 == 2) (F 3) 1 8)), (4, .bool (inb (F 4) 0 4)), (5, .bool (inb (F 5) 0 3)), (6, .bool (tickb (F 6) 1)), (7, .bool (tickb (F 7) 1)), (8, .bool (inb (F 8) 1 1000)), (9, .bool (inb (F 9) 0 100)), (10, .bool (tickb (F 10) 0)), (11, .bool (inb (F 11) 1 8)), (12, .bool (tickb (F 12) 1)), (13, .bool (tickb (F 13) 0)), (14, .bool (onlyb (decide (0 < F 13)) (F 14) 1 4)), (15, .bool (inb (F 15) 0 2))]) rfl (by kernel_rfl) (bs16 _ _ _ _ _ _ _ _ _ _ _ _ _ _ _ _ _) ?_
        refine hK.out _ _ ?_ (keepS.out _ _ hH16 (grow' _ _)) ?_ (fun hH17 => ?_)
        rotate_left
        · ((try simp only [Act.put, List.setIfInBounds_toArray, List.set_cons_zero, List.set_cons_succ]); exact rfl)
        clear hK K hH16
        refine Rg.tk (i := 61) rfl hp ?_
        refine ⟨?_, ?_, by kernel_rfl, by kernel_rfl, by kernel_rfl, Or.inl ⟨by rfl, ?_⟩, hH17, ?_, ?_⟩
        rotate_left 2
        · (intro w hSw; clear hSw; go_simp; try with_reducible rfl)
        · ((try simp only [Act.put, List.setIfInBounds_toArray, List.set_cons_zero, List.set_cons_succ]); exact rfl)
        refine wpAnyH_done (by kernel_rfl) ?_ _
        refine hn.out _ _ ?_
        have hq : ∀ (T : TypeId) (j : Nat), j < 16 → (wz.alloc (.cells #[.bool (inb (F 0) 1 2), .bool (onlyb (F 0 == 1) (F 1) 1 8), .bool (onlyb (F 0 == 1) (F 2) 0 8), .bool (onlyb (F 0 == 2) (F 3) 1 8), .bool (inb (F 4) 0 4), .bool (inb (F 5) 0 3), .bool (tickb (F 6) 1), .bool (tickb (F 7) 1), .bool (inb (F 8) 1 1000), .bool (inb (F 9) 0 100), .bool (tickb (F 10) 0), .bool (inb (F 11) 1 8), .bool (tickb (F 12) 1), .bool (tickb (F 13) 0), .bool (onlyb (decide (0 < F 13)) (F 14) 1 4), .bool (inb (F 15) 0 2)] T (0, 0))).cell? ⟨wz.heap.size, j, none⟩ = some (.bool (rq F j)) := fun T => bool16 (rq F) T rfl
        have Hb := hid hH17.out.1
        clear hH17
        go_wp2_with fail
        go_loop [4] (fun i => ∃ k : Nat, k ≤ 16 ∧ i = .int .i64 k ∧ Hid (bad (rq F) 16 0 = bad (rq F) (16 - k) k)) (fun i => 16 - (intOf i).toNat)
        case atStart => exact ⟨0, by omega, rfl, hid rfl⟩
        case round =>
          obtain ⟨k, hk, rfl, hbd⟩ := hrel
          by_cases hlt : k < 16
          · have hcell := fun T => hq T k hlt
            have i1 : 0 ≤ (k : Int) := by omega
            have i2 : (k : Int).toNat = k := by omega
            have kI : (k : Int) < 16 := by omega
            have hn := hid (fun h => bad_next (p := rq F) hlt h)
            have hh := hid (fun h => bad_here (p := rq F) hlt h)
            clear hq
            generalize rq F k = b at *
            cases b
            · have hres : Hid ((k : Int) + 1 = ((bad (rq F) 16 0 : Nat) : Int)) := by
                show _ = _
                rw [hbd.out, hh.out rfl]
                omega
              go_wp2_with fail
              go_ret
              exact ⟨ret_int hres.out, Hb.out⟩
            · have hres := hid (hbd.out.trans (hn.out rfl))
              go_wp2_with fail
              go_round
              case rel => exact ⟨k + 1, by omega, by go_num, hres⟩
              case measure => simp [intOf]; omega
          · have hk16 : k = 16 := by omega
            subst hk16
            have hres : Hid ((0 : Int) = ((bad (rq F) 16 0 : Nat) : Int)) := by
              show _ = _
              rw [hbd.out]
              rfl
            clear hq
            go_wp2_with fail
            go_ret
            exact ⟨ret_int hres.out, Hb.out⟩
end Go.Proofs.Ytnednhdbghkcnaa.C08
