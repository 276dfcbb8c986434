/- The reference's Check tells the same field; the walk of the law ConfTakes. -/
import Derived.Test.YtnednhdbghkcnaaC08H
import Derived.Test.YtnednhdbghkcnaaC08E
namespace Go.Proofs.Ytnednhdbghkcnaa.C08
open Go.RowKit Go.Proofs.Ytnednhdbghkcnaa
set_option linter.unusedVariables false
set_option linter.unusedSimpArgs false
set_option linter.unnecessarySimpa false
attribute [local go_sem] C01.max2_mx C01.min2_mn C01.max_two C01.min_two
theorem bad_congr {p q : Nat → Bool} : ∀ (m k : Nat), (∀ j, k ≤ j → j < k + m → p j = q j) → bad p m k = bad q m k := by
  intro m
  induction m with
  | zero => intro k _; rfl
  | succ m ih =>
    intro k h
    unfold bad
    rw [h k (by omega) (by omega), ih (k + 1) (fun j h1 h2 => h j (by omega) (by omega))]
theorem only_eq (b : Bool) (n l u : Int) : onlyb b n l u = decide (sel b l ≤ n ∧ n ≤ sel b u) := by
  cases b
  · show (n == 0) = decide ((0 : Int) ≤ n ∧ n ≤ 0)
    rw [Bool.eq_iff_iff, beq_iff_eq, decide_eq_true_eq]
    omega
  · rfl
theorem tick_eq {n l : Int} (h : U n) (hl : 0 ≤ l) : tickb n l = decide (l ≤ wrap64 n ∧ wrap64 n ≤ 1099511627776) := by
  unfold tickb
  rw [decide_eq_decide]
  unfold wrap64
  omega
theorem rq_fine {F : Nat → Int} (hF : Ok F) (j : Nat) (hj : j < 16) : rq F j = fine F j := by
  obtain ⟨k0, k1, k2, k3, k4, k5, k6, k7, k8, k9, k10, k11, k12, k13, k14, k15⟩ := hF
  match j, hj with
  | 0, _ => rfl
  | 1, _ => exact only_eq _ _ _ _
  | 2, _ => exact only_eq _ _ _ _
  | 3, _ => exact only_eq _ _ _ _
  | 4, _ => rfl
  | 5, _ => rfl
  | 6, _ => exact tick_eq k6 (by omega)
  | 7, _ => exact tick_eq k7 (by omega)
  | 8, _ => rfl
  | 9, _ => rfl
  | 10, _ => exact tick_eq k10 (by omega)
  | 11, _ => rfl
  | 12, _ => exact tick_eq k12 (by omega)
  | 13, _ => exact tick_eq k13 (by omega)
  | 14, _ => exact only_eq _ _ _ _
  | 15, _ => rfl
  | n + 16, h => exact absurd h (by omega)
theorem rcheck_calls {F : Nat → Int} (hF : Ok F) (w : World) :
    Calls Try.prog 11 #[.agg #[.int .i64 (F 0), .int .i64 (F 1), .int .i64 (F 2), .int .i64 (F 3), .int .i64 (F 4), .int .i64 (F 5), .int .u64 (F 6), .int .u64 (F 7), .int .i64 (F 8), .int .i64 (F 9), .int .u64 (F 10), .int .i64 (F 11), .int .u64 (F 12), .int .u64 (F 13), .int .i64 (F 14), .int .i64 (F 15)]] w fun e w' => e = .returned (.int .i64 (chk F : Nat)) ∧ Below w.heap.size w w' := by
  have := rcheck_core F w
  rw [bad_congr 16 0 (q := fine F) (fun j _ h => rq_fine hF j (by omega))] at this
  exact this
set_option maxRecDepth 20000 in
set_option maxHeartbeats 1000000 in
theorem of_calls (G : Nat → Int) (w : World) :
    Calls Try.prog 17 #[.agg #[.int .i64 (G 0), .int .i64 (G 1), .int .i64 (G 2), .int .i64 (G 3), .int .i64 (G 4), .int .i64 (G 5), .int .i64 (G 6), .int .i64 (G 7), .int .i64 (G 8), .int .i64 (G 9), .int .i64 (G 10), .int .i64 (G 11), .int .i64 (G 12), .int .i64 (G 13), .int .i64 (G 14), .int .i64 (G 15)]] w fun e w' => e = .returned (.agg #[.int .i64 (G 0), .int .i64 (G 1), .int .i64 (G 2), .int .i64 (G 3), .int .i64 (G 4), .int .i64 (G 5), .int .u64 (IntKind.u64.wrap (G 6)), .int .u64 (IntKind.u64.wrap (G 7)), .int .i64 (G 8), .int .i64 (G 9), .int .u64 (IntKind.u64.wrap (G 10)), .int .i64 (G 11), .int .u64 (IntKind.u64.wrap (G 12)), .int .u64 (IntKind.u64.wrap (G 13)), .int .i64 (G 14), .int .i64 (G 15)]) ∧ Below w.heap.size w w' := by
  go_enter Try.func17, Try.ntmps17
  go_wp2_with fail
  refine bodyPost_ret (v := .agg #[.int .i64 (G 0), .int .i64 (G 1), .int .i64 (G 2), .int .i64 (G 3), .int .i64 (G 4), .int .i64 (G 5), .int .u64 (IntKind.u64.wrap (G 6)), .int .u64 (IntKind.u64.wrap (G 7)), .int .i64 (G 8), .int .i64 (G 9), .int .u64 (IntKind.u64.wrap (G 10)), .int .i64 (G 11), .int .u64 (IntKind.u64.wrap (G 12)), .int .u64 (IntKind.u64.wrap (G 13)), .int .i64 (G 14), .int .i64 (G 15)]) (by simp [results, Try.results17, go_sem]) rfl ⟨rfl, ?_⟩
  repeat (first | exact Below.refl _ _ | refine Below.setCell ?_ (by first | exact Nat.le_refl _ | simp) _ | refine Below.alloc ?_ (by simp) _)
end Go.Proofs.Ytnednhdbghkcnaa.C08
