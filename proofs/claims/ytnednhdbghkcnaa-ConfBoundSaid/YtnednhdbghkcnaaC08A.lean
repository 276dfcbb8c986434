/- Put, and Check of the package conf: the first field that may not be. -/
import Derived.Test.YtnednhdbghkcnaaC08
namespace Go.Proofs.Ytnednhdbghkcnaa.C08
open Go.RowKit Go.Proofs.Ytnednhdbghkcnaa
set_option linter.unusedVariables false
set_option linter.unusedSimpArgs false
set_option linter.unnecessarySimpa false
attribute [local go_sem] C01.max2_mx C01.min2_mn C01.max_two C01.min_two
/-- The fields as numbers; from where to where each may be. -/
def put (F : Nat → Int) : Nat → Int
  | 6 => wrap64 (F 6) | 7 => wrap64 (F 7) | 10 => wrap64 (F 10) | 12 => wrap64 (F 12) | 13 => wrap64 (F 13) | n => F n
def lo (F : Nat → Int) : Nat → Int
  | 0 => 1 | 1 => sel (F 0 == 1) 1 | 2 => sel (F 0 == 1) 0 | 3 => sel (F 0 == 2) 1 | 4 => 0 | 5 => 0 | 6 => 1 | 7 => 1 | 8 => 1 | 9 => 0 | 10 => 0 | 11 => 1 | 12 => 1 | 13 => 0 | 14 => sel (decide (0 < F 13)) 1 | _ => 0
def hi (F : Nat → Int) : Nat → Int
  | 0 => 2 | 1 => sel (F 0 == 1) 8 | 2 => sel (F 0 == 1) 8 | 3 => sel (F 0 == 2) 8 | 4 => 4 | 5 => 3 | 6 => 1099511627776 | 7 => 1099511627776 | 8 => 1000 | 9 => 100 | 10 => 1099511627776 | 11 => 8 | 12 => 1099511627776 | 13 => 1099511627776 | 14 => sel (decide (0 < F 13)) 4 | _ => 2
def fine (F : Nat → Int) (j : Nat) : Bool := decide (lo F j ≤ put F j ∧ put F j ≤ hi F j)
/-- The first of m from k on that is not so, plus one; 0: none. -/
def bad (p : Nat → Bool) : Nat → Nat → Nat
  | 0, _ => 0
  | m + 1, k => if p k then bad p m (k + 1) else k + 1
def chk (F : Nat → Int) : Nat := bad (fine F) 16 0
def errno (n : Nat) : Int := if n = 0 then 0 else 1
theorem may_calls (F : Nat → Int) (w : World) :
    Calls Try.prog 19 #[.agg #[.int .i64 (F 0), .int .i64 (F 1), .int .i64 (F 2), .int .i64 (F 3), .int .i64 (F 4), .int .i64 (F 5), .int .u64 (F 6), .int .u64 (F 7), .int .i64 (F 8), .int .i64 (F 9), .int .u64 (F 10), .int .i64 (F 11), .int .u64 (F 12), .int .u64 (F 13), .int .i64 (F 14), .int .i64 (F 15)]] w fun e w' => e = .returned (.agg #[.int .i64 (lo F 0), .int .i64 (hi F 0), .int .i64 (lo F 1), .int .i64 (hi F 1), .int .i64 (lo F 2), .int .i64 (hi F 2), .int .i64 (lo F 3), .int .i64 (hi F 3), .int .i64 (lo F 4), .int .i64 (hi F 4), .int .i64 (lo F 5), .int .i64 (hi F 5), .int .i64 (lo F 6), .int .i64 (hi F 6), .int .i64 (lo F 7), .int .i64 (hi F 7), .int .i64 (lo F 8), .int .i64 (hi F 8), .int .i64 (lo F 9), .int .i64 (hi F 9), .int .i64 (lo F 10), .int .i64 (hi F 10), .int .i64 (lo F 11), .int .i64 (hi F 11), .int .i64 (lo F 12), .int .i64 (hi F 12), .int .i64 (lo F 13), .int .i64 (hi F 13), .int .i64 (lo F 14), .int .i64 (hi F 14), .int .i64 (lo F 15), .int .i64 (hi F 15)]) ∧ Below w.heap.size w w' := may_core F w
set_option maxRecDepth 20000 in
set_option maxHeartbeats 1000000 in
theorem put_calls (F : Nat → Int) (w : World) :
    Calls Try.prog 12 #[.agg #[.int .i64 (F 0), .int .i64 (F 1), .int .i64 (F 2), .int .i64 (F 3), .int .i64 (F 4), .int .i64 (F 5), .int .u64 (F 6), .int .u64 (F 7), .int .i64 (F 8), .int .i64 (F 9), .int .u64 (F 10), .int .i64 (F 11), .int .u64 (F 12), .int .u64 (F 13), .int .i64 (F 14), .int .i64 (F 15)]] w fun e w' => e = .returned (.agg #[.int .i64 (F 0), .int .i64 (F 1), .int .i64 (F 2), .int .i64 (F 3), .int .i64 (F 4), .int .i64 (F 5), .int .i64 (wrap64 (F 6)), .int .i64 (wrap64 (F 7)), .int .i64 (F 8), .int .i64 (F 9), .int .i64 (wrap64 (F 10)), .int .i64 (F 11), .int .i64 (wrap64 (F 12)), .int .i64 (wrap64 (F 13)), .int .i64 (F 14), .int .i64 (F 15)]) ∧ Below w.heap.size w w' := by
  go_enter Try.func12, Try.ntmps12
  go_wp2_with fail
  refine bodyPost_ret (v := .agg #[.int .i64 (F 0), .int .i64 (F 1), .int .i64 (F 2), .int .i64 (F 3), .int .i64 (F 4), .int .i64 (F 5), .int .i64 (wrap64 (F 6)), .int .i64 (wrap64 (F 7)), .int .i64 (F 8), .int .i64 (F 9), .int .i64 (wrap64 (F 10)), .int .i64 (F 11), .int .i64 (wrap64 (F 12)), .int .i64 (wrap64 (F 13)), .int .i64 (F 14), .int .i64 (F 15)]) (by simp [results, Try.results12, go_sem]) rfl ⟨rfl, ?_⟩
  repeat (first | exact Below.refl _ _ | refine Below.setCell ?_ (by first | exact Nat.le_refl _ | simp) _ | refine Below.alloc ?_ (by simp) _)
theorem idx16 (f g : Nat → Int) (k : Nat) (hk : k < 16) (w : World) : (Instr.index 44 (.agg #[.int .i64 (f 0), .int .i64 (g 0), .int .i64 (f 1), .int .i64 (g 1), .int .i64 (f 2), .int .i64 (g 2), .int .i64 (f 3), .int .i64 (g 3), .int .i64 (f 4), .int .i64 (g 4), .int .i64 (f 5), .int .i64 (g 5), .int .i64 (f 6), .int .i64 (g 6), .int .i64 (f 7), .int .i64 (g 7), .int .i64 (f 8), .int .i64 (g 8), .int .i64 (f 9), .int .i64 (g 9), .int .i64 (f 10), .int .i64 (g 10), .int .i64 (f 11), .int .i64 (g 11), .int .i64 (f 12), .int .i64 (g 12), .int .i64 (f 13), .int .i64 (g 13), .int .i64 (f 14), .int .i64 (g 14), .int .i64 (f 15), .int .i64 (g 15)]) (.int .i64 k)).run Try.prog w = .ok (.agg #[.int .i64 (f k), .int .i64 (g k)]) w := by
  have h : k = 0 ∨ k = 1 ∨ k = 2 ∨ k = 3 ∨ k = 4 ∨ k = 5 ∨ k = 6 ∨ k = 7 ∨ k = 8 ∨ k = 9 ∨ k = 10 ∨ k = 11 ∨ k = 12 ∨ k = 13 ∨ k = 14 ∨ k = 15 := by omega
  rcases h with rfl | rfl | rfl | rfl | rfl | rfl | rfl | rfl | rfl | rfl | rfl | rfl | rfl | rfl | rfl | rfl
  all_goals rfl
end Go.Proofs.Ytnednhdbghkcnaa.C08
