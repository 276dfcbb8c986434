/- The reference's multiplication and 'at least a percent': what sat's are. -/
import Derived.Test.YtmemafhdondfhaaR01
namespace Go.Proofs.Ytmemafhdondfhaa.C01
open Go.RowKit Go.Proofs.Ytmemafhdondfhaa
set_option linter.unusedVariables false
set_option linter.unusedSimpArgs false
set_option linter.unnecessarySimpa false
set_option maxHeartbeats 1000000 in
theorem rwide_calls (a b : Int) (ha0 : 0 ≤ a) (ha : a < 18446744073709551616) (hb0 : 0 ≤ b) (hb : b < 18446744073709551616) (w : World) :
    Calls Try.prog 33 #[.int .u64 a, .int .u64 b] w fun e w' => e = .returned (.tuple #[.int .u64 (a * b / 18446744073709551616), .int .u64 (a * b % 18446744073709551616)]) ∧ w = w' := by
  obtain ⟨ll, lh, hl, hh, g1, g2, g3, g4, a1, a2, b1, b2, c1, c2, d1, d2, hP, hU⟩ := Sat.wide_parts ha0 ha hb0 hb
  generalize a * b = P at hP hU ⊢
  have e1 : IntKind.u64.wrap (a % 4294967296 * (b % 4294967296)) = ll := by rw [g1, Sat.u64_in a1 (by omega)]
  have e2 : IntKind.u64.wrap (a % 4294967296 * (b / 4294967296)) = lh := by rw [g2, Sat.u64_in b1 (by omega)]
  have e3 : IntKind.u64.wrap (a / 4294967296 * (b % 4294967296)) = hl := by rw [g3, Sat.u64_in c1 (by omega)]
  have e4 : IntKind.u64.wrap (a / 4294967296 * (b / 4294967296)) = hh := by rw [g4, Sat.u64_in d1 (by omega)]
  have HP := hid hP
  clear g1 g2 g3 g4 hP
  go_enter Try.func33, Try.ntmps33
  go_wp2_with fail
  go_ret2
  refine ⟨ret_int2 ?_ ?_, rfl⟩
  all_goals
    have := HP.out
    try simp only [Sat.wrap_u64]
    omega
set_option maxHeartbeats 1000000 in
theorem ratLeast_core (a b p q xh xl yh yl : Int) (r : Bool) (hp0 : -9223372036854775808 ≤ p) (hp : p ≤ 9223372036854775807) (hq : p ≤ 0 ∧ q = 0 ∨ 0 < p ∧ q = p) (w : World)
    (Hc1 : Hid (Calls Try.prog 33 #[.int .u64 100, .int .u64 a] w fun e w' => e = .returned (.tuple #[.int .u64 xh, .int .u64 xl]) ∧ w = w'))
    (Hc2 : Hid (Calls Try.prog 33 #[.int .u64 q, .int .u64 b] w fun e w' => e = .returned (.tuple #[.int .u64 yh, .int .u64 yl]) ∧ w = w'))
    (fin : Hid ((decide (yh < xh) || (xh == yh && decide (yl ≤ xl))) = r)) :
    Calls Try.prog 31 #[.int .u64 a, .int .u64 b, .int .i64 p] w fun e w' => e = .returned (.bool r) ∧ w = w' := by
  rcases hq with ⟨h1, h2⟩ | ⟨h1, h2⟩
  all_goals
    subst h2
    go_enter Try.func31, Try.ntmps31
    go_wp2_with fail
    refine Hc1.out.mono ?_
    rintro e w' ⟨rfl, rfl⟩
    go_wp2_with fail
    refine Hc2.out.mono ?_
    rintro e w' ⟨rfl, rfl⟩
    by_cases c1 : yh < xh
    · go_wp2
      go_ret
      exact ⟨ret_bool (by rw [← fin.out, decide_eq_true c1]; rfl), rfl⟩
    · by_cases c2 : (xh == yh) = true
      · go_wp2
        go_ret
        exact ⟨ret_bool (by rw [← fin.out, c2]; simp), rfl⟩
      · replace c2 : (xh == yh) = false := by simpa using c2
        go_wp2
        go_ret
        exact ⟨ret_bool (by rw [← fin.out, c2]; simp), rfl⟩
theorem ratLeast_calls (a b p : Int) (ha0 : 0 ≤ a) (ha : a < 18446744073709551616) (hb0 : 0 ≤ b) (hb : b < 18446744073709551616) (hp0 : -9223372036854775808 ≤ p) (hp : p ≤ 9223372036854775807) (w : World) :
    Calls Try.prog 31 #[.int .u64 a, .int .u64 b, .int .i64 p] w fun e w' => e = .returned (.bool (Sat.atl a b p)) ∧ w = w' := by
  have p0 : 0 ≤ Sat.pos p ∧ Sat.pos p < 18446744073709551616 := by unfold Sat.pos; split <;> omega
  refine ratLeast_core a b p (Sat.pos p) _ _ _ _ _ hp0 hp (by unfold Sat.pos; split <;> omega) w (hid (rwide_calls 100 a (by omega) (by omega) ha0 ha w)) (hid (rwide_calls (Sat.pos p) b p0.1 p0.2 hb0 hb w)) ?_
  have nx : 0 ≤ 100 * a := by omega
  have ny : 0 ≤ Sat.pos p * b := Int.mul_nonneg p0.1 hb0
  show _ = _
  rw [atl_num (100 * a) (Sat.pos p * b) nx ny]
  rfl
end Go.Proofs.Ytmemafhdondfhaa.C01
