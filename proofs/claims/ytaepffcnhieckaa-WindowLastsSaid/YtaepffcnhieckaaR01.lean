/- What the reference of chapter 1 returns, whatever 64-bit numbers it is handed: the same plain numbers. -/
import Derived.Test.YtaepffcnhieckaaC01
namespace Go.Proofs.Ytaepffcnhieckaa.C01
open Go.RowKit Go.Proofs.Ytaepffcnhieckaa
set_option linter.unusedVariables false
set_option maxHeartbeats 400000 in
theorem radd_calls (a b : Int) (ha0 : 0 ≤ a) (ha : a < 18446744073709551616) (hb0 : 0 ≤ b) (hb : b < 18446744073709551616) (w : World) :
    Calls Try.prog 13 #[.int .u64 a, .int .u64 b] w fun e w' => e = .returned (.int .u64 (Sat.add a b)) ∧ w = w' := by
  have hb2 : b ≤ 18446744073709551615 := by omega
  by_cases h : 18446744073709551615 - b < a
  · have fin : Hid (18446744073709551615 = Sat.add a b) := by show _ = _; unfold Sat.add; split <;> omega
    clear ha hb
    go_enter Try.func13, Try.ntmps13
    go_wp2
    go_ret
    exact ⟨ret_int fin.out, rfl⟩
  · have fin : Hid (a + b = Sat.add a b) := by show _ = _; unfold Sat.add; split <;> omega
    have h2 : a + b ≤ 18446744073709551615 := by omega
    clear ha hb
    go_enter Try.func13, Try.ntmps13
    go_wp2
    go_ret
    exact ⟨ret_int fin.out, rfl⟩
end Go.Proofs.Ytaepffcnhieckaa.C01
