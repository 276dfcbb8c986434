/- What the reference of chapter 1 returns, whatever 64-bit numbers it is handed: the same plain numbers. -/
import Derived.Test.YtmemafhdondfhaaC01
namespace Go.Proofs.Ytmemafhdondfhaa.C01
open Go.RowKit Go.Proofs.Ytmemafhdondfhaa
set_option linter.unusedVariables false
set_option maxHeartbeats 400000 in
theorem radd_calls (a b : Int) (ha0 : 0 ≤ a) (ha : a < 18446744073709551616) (hb0 : 0 ≤ b) (hb : b < 18446744073709551616) (w : World) :
    Calls Try.prog 30 #[.int .u64 a, .int .u64 b] w fun e w' => e = .returned (.int .u64 (Sat.add a b)) ∧ w = w' := by
  have hb2 : b ≤ 18446744073709551615 := by omega
  by_cases h : 18446744073709551615 - b < a
  · have fin : Hid (18446744073709551615 = Sat.add a b) := by show _ = _; unfold Sat.add; split <;> omega
    clear ha hb
    go_enter Try.func30, Try.ntmps30
    go_wp2
    go_ret
    exact ⟨ret_int fin.out, rfl⟩
  · have fin : Hid (a + b = Sat.add a b) := by show _ = _; unfold Sat.add; split <;> omega
    have h2 : a + b ≤ 18446744073709551615 := by omega
    clear ha hb
    go_enter Try.func30, Try.ntmps30
    go_wp2
    go_ret
    exact ⟨ret_int fin.out, rfl⟩
set_option maxHeartbeats 1000000 in
theorem rsum_calls (l : List Int) (A : Option Addr) (c : Nat) (w : World) (hl : l.length ≤ 1152921504606846976) (hx : ∀ x ∈ l, 0 ≤ x ∧ x < 18446744073709551616) (hr : RowAt w A l) :
    Calls Try.prog 29 #[.slice A l.length c] w fun e w' => e = .returned (.int .u64 (Sat.sum l)) ∧ w = w' := by
  rcases hr with rfl | ⟨b, o, rfl, hr⟩
  · go_enter Try.func29, Try.ntmps29
    go_wp2_with fail
    refine wp_loop_rounds 1 ?_
    rw [rounds_succ]
    go_wp2_with fail
    go_ret
    exact ⟨rfl, rfl⟩
  · have Hx := hid hx
    have Hr := hid hr
    clear hx hr
    go_enter Try.func29, Try.ntmps29
    go_wp2_with fail
    go_loop [3, 4] (fun s i => ∃ k : Nat, k ≤ l.length ∧ i = .int .i64 k ∧ s = .int .u64 ((l.take k).foldl Sat.add 0)) (fun _ i => l.length - (intOf i).toNat)
    case atStart => exact ⟨0, Nat.zero_le _, rfl, rfl⟩
    case round =>
      obtain ⟨k, hk, rfl, rfl⟩ := hrel
      by_cases hlt : k < l.length
      · have hcell := Hr.out k hlt
        have Hs := hid (foldl_take l k hlt)
        have Hadd := hid (fun w => radd_calls ((l.take k).foldl Sat.add 0) (l.getD k 0) (foldl_bd l k Hx.out).1 (foldl_bd l k Hx.out).2 (getD_bd l k hlt Hx.out).1 (getD_bd l k hlt Hx.out).2 w)
        generalize l.getD k 0 = x at *
        generalize (l.take k).foldl Sat.add 0 = s at *
        go_wp2_with (go_at_call 30; refine (Hadd.out _).mono ?_; rintro e w' ⟨rfl, rfl⟩)
        go_round
        case rel => exact ⟨k + 1, by omega, by go_num, by rw [Hs.out]⟩
        case measure => simp [intOf]; omega
      · have hs : Hid ((l.take k).foldl Sat.add 0 = Sat.sum l) := by show _ = _; rw [List.take_of_length_le (by omega)]; rfl
        generalize (l.take k).foldl Sat.add 0 = s at *
        go_wp2_with fail
        go_ret
        exact ⟨ret_int hs.out, rfl⟩
end Go.Proofs.Ytmemafhdondfhaa.C01
