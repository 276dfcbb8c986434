/- What the reference of chapter 1 returns, whatever 64-bit numbers it is handed: the same plain numbers. -/
import Derived.Test.YtdchaldcnnahmaaC01
namespace Go.Proofs.Ytdchaldcnnahmaa.C01
open Go.RowKit Go.Proofs.Ytdchaldcnnahmaa
set_option linter.unusedVariables false
set_option maxHeartbeats 400000 in
theorem radd_calls (a b : Int) (ha0 : 0 ≤ a) (ha : a < 18446744073709551616) (hb0 : 0 ≤ b) (hb : b < 18446744073709551616) (w : World) :
    Calls Try.prog 11 #[.int .u64 a, .int .u64 b] w fun e w' => e = .returned (.int .u64 (Sat.add a b)) ∧ w = w' := by
  have hb2 : b ≤ 18446744073709551615 := by omega
  by_cases h : 18446744073709551615 - b < a
  · have fin : Hid (18446744073709551615 = Sat.add a b) := by show _ = _; unfold Sat.add; split <;> omega
    clear ha hb
    go_enter Try.func11, Try.ntmps11
    go_wp2
    go_ret
    exact ⟨ret_int fin.out, rfl⟩
  · have fin : Hid (a + b = Sat.add a b) := by show _ = _; unfold Sat.add; split <;> omega
    have h2 : a + b ≤ 18446744073709551615 := by omega
    clear ha hb
    go_enter Try.func11, Try.ntmps11
    go_wp2
    go_ret
    exact ⟨ret_int fin.out, rfl⟩
set_option maxHeartbeats 400000 in
theorem rsub_calls (a b : Int) (ha0 : 0 ≤ a) (ha : a < 18446744073709551616) (hb0 : 0 ≤ b) (hb : b < 18446744073709551616) (w : World) :
    Calls Try.prog 13 #[.int .u64 a, .int .u64 b] w fun e w' => e = .returned (.int .u64 (Sat.sub a b)) ∧ w = w' := by
  by_cases h : a < b
  · have fin : Hid (0 = Sat.sub a b) := by show _ = _; unfold Sat.sub; split <;> omega
    clear ha hb
    go_enter Try.func13, Try.ntmps13
    go_wp2
    go_ret
    exact ⟨ret_int fin.out, rfl⟩
  · have fin : Hid (IntKind.u64.wrap (a - b) = Sat.sub a b) := by show _ = _; rw [Sat.wrap_u64]; unfold Sat.sub; split <;> omega
    clear ha hb ha0 hb0
    go_enter Try.func13, Try.ntmps13
    go_wp2
    go_ret
    exact ⟨ret_int fin.out, rfl⟩
set_option maxHeartbeats 400000 in
theorem rmul_calls (a b : Int) (ha0 : 0 ≤ a) (ha : a < 18446744073709551616) (hb0 : 0 ≤ b) (hb : b < 18446744073709551616) (w : World) :
    Calls Try.prog 15 #[.int .u64 a, .int .u64 b] w fun e w' => e = .returned (.int .u64 (Sat.mul a b)) ∧ w = w' := by
  have h0 : 0 ≤ a * b := Int.mul_nonneg ha0 hb0
  by_cases hz : b = 0
  · subst hz
    have fin : Hid (0 = Sat.mul a 0) := by show _ = _; unfold Sat.mul; rw [Int.mul_zero]; rfl
    clear ha hb h0
    go_enter Try.func15, Try.ntmps15
    go_wp2
    go_ret
    exact ⟨ret_int fin.out, rfl⟩
  · have hd : 0 ≤ (18446744073709551615 : Int) / b ∧ (18446744073709551615 : Int) / b ≤ 18446744073709551615 := ⟨Int.ediv_nonneg (by omega) hb0, Int.ediv_le_self _ (by omega)⟩
    have key : (18446744073709551615 : Int) / b < a ↔ ¬ a * b < 18446744073709551616 := by
      rw [Int.ediv_lt_iff_lt_mul (by omega)]; omega
    have hb1 : 1 ≤ b := by omega
    have hz2 : (b != 0) = true := by rw [bne_iff_ne]; exact hz
    have hd1 := hd.1
    have hd2 := hd.2
    clear hd
    by_cases h : a * b < 18446744073709551616
    · have fin : Hid (IntKind.u64.wrap (a * b) = Sat.mul a b) := by show _ = _; unfold Sat.mul; rw [if_pos h, Sat.u64_in h0 h]
      have t : ¬ (18446744073709551615 : Int) / b < a := fun hh => key.1 hh h
      have t2 : decide ((18446744073709551615 : Int) / b < a) = false := decide_eq_false t
      clear ha hb h0 hz key h t
      go_enter Try.func15, Try.ntmps15
      go_wp2
      go_ret
      exact ⟨ret_int fin.out, rfl⟩
    · have fin : Hid (18446744073709551615 = Sat.mul a b) := by show _ = _; unfold Sat.mul; rw [if_neg h]
      have t : (18446744073709551615 : Int) / b < a := key.2 h
      have t2 : decide ((18446744073709551615 : Int) / b < a) = true := decide_eq_true t
      clear ha hb h0 hz key h t
      go_enter Try.func15, Try.ntmps15
      go_wp2
      go_ret
      exact ⟨ret_int fin.out, rfl⟩
set_option maxHeartbeats 1000000 in
theorem rsum_calls (l : List Int) (A : Option Addr) (c : Nat) (w : World) (hl : l.length ≤ 1152921504606846976) (hx : ∀ x ∈ l, 0 ≤ x ∧ x < 18446744073709551616) (hr : RowAt w A l) :
    Calls Try.prog 17 #[.slice A l.length c] w fun e w' => e = .returned (.int .u64 (Sat.sum l)) ∧ w = w' := by
  rcases hr with rfl | ⟨b, o, rfl, hr⟩
  · go_enter Try.func17, Try.ntmps17
    go_wp2_with fail
    refine wp_loop_rounds 1 ?_
    rw [rounds_succ]
    go_wp2_with fail
    go_ret
    exact ⟨rfl, rfl⟩
  · have Hx := hid hx
    have Hr := hid hr
    clear hx hr
    go_enter Try.func17, Try.ntmps17
    go_wp2_with fail
    go_loop [3, 4] (fun s i => ∃ k : Nat, k ≤ l.length ∧ i = .int .i64 k ∧ s = .int .u64 ((l.take k).foldl Sat.add 0)) (fun _ i => l.length - (intOf i).toNat)
    case atStart => exact ⟨0, Nat.zero_le _, rfl, rfl⟩
    case round =>
      obtain ⟨k, hk, rfl, rfl⟩ := hrel
      by_cases hlt : k < l.length
      · have hcell := Hr.out k hlt
        have Hs := hid (foldl_take l k hlt)
        have Hadd := hid (fun w => radd_calls ((l.take k).foldl Sat.add 0) (l.getD k 0) (foldl_bd l k Hx.out).1 (foldl_bd l k Hx.out).2 (getD_bd l k hlt Hx.out).1 (getD_bd l k hlt Hx.out).2 w)
        generalize l.getD k 0 = x at *
        generalize (l.take k).foldl Sat.add 0 = s at *
        go_wp2_with (go_at_call 11; refine (Hadd.out _).mono ?_; rintro e w' ⟨rfl, rfl⟩)
        go_round
        case rel => exact ⟨k + 1, by omega, by go_num, by rw [Hs.out]⟩
        case measure => simp [intOf]; omega
      · have hs : Hid ((l.take k).foldl Sat.add 0 = Sat.sum l) := by show _ = _; rw [List.take_of_length_le (by omega)]; rfl
        generalize (l.take k).foldl Sat.add 0 = s at *
        go_wp2_with fail
        go_ret
        exact ⟨ret_int hs.out, rfl⟩
end Go.Proofs.Ytdchaldcnnahmaa.C01
