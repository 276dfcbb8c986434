/- The examples' function of chapter 1 answers true, and the walks of the laws SatTells, SatBack, SatLess. -/
import Derived.Test.YtdchaldcnnahmaaC01
namespace Go.Proofs.Ytdchaldcnnahmaa.C01
open Go.RowKit Go.Proofs.Ytdchaldcnnahmaa
set_option linter.unusedVariables false
attribute [local go_sem] max2_int min2_int max_two min_two
set_option maxHeartbeats 1000000 in
theorem awake_calls (w : World) : Calls Try.prog 9 #[] w fun e w' => e = .returned (.bool true) ∧ Below w.heap.size w w' := by
  have hA := hid (add_calls 18446744073709551615 1 (by omega) (by omega) (by omega) (by omega) w)
  have hS := hid (sub_calls 3 5 (by omega) (by omega) (by omega) (by omega) w)
  have hM := hid (mul_calls 1099511627776 1099511627776 (by omega) (by omega) (by omega) (by omega) w)
  have hL := hid (atLeast_calls 1 2 50 (by omega) (by omega) (by omega) (by omega) (by omega) (by omega) w)
  have hL2 := hid (atLeast_calls 1 2 51 (by omega) (by omega) (by omega) (by omega) (by omega) (by omega) w)
  rw [show Sat.add 18446744073709551615 1 = 18446744073709551615 from by decide] at hA
  rw [show Sat.sub 3 5 = 0 from by decide] at hS
  rw [show Sat.mul 1099511627776 1099511627776 = 18446744073709551615 from by decide] at hM
  rw [show Sat.atl 1 2 50 = true from by decide] at hL
  rw [show Sat.atl 1 2 51 = false from by decide] at hL2
  go_enter Try.func9, Try.ntmps9
  go_wp2_with fail
  refine hA.out.mono ?_
  rintro e w' ⟨rfl, rfl⟩
  go_wp2_with fail
  refine hS.out.mono ?_
  rintro e w' ⟨rfl, rfl⟩
  go_wp2_with fail
  refine hM.out.mono ?_
  rintro e w' ⟨rfl, rfl⟩
  go_wp2_with fail
  refine hL.out.mono ?_
  rintro e w' ⟨rfl, rfl⟩
  go_wp2_with fail
  refine hL2.out.mono ?_
  rintro e w' ⟨rfl, rfl⟩
  go_wp2_with fail
  refine (sum_calls [1, 2, 3] (some ⟨w.heap.size, 0, none⟩) 3 _ (by decide) (by decide) ?_).mono ?_
  · refine .inr ⟨_, _, rfl, ?_⟩
    intro i hi
    match i, hi with
    | 0, _ => simp [go_sem]
    | 1, _ => simp [go_sem]
    | 2, _ => simp [go_sem]
  rintro e w' ⟨rfl, rfl⟩
  rw [show Sat.sum [1, 2, 3] = 6 from by decide]
  go_wp2_with fail
  go_ret
  exact ⟨rfl, (Below.refl _ _).alloc (Nat.le_refl _) _⟩

set_option maxHeartbeats 1000000 in
theorem back_core (a b s d : Int) (ha0 : 0 ≤ a) (ha : a ≤ 18446744073709551615) (hb0 : 0 ≤ b) (hb : b ≤ 18446744073709551615) (hs0 : 0 ≤ s) (hs : s ≤ 18446744073709551615) (hsa : a ≤ s) (hsb : b ≤ s) (hd0 : 0 ≤ d) (hda : d ≤ a)
    (w : World) (hA : Hid (∀ w, Calls Try.prog 10 #[.int .u64 a, .int .u64 b] w fun e w' => e = .returned (.int .u64 s) ∧ w = w'))
    (hover : 18446744073709551615 - b < a ∧ (s == 18446744073709551615) = true ∨ a ≤ 18446744073709551615 - b ∧
      Hid (∀ w, Calls Try.prog 12 #[.int .u64 s, .int .u64 b] w fun e w' => e = .returned (.int .u64 a) ∧ w = w') ∧ Hid (∀ w, Calls Try.prog 12 #[.int .u64 s, .int .u64 a] w fun e w' => e = .returned (.int .u64 b) ∧ w = w'))
    (hS : Hid (∀ w, Calls Try.prog 12 #[.int .u64 a, .int .u64 b] w fun e w' => e = .returned (.int .u64 d) ∧ w = w'))
    (hz : a ≤ b ∧ (d == 0) = true ∨ b < a ∧ (d == 0) = false) :
    Calls Try.prog 6 #[.int .u64 a, .int .u64 b] w fun e w' => e = .returned (.bool true) ∧ Below w.heap.size w w' := by
  rcases hover with ⟨o1, o2⟩ | ⟨o1, o2, o3⟩
  · rcases hz with ⟨z1, z2⟩ | ⟨z1, z2⟩
    all_goals
      go_enter Try.func6, Try.ntmps6
      go_wp2_with fail
      refine (awake_calls _).mono ?_
      rintro e w1 ⟨rfl, hb1⟩
      go_wp2_with fail
      refine (hA.out _).mono ?_
      rintro e w' ⟨rfl, rfl⟩
      go_wp2_with fail
      refine (hS.out _).mono ?_
      rintro e w' ⟨rfl, rfl⟩
      go_wp2_with fail
      refine (hS.out _).mono ?_
      rintro e w' ⟨rfl, rfl⟩
      go_wp2_with fail
      go_ret
      exact ⟨ret_bool (by first | rfl | (simp; omega)), hb1⟩
  · rcases hz with ⟨z1, z2⟩ | ⟨z1, z2⟩
    all_goals
      go_enter Try.func6, Try.ntmps6
      go_wp2_with fail
      refine (awake_calls _).mono ?_
      rintro e w1 ⟨rfl, hb1⟩
      go_wp2_with fail
      refine (hA.out _).mono ?_
      rintro e w' ⟨rfl, rfl⟩
      go_wp2_with fail
      refine (o2.out _).mono ?_
      rintro e w' ⟨rfl, rfl⟩
      go_wp2_with fail
      refine (o3.out _).mono ?_
      rintro e w' ⟨rfl, rfl⟩
      go_wp2_with fail
      refine (hS.out _).mono ?_
      rintro e w' ⟨rfl, rfl⟩
      go_wp2_with fail
      refine (hS.out _).mono ?_
      rintro e w' ⟨rfl, rfl⟩
      go_wp2_with fail
      go_ret
      exact ⟨ret_bool (by first | rfl | (simp; omega)), hb1⟩
theorem satBack_walk {H : Type} {enc : TypeId × Value → H} (w : World) (a : Int) (wa : (Lit.int .u64 a).wf = true) (b : Int) (wb : (Lit.int .u64 b).wf = true) :
    Calls Try.prog 6 #[.int .u64 a, .int .u64 b] w fun e w' => e = .returned (.bool true) ∧ Below w.heap.size w w' := by
  obtain ⟨ha0, ha⟩ := Sat.wf_u64 wa
  obtain ⟨hb0, hb⟩ := Sat.wf_u64 wb
  have hs := Sat.add_in ha0 hb0
  refine back_core a b (Sat.add a b) (Sat.sub a b) ha0 (by omega) hb0 (by omega) hs.1 (by omega) (by unfold Sat.add; split <;> omega) (by unfold Sat.add; split <;> omega) (by unfold Sat.sub; split <;> omega) (by unfold Sat.sub; split <;> omega)
    w (hid fun w => add_calls a b ha0 ha hb0 hb w) ?_ (hid fun w => sub_calls a b ha0 ha hb0 hb w) ?_
  · by_cases h : a + b < 18446744073709551616
    · refine .inr ⟨by omega, hid fun w => ?_, hid fun w => ?_⟩
      · have := sub_calls (Sat.add a b) b hs.1 hs.2 hb0 hb w
        rw [show Sat.sub (Sat.add a b) b = a from by unfold Sat.sub Sat.add; (repeat' split) <;> omega] at this
        exact this
      · have := sub_calls (Sat.add a b) a hs.1 hs.2 ha0 ha w
        rw [show Sat.sub (Sat.add a b) a = b from by unfold Sat.sub Sat.add; (repeat' split) <;> omega] at this
        exact this
    · exact .inl ⟨by omega, by rw [beq_iff_eq]; unfold Sat.add; split <;> omega⟩
  · by_cases h : a ≤ b
    · exact .inl ⟨h, by rw [beq_iff_eq]; unfold Sat.sub; split <;> omega⟩
    · exact .inr ⟨by omega, by rw [beq_eq_false_iff_ne]; unfold Sat.sub; split <;> omega⟩

end Go.Proofs.Ytdchaldcnnahmaa.C01
