/- The walk of the law HistBins. -/
import Derived.Test.YtmemafhdondfhaaC07D
namespace Go.Proofs.Ytmemafhdondfhaa.C06
open Go.RowKit Go.Proofs.Ytmemafhdondfhaa Go.Proofs.Ytmemafhdondfhaa.Win
set_option linter.unusedVariables false
set_option linter.unusedSimpArgs false
set_option linter.unnecessarySimpa false
attribute [local go_sem] C01.max2_mx C01.min2_mn C01.max_two C01.min_two
theorem rtop_calls (b : Int) (k : Nat) (hk : Sat.mn (Sat.mx b 0) 64 = k) (b0 : -9223372036854775808 ≤ b) (b1 : b ≤ 9223372036854775807) (w : World) :
    Calls Try.prog 13 #[.int .i64 b] w fun e w' => e = .returned (.int .u64 (Hst.top k)) ∧ w = w' := by
  have hk2 : k ≤ 64 ∧ (b < k → b < 0 ∧ k = 0) ∧ ((k : Int) < b → k = 64) := by
    unfold Sat.mn Sat.mx at hk
    refine ⟨?_, ?_, ?_⟩ <;> (split at hk <;> split at hk <;> omega)
  obtain ⟨k64, k1, k2⟩ := hk2
  clear hk
  go_enter Try.func13, Try.ntmps13
  go_wp2_with fail
  go_loop [3, 4] (fun n i => ∃ j : Nat, j ≤ k ∧ i = .int .i64 j ∧ n = .int .u64 (Hst.top j)) (fun _ i => k - (intOf i).toNat)
  case atStart => exact ⟨0, Nat.zero_le _, rfl, by rw [Hst.top_zero]⟩
  case round =>
    obtain ⟨j, hj, rfl, rfl⟩ := hrel
    by_cases hlt : j < k
    · have h1 : (j : Int) < b := by
        rcases Nat.lt_or_ge 0 k with h | h
        · have : ¬ b < k := fun h2 => by have := k1 h2; omega
          omega
        · omega
      have h2 : (j : Int) < 64 := by omega
      have t0 := Hst.top_in (show j ≤ 64 by omega)
      have t1 := Hst.top_in (show j + 1 ≤ 64 by omega)
      have ts := Hst.top_succ j
      have Hs := hid ts
      have m1 : 2 * Hst.top j ≤ 18446744073709551615 := by omega
      have m2 : 0 ≤ 2 * Hst.top j := by omega
      have m3 : 2 * Hst.top j + 1 ≤ 18446744073709551615 := by omega
      clear t1 ts
      go_wp2_with fail
      go_round
      case rel => exact ⟨j + 1, by omega, by go_num, by rw [Hs.out]⟩
      case measure => simp [intOf]; omega
    · obtain rfl : j = k := by omega
      by_cases hb : (j : Int) < b
      · have h2 : ¬ (j : Int) < 64 := by have := k2 hb; omega
        go_wp2_with fail
        go_ret
        exact ⟨rfl, rfl⟩
      · go_wp2_with fail
        go_ret
        exact ⟨rfl, rfl⟩
set_option maxHeartbeats 1000000 in
theorem bins_core (x : Nat) (b : Int) (n k k1 : Nat) (w : World) (hx : x < 18446744073709551616) (b0 : -9223372036854775808 ≤ b) (b1 : b ≤ 9223372036854775807) (hn : n ≤ 64)
    (hbin : Hid (∀ w, Calls Try.prog 11 #[.int .u64 x] w fun e w' => e = .returned (.int .i64 n) ∧ w = w'))
    (hk : Sat.mn (Sat.mx b 0) 64 = k) (k64 : k ≤ 64) (hk1 : 0 ≤ b → b ≤ 63 → k1 = k + 1 ∧ b = k) (e1 : (x : Int) ≤ Hst.top n) (e2 : n ≠ 0 → Hst.top (n - 1) < x) :
    Calls Try.prog 4 #[.int .u64 x, .int .i64 b] w fun e w' => e = .returned (.bool true) ∧ Below w.heap.size w w' := by
  have hT := hid (fun w => top_calls b k hk k64 b0 b1 w)
  have hR := hid (fun w => rtop_calls b k hk b0 b1 w)
  have hTn := hid (fun w => top_calls n n (by unfold Sat.mn Sat.mx; (repeat' split) <;> omega) hn (by omega) (by omega) w)
  have hni : (n : Int) ≤ 64 := by omega
  have hx2 : (x : Int) ≤ 18446744073709551615 := by omega
  have hself : (Hst.top k != Hst.top k) = false := by simp
  clear hk
  go_enter Try.func4, Try.ntmps4
  go_wp2_with fail
  refine (awake_calls _).mono ?_
  rintro e w1 ⟨rfl, hb⟩
  have Hb := hid hb
  clear hb
  go_wp2_with fail
  refine (hbin.out _).mono ?_
  rintro e w' ⟨rfl, rfl⟩
  go_wp2_with fail
  refine (hT.out _).mono ?_
  rintro e w' ⟨rfl, rfl⟩
  go_wp2_with fail
  refine (hR.out _).mono ?_
  rintro e w' ⟨rfl, rfl⟩
  go_wp2_with fail
  refine (hTn.out _).mono ?_
  rintro e w' ⟨rfl, rfl⟩
  by_cases hn0 : n = 0
  · subst hn0
    by_cases hb0 : b < 0
    · go_wp2_with fail
      go_ret
      exact ⟨rfl, Hb.out⟩
    · by_cases hb63 : 63 < b
      · go_wp2_with fail
        go_ret
        exact ⟨rfl, Hb.out⟩
      · obtain ⟨rfl, rfl⟩ := hk1 (by omega) (by omega)
        have hT1 := hid (fun w => top_calls (k + 1) (k + 1) (by unfold Sat.mn Sat.mx; (repeat' split) <;> omega) (by omega) (by omega) (by omega) w)
        have hlt := Hst.top_lt (Nat.lt_succ_self k)
        go_wp2_with fail
        refine (hT.out _).mono ?_
        rintro e w' ⟨rfl, rfl⟩
        go_wp2_with fail
        refine (hT1.out _).mono ?_
        rintro e w' ⟨rfl, rfl⟩
        go_wp2_with fail
        go_ret
        exact ⟨rfl, Hb.out⟩
  · have e3 := e2 hn0
    have hTn1 := hid (fun w => top_calls ((n : Int) - 1) (n - 1) (by unfold Sat.mn Sat.mx; (repeat' split) <;> omega) (by omega) (by omega) (by omega) w)
    have n1 : 1 ≤ (n : Int) := by omega
    have n2 : ((n : Int) == 0) = false := by rw [beq_eq_false_iff_ne]; omega
    by_cases hb0 : b < 0
    · go_wp2_with fail
      refine (hTn1.out _).mono ?_
      rintro e w' ⟨rfl, rfl⟩
      go_wp2_with fail
      go_ret
      exact ⟨rfl, Hb.out⟩
    · by_cases hb63 : 63 < b
      · go_wp2_with fail
        refine (hTn1.out _).mono ?_
        rintro e w' ⟨rfl, rfl⟩
        go_wp2_with fail
        go_ret
        exact ⟨rfl, Hb.out⟩
      · obtain ⟨rfl, rfl⟩ := hk1 (by omega) (by omega)
        have hT1 := hid (fun w => top_calls (k + 1) (k + 1) (by unfold Sat.mn Sat.mx; (repeat' split) <;> omega) (by omega) (by omega) (by omega) w)
        have hlt := Hst.top_lt (Nat.lt_succ_self k)
        go_wp2_with fail
        refine (hTn1.out _).mono ?_
        rintro e w' ⟨rfl, rfl⟩
        go_wp2_with fail
        refine (hT.out _).mono ?_
        rintro e w' ⟨rfl, rfl⟩
        go_wp2_with fail
        refine (hT1.out _).mono ?_
        rintro e w' ⟨rfl, rfl⟩
        go_wp2_with fail
        go_ret
        exact ⟨rfl, Hb.out⟩
theorem histBins_walk {H : Type} {enc : TypeId × Value → H} (W : World) (a0 : Int) (w0 : (Lit.int .u64 a0).wf = true) (a1 : Int) (w1 : (Lit.int .i64 a1).wf = true) :
    Calls Try.prog 4 #[.int .u64 a0, .int .i64 a1] W fun e w' => e = .returned (.bool true) ∧ Below W.heap.size W w' := by
  obtain ⟨x0, x1⟩ := Sat.wf_u64 w0
  obtain ⟨b0, b1⟩ := Sat.wf_i64 w1
  obtain ⟨x, rfl⟩ := Int.eq_ofNat_of_zero_le x0
  obtain ⟨k, hk⟩ := Int.eq_ofNat_of_zero_le (show 0 ≤ Sat.mn (Sat.mx a1 0) 64 by unfold Sat.mn Sat.mx; (repeat' split) <;> omega)
  have hxn : x < 18446744073709551616 := by omega
  refine bins_core x a1 (Bits.blen x) k (k + 1) W hxn b0 b1 (Bits.blen_le64 hxn) (hid fun w => bin_calls x hxn w) hk (by unfold Sat.mn Sat.mx at hk; split at hk <;> split at hk <;> omega) (fun h1 h2 => ⟨rfl, by unfold Sat.mn Sat.mx at hk; split at hk <;> split at hk <;> omega⟩) ((Hst.le_top x _).2 (Nat.le_refl _)) (fun h => ?_)
  apply Int.not_le.1
  intro hle
  have := (Hst.le_top x _).1 hle
  omega
end Go.Proofs.Ytmemafhdondfhaa.C06
