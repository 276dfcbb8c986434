/- The examples' function of chapter 2 answers true, and the walks of the chapter's laws. -/
import Derived.Test.YtbhgkbljapfhcaaR02
import Derived.Test.YtbhgkbljapfhcaaOpen
namespace Go.Proofs.Ytbhgkbljapfhcaa.C02
open Go.RowKit Go.Proofs.Ytbhgkbljapfhcaa
set_option linter.unusedVariables false
attribute [local go_sem] max2_mx min2_mn max_two min_two
theorem blen64 : Bits.blen 64 = 7 := by
  rw [Bits.blen_pos (by decide), Bits.blen_pos (by decide), Bits.blen_pos (by decide), Bits.blen_pos (by decide), Bits.blen_pos (by decide), Bits.blen_pos (by decide), Bits.blen_pos (by decide), Bits.blen_zero]
set_option maxHeartbeats 1000000 in
theorem awake_calls (w : World) : Calls Try.prog 9 #[] w fun e w' => e = .returned (.bool true) ∧ Below w.heap.size w w' := by
  have h1 := hid (narrow_calls 2147483648 (by omega) (by omega) w)
  have h2 := hid (len_calls 64 (by omega) w)
  have h3 := hid (level_calls 5 70 (by omega) (by omega) w)
  have h4 := hid (slot_calls 70 1 (by omega) (by omega) (by omega) w)
  have h5 := hid (block_calls 70 1 (by omega) (by omega) (by omega) w)
  rw [show narrow 2147483648 = -2147483648 from by decide] at h1
  rw [blen64] at h2
  rw [show Bits.lvl 5 70 = 1 from by decide] at h3
  rw [show Bits.blk 70 (1 : Int).toNat = 1 from by decide] at h4
  rw [show Bits.blk 70 (1 : Int).toNat = 1 from by decide] at h5
  go_enter Try.func9, Try.ntmps9
  go_wp2_with fail
  refine h1.out.mono ?_
  rintro e w' ⟨rfl, rfl⟩
  go_wp2_with fail
  refine h2.out.mono ?_
  rintro e w' ⟨rfl, rfl⟩
  go_wp2_with fail
  refine h3.out.mono ?_
  rintro e w' ⟨rfl, rfl⟩
  go_wp2_with fail
  refine h4.out.mono ?_
  rintro e w' ⟨rfl, rfl⟩
  go_wp2_with fail
  refine h5.out.mono ?_
  rintro e w' ⟨rfl, rfl⟩
  go_wp2_with fail
  refine (from_calls [1, 0] (some ⟨w.heap.size, 0, none⟩) 2 _ (by decide) (by decide) (by decide) ?_ (by simp)).mono ?_
  · refine .inr ⟨_, _, rfl, ?_⟩
    intro i hi
    match i, hi with
    | 0, _ => simp [go_sem]
    | 1, _ => simp [go_sem]
  rintro e w' ⟨rfl, rfl⟩
  rw [show Bits.num (Bits.last8 [1, 0]) = 256 from by decide]
  go_wp2_with fail
  go_ret
  exact ⟨rfl, (Below.refl _ _).alloc (Nat.le_refl _) _⟩
set_option maxHeartbeats 1000000 in
theorem tells_core (a b L r1 r2 r3 r4 : Int) (w : World)
    (h1 : Hid (∀ w, Calls Try.prog 10 #[.int .u64 a] w fun e w' => e = .returned (.int .i64 r1) ∧ w = w'))
    (h2 : Hid (∀ w, Calls Try.prog 11 #[.int .u64 a] w fun e w' => e = .returned (.int .i64 r1) ∧ w = w'))
    (h3 : Hid (∀ w, Calls Try.prog 12 #[.int .u64 a, .int .i64 L] w fun e w' => e = .returned (.int .u64 r2) ∧ w = w'))
    (h4 : Hid (∀ w, Calls Try.prog 13 #[.int .u64 a, .int .i64 L] w fun e w' => e = .returned (.int .u64 r2) ∧ w = w'))
    (h5 : Hid (∀ w, Calls Try.prog 14 #[.int .u64 a, .int .i64 L] w fun e w' => e = .returned (.int .i64 r3) ∧ w = w'))
    (h6 : Hid (∀ w, Calls Try.prog 15 #[.int .u64 a, .int .i64 L] w fun e w' => e = .returned (.int .i64 r3) ∧ w = w'))
    (h7 : Hid (∀ w, Calls Try.prog 16 #[.int .u64 a, .int .u64 b] w fun e w' => e = .returned (.int .i64 r4) ∧ w = w'))
    (h8 : Hid (∀ w, Calls Try.prog 17 #[.int .u64 a, .int .u64 b] w fun e w' => e = .returned (.int .i64 r4) ∧ w = w')) :
    Calls Try.prog 3 #[.int .u64 a, .int .u64 b, .int .i64 L] w fun e w' => e = .returned (.bool true) ∧ Below w.heap.size w w' := by
  go_enter Try.func3, Try.ntmps3
  go_wp2_with fail
  refine (awake_calls _).mono ?_
  rintro e w1 ⟨rfl, hb⟩
  have Hb := hid hb
  clear hb
  go_wp2_with fail
  refine (h1.out _).mono ?_
  rintro e w' ⟨rfl, rfl⟩
  go_wp2_with fail
  refine (h2.out _).mono ?_
  rintro e w' ⟨rfl, rfl⟩
  go_wp2_with fail
  refine (h3.out _).mono ?_
  rintro e w' ⟨rfl, rfl⟩
  go_wp2_with fail
  refine (h4.out _).mono ?_
  rintro e w' ⟨rfl, rfl⟩
  go_wp2_with fail
  refine (h5.out _).mono ?_
  rintro e w' ⟨rfl, rfl⟩
  go_wp2_with fail
  refine (h6.out _).mono ?_
  rintro e w' ⟨rfl, rfl⟩
  go_wp2_with fail
  refine (h7.out _).mono ?_
  rintro e w' ⟨rfl, rfl⟩
  go_wp2_with fail
  refine (h8.out _).mono ?_
  rintro e w' ⟨rfl, rfl⟩
  go_wp2_with fail
  go_ret
  exact ⟨rfl, Hb.out⟩
theorem bitsTells_walk {H : Type} {enc : TypeId × Value → H} (W : World) (a : Int) (wa : (Lit.int .u64 a).wf = true) (b : Int) (wb : (Lit.int .u64 b).wf = true) (L : Int) (wL : (Lit.int .i64 L).wf = true) :
    Calls Try.prog 3 #[.int .u64 a, .int .u64 b, .int .i64 L] W fun e w' => e = .returned (.bool true) ∧ Below W.heap.size W w' := by
  obtain ⟨a0, a1⟩ := Sat.wf_u64 wa
  obtain ⟨b0, b1⟩ := Sat.wf_u64 wb
  obtain ⟨L0, L1⟩ := Sat.wf_i64 wL
  obtain ⟨x, rfl⟩ := Int.eq_ofNat_of_zero_le a0
  obtain ⟨y, rfl⟩ := Int.eq_ofNat_of_zero_le b0
  have hx : x < 18446744073709551616 := by omega
  have hy : y < 18446744073709551616 := by omega
  exact tells_core x y L _ _ _ _ W (hid fun w => len_calls x hx w) (hid fun w => rlen_calls x hx w) (hid fun w => block_calls x L hx L0 L1 w) (hid fun w => rblock_calls x L hx L0 L1 w) (hid fun w => slot_calls x L hx L0 L1 w) (hid fun w => rslot_calls x L hx L0 L1 w) (hid fun w => level_calls x y hx hy w) (hid fun w => rlevel_calls x y hx hy w)
end Go.Proofs.Ytbhgkbljapfhcaa.C02
