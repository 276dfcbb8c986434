/- The walks of the laws BitsLevels and BitsBlocks. -/
import Derived.Test.YtbhgkbljapfhcaaC02L
namespace Go.Proofs.Ytbhgkbljapfhcaa.C02
open Go.RowKit Go.Proofs.Ytbhgkbljapfhcaa
set_option linter.unusedVariables false
attribute [local go_sem] max2_mx min2_mn max_two min_two
theorem lvl_le (a b : Nat) : Bits.lvl a b ≤ 4 := by unfold Bits.lvl; (repeat' split) <;> omega
theorem lvl_comm (a b : Nat) : Bits.lvl a b = Bits.lvl b a := by
  unfold Bits.lvl
  simp only [eq_comm]
theorem lvl_self (a : Nat) : Bits.lvl a a = 0 := by unfold Bits.lvl; simp
theorem lvl_same {a b : Nat} (h : Bits.lvl a b < 4) : Bits.blk a (Bits.lvl a b + 1) = Bits.blk b (Bits.lvl a b + 1) := by
  unfold Bits.lvl at *
  (repeat' split) <;> first | assumption | (exfalso; revert h; simp [*])
theorem lvl_apart {a b : Nat} (h : 0 < Bits.lvl a b) : Bits.blk a (Bits.lvl a b) ≠ Bits.blk b (Bits.lvl a b) := by
  unfold Bits.lvl at *
  by_cases h1 : Bits.blk a 1 = Bits.blk b 1
  · simp [h1] at h
  · by_cases h2 : Bits.blk a 2 = Bits.blk b 2
    · simp [h1, h2]
    · by_cases h3 : Bits.blk a 3 = Bits.blk b 3
      · simp [h1, h2, h3]
      · by_cases h4 : Bits.blk a 4 = Bits.blk b 4
        · simp [h1, h2, h3, h4]
        · simp [h1, h2, h3, h4]
theorem blk_mono {a b : Nat} (h : a ≤ b) (l : Nat) : Bits.blk a l ≤ Bits.blk b l := Nat.div_le_div_right h
/-- What the law asks of the slots. -/
theorem slots {a b : Nat} (h : a ≤ b) (hl : Bits.lvl a b < 4) : (0 < Bits.lvl a b → Bits.blk a (Bits.lvl a b) % 64 < Bits.blk b (Bits.lvl a b) % 64) ∧ (Bits.lvl a b = 0 → Bits.blk a 0 % 64 ≤ Bits.blk b 0 % 64) := by
  have h1 := lvl_same hl
  rw [← Bits.blk_succ', ← Bits.blk_succ'] at h1
  have h2 := blk_mono h (Bits.lvl a b)
  constructor
  · intro h0
    have h3 := lvl_apart h0
    omega
  · intro h0
    rw [h0] at h1 h2
    omega

set_option maxHeartbeats 1000000 in
theorem levels_zero (a b : Int) (X Y : Nat) (w : World) (hmn : Sat.mn a b = X) (hmx : Sat.mx a b = Y) (B S1 S2 : Nat)
    (h1 : Hid (∀ w, Calls Try.prog 16 #[.int .u64 X, .int .u64 Y] w fun e w' => e = .returned (.int .i64 ((0 : Nat) : Int)) ∧ w = w')) (h2 : Hid (∀ w, Calls Try.prog 16 #[.int .u64 Y, .int .u64 X] w fun e w' => e = .returned (.int .i64 ((0 : Nat) : Int)) ∧ w = w')) (h3 : Hid (∀ w, Calls Try.prog 16 #[.int .u64 a, .int .u64 a] w fun e w' => e = .returned (.int .i64 ((0 : Nat) : Int)) ∧ w = w'))
    (h4 : Hid (∀ w, Calls Try.prog 12 #[.int .u64 X, .int .i64 1] w fun e w' => e = .returned (.int .u64 B) ∧ w = w')) (h5 : Hid (∀ w, Calls Try.prog 12 #[.int .u64 Y, .int .i64 1] w fun e w' => e = .returned (.int .u64 B) ∧ w = w'))
    (h6 : Hid (∀ w, Calls Try.prog 14 #[.int .u64 X, .int .i64 0] w fun e w' => e = .returned (.int .i64 S1) ∧ w = w')) (h7 : Hid (∀ w, Calls Try.prog 14 #[.int .u64 Y, .int .i64 0] w fun e w' => e = .returned (.int .i64 S2) ∧ w = w')) (hs : S1 ≤ S2) :
    Calls Try.prog 4 #[.int .u64 a, .int .u64 b] w fun e w' => e = .returned (.bool true) ∧ Below w.heap.size w w' := by
  go_enter Try.func4, Try.ntmps4
  go_wp2_with fail
  refine (awake_calls _).mono ?_
  rintro e w1 ⟨rfl, hb⟩
  have Hb := hid hb
  clear hb
  go_wp2_with fail
  refine (h1.out _).mono ?_
  rintro e w' ⟨rfl, rfl⟩
  go_wp2_with fail
  refine (h2.out _).mono ?_
  rintro e w' ⟨rfl, rfl⟩
  go_wp2_with fail
  refine (h4.out _).mono ?_
  rintro e w' ⟨rfl, rfl⟩
  go_wp2_with fail
  refine (h5.out _).mono ?_
  rintro e w' ⟨rfl, rfl⟩
  go_wp2_with fail
  refine (h6.out _).mono ?_
  rintro e w' ⟨rfl, rfl⟩
  go_wp2_with fail
  refine (h7.out _).mono ?_
  rintro e w' ⟨rfl, rfl⟩
  go_wp2_with fail
  refine (h3.out _).mono ?_
  rintro e w' ⟨rfl, rfl⟩
  go_wp2_with fail
  go_ret
  exact ⟨rfl, Hb.out⟩
set_option maxHeartbeats 1000000 in
theorem levels_four (a b : Int) (X Y : Nat) (w : World) (hmn : Sat.mn a b = X) (hmx : Sat.mx a b = Y) (P Q : Int)
    (h1 : Hid (∀ w, Calls Try.prog 16 #[.int .u64 X, .int .u64 Y] w fun e w' => e = .returned (.int .i64 ((4 : Nat) : Int)) ∧ w = w')) (h2 : Hid (∀ w, Calls Try.prog 16 #[.int .u64 Y, .int .u64 X] w fun e w' => e = .returned (.int .i64 ((4 : Nat) : Int)) ∧ w = w')) (h3 : Hid (∀ w, Calls Try.prog 16 #[.int .u64 a, .int .u64 a] w fun e w' => e = .returned (.int .i64 ((0 : Nat) : Int)) ∧ w = w'))
    (h4 : Hid (∀ w, Calls Try.prog 12 #[.int .u64 X, .int .i64 4] w fun e w' => e = .returned (.int .u64 P) ∧ w = w')) (h5 : Hid (∀ w, Calls Try.prog 12 #[.int .u64 Y, .int .i64 4] w fun e w' => e = .returned (.int .u64 Q) ∧ w = w')) (hs : (P == Q) = false) :
    Calls Try.prog 4 #[.int .u64 a, .int .u64 b] w fun e w' => e = .returned (.bool true) ∧ Below w.heap.size w w' := by
  go_enter Try.func4, Try.ntmps4
  go_wp2_with fail
  refine (awake_calls _).mono ?_
  rintro e w1 ⟨rfl, hb⟩
  have Hb := hid hb
  clear hb
  go_wp2_with fail
  refine (h1.out _).mono ?_
  rintro e w' ⟨rfl, rfl⟩
  go_wp2_with fail
  refine (h2.out _).mono ?_
  rintro e w' ⟨rfl, rfl⟩
  go_wp2_with fail
  refine (h4.out _).mono ?_
  rintro e w' ⟨rfl, rfl⟩
  go_wp2_with fail
  refine (h5.out _).mono ?_
  rintro e w' ⟨rfl, rfl⟩
  go_wp2_with fail
  refine (h3.out _).mono ?_
  rintro e w' ⟨rfl, rfl⟩
  go_wp2_with fail
  go_ret
  exact ⟨rfl, Hb.out⟩
set_option maxHeartbeats 1000000 in
theorem levels_mid (a b : Int) (X Y : Nat) (w : World) (hmn : Sat.mn a b = X) (hmx : Sat.mx a b = Y) (N B S1 S2 : Nat) (P Q : Int) (hN0 : 0 < N) (hN4 : N < 4)
    (h1 : Hid (∀ w, Calls Try.prog 16 #[.int .u64 X, .int .u64 Y] w fun e w' => e = .returned (.int .i64 N) ∧ w = w')) (h2 : Hid (∀ w, Calls Try.prog 16 #[.int .u64 Y, .int .u64 X] w fun e w' => e = .returned (.int .i64 N) ∧ w = w')) (h3 : Hid (∀ w, Calls Try.prog 16 #[.int .u64 a, .int .u64 a] w fun e w' => e = .returned (.int .i64 ((0 : Nat) : Int)) ∧ w = w'))
    (h4 : Hid (∀ w, Calls Try.prog 12 #[.int .u64 X, .int .i64 (N + 1)] w fun e w' => e = .returned (.int .u64 B) ∧ w = w')) (h5 : Hid (∀ w, Calls Try.prog 12 #[.int .u64 Y, .int .i64 (N + 1)] w fun e w' => e = .returned (.int .u64 B) ∧ w = w'))
    (h6 : Hid (∀ w, Calls Try.prog 12 #[.int .u64 X, .int .i64 N] w fun e w' => e = .returned (.int .u64 P) ∧ w = w')) (h7 : Hid (∀ w, Calls Try.prog 12 #[.int .u64 Y, .int .i64 N] w fun e w' => e = .returned (.int .u64 Q) ∧ w = w')) (hs : (P == Q) = false)
    (h8 : Hid (∀ w, Calls Try.prog 14 #[.int .u64 X, .int .i64 N] w fun e w' => e = .returned (.int .i64 S1) ∧ w = w')) (h9 : Hid (∀ w, Calls Try.prog 14 #[.int .u64 Y, .int .i64 N] w fun e w' => e = .returned (.int .i64 S2) ∧ w = w')) (ht : S1 < S2) :
    Calls Try.prog 4 #[.int .u64 a, .int .u64 b] w fun e w' => e = .returned (.bool true) ∧ Below w.heap.size w w' := by
  have n0 : ((N : Int) == 0) = false := by rw [beq_eq_false_iff_ne]; omega
  have n4 : ((N : Int) == 4) = false := by rw [beq_eq_false_iff_ne]; omega
  go_enter Try.func4, Try.ntmps4
  go_wp2_with fail
  refine (awake_calls _).mono ?_
  rintro e w1 ⟨rfl, hb⟩
  have Hb := hid hb
  clear hb
  go_wp2_with fail
  refine (h1.out _).mono ?_
  rintro e w' ⟨rfl, rfl⟩
  go_wp2_with fail
  refine (h2.out _).mono ?_
  rintro e w' ⟨rfl, rfl⟩
  go_wp2_with fail
  refine (h4.out _).mono ?_
  rintro e w' ⟨rfl, rfl⟩
  go_wp2_with fail
  refine (h5.out _).mono ?_
  rintro e w' ⟨rfl, rfl⟩
  go_wp2_with fail
  refine (h6.out _).mono ?_
  rintro e w' ⟨rfl, rfl⟩
  go_wp2_with fail
  refine (h7.out _).mono ?_
  rintro e w' ⟨rfl, rfl⟩
  go_wp2_with fail
  refine (h8.out _).mono ?_
  rintro e w' ⟨rfl, rfl⟩
  go_wp2_with fail
  refine (h9.out _).mono ?_
  rintro e w' ⟨rfl, rfl⟩
  go_wp2_with fail
  refine (h3.out _).mono ?_
  rintro e w' ⟨rfl, rfl⟩
  go_wp2_with fail
  go_ret
  exact ⟨rfl, Hb.out⟩
theorem bitsLevels_walk {H : Type} {enc : TypeId × Value → H} (W : World) (a0 : Int) (w0 : (Lit.int .u64 a0).wf = true) (a1 : Int) (w1 : (Lit.int .u64 a1).wf = true) :
    Calls Try.prog 4 #[.int .u64 a0, .int .u64 a1] W fun e w' => e = .returned (.bool true) ∧ Below W.heap.size W w' := by
  obtain ⟨p0, p1⟩ := Sat.wf_u64 w0
  obtain ⟨q0, q1⟩ := Sat.wf_u64 w1
  have x1 := Sat.mn_le a0 a1
  have x2 := Sat.mx_ge a0 a1
  have x3 := Sat.mn_or a0 a1
  have x4 := Sat.mx_or a0 a1
  obtain ⟨A, rfl⟩ := Int.eq_ofNat_of_zero_le p0
  obtain ⟨X, hX⟩ := Int.eq_ofNat_of_zero_le (a := Sat.mn A a1) (by omega)
  obtain ⟨Y, hY⟩ := Int.eq_ofNat_of_zero_le (a := Sat.mx A a1) (by omega)
  have hxy : X ≤ Y := by omega
  have hx : X < 18446744073709551616 := by omega
  have hy : Y < 18446744073709551616 := by omega
  have hA : A < 18446744073709551616 := by omega
  have b4 := lvl_le X Y
  have L1 := fun w => level_calls X Y hx hy w
  have L2 := fun w => level_calls Y X hy hx w
  have L3 := fun w => level_calls A A hA hA w
  rw [lvl_comm Y X] at L2
  rw [lvl_self] at L3
  have cast : ∀ (t : Nat) (L : Int) (l : Nat), t < 18446744073709551616 → L = (l : Int) → l ≤ 10 → ∀ w, Calls Try.prog 12 #[.int .u64 t, .int .i64 L] w fun e w' => e = .returned (.int .u64 (Bits.blk t l)) ∧ w = w' := by
    intro t L l ht hL hl w
    have := block_calls t L ht (by omega) (by omega) w
    rwa [show L.toNat = l from by omega] at this
  have cast2 : ∀ (t : Nat) (L : Int) (l : Nat), t < 18446744073709551616 → L = (l : Int) → l ≤ 10 → ∀ w, Calls Try.prog 14 #[.int .u64 t, .int .i64 L] w fun e w' => e = .returned (.int .i64 (Bits.blk t l % 64 : Nat)) ∧ w = w' := by
    intro t L l ht hL hl w
    have := slot_calls t L ht (by omega) (by omega) w
    rwa [show L.toNat = l from by omega] at this
  by_cases h0 : Bits.lvl X Y = 0
  · have hb := lvl_same (a := X) (b := Y) (by omega)
    have hs := (slots hxy (by omega)).2 h0
    rw [h0] at L1 L2 hb
    refine levels_zero A a1 X Y W hX hY (Bits.blk X 1) _ _ (hid L1) (hid L2) (hid L3) (hid (cast X 1 1 hx rfl (by omega))) (hid fun w => ?_) (hid (cast2 X 0 0 hx rfl (by omega))) (hid (cast2 Y 0 0 hy rfl (by omega))) hs
    have := cast Y 1 1 hy rfl (by omega) w
    rwa [← show Bits.blk X 1 = Bits.blk Y 1 from hb] at this
  · by_cases h4 : Bits.lvl X Y = 4
    · have hp := lvl_apart (a := X) (b := Y) (by omega)
      rw [h4] at L1 L2 hp
      exact levels_four A a1 X Y W hX hY _ _ (hid L1) (hid L2) (hid L3) (hid (cast X 4 4 hx rfl (by omega))) (hid (cast Y 4 4 hy rfl (by omega))) (by rw [beq_eq_false_iff_ne]; omega)
    · have hp := lvl_apart (a := X) (b := Y) (by omega)
      have hb := lvl_same (a := X) (b := Y) (by omega)
      have hs := (slots hxy (by omega)).1 (by omega)
      refine levels_mid A a1 X Y W hX hY (Bits.lvl X Y) (Bits.blk X (Bits.lvl X Y + 1)) _ _ _ _ (by omega) (by omega) (hid L1) (hid L2) (hid L3) (hid (cast X _ _ hx (by omega) (by omega))) (hid fun w => ?_) (hid (cast X _ _ hx rfl (by omega))) (hid (cast Y _ _ hy rfl (by omega))) (by rw [beq_eq_false_iff_ne]; omega) (hid (cast2 X _ _ hx rfl (by omega))) (hid (cast2 Y _ _ hy rfl (by omega))) hs
      have := cast Y ((Bits.lvl X Y : Int) + 1) (Bits.lvl X Y + 1) hy (by omega) (by omega) w
      rwa [← hb] at this

/-- The next block's time. -/
theorem blk_next (t m : Nat) : Bits.blk (t + 64 ^ m) m = Bits.blk t m + 1 := by
  unfold Bits.blk
  exact Nat.add_div_right _ (Nat.pow_pos (by decide))
set_option maxHeartbeats 2000000 in
theorem blocks_core (t a b : Int) (w : World) (ht0 : 0 ≤ t) (ht : t ≤ 18446744073709551615) (ha0 : 0 ≤ a) (ha : a ≤ 255) (hb0 : 0 ≤ b) (hb : b ≤ 255) (M N : Nat) (hM : a % 12 = M) (hN : b % 12 = N) (hM2 : M ≤ 11) (hN2 : N ≤ 11) (P Q S nx : Int)
    (h1 : Hid (∀ w, Calls Try.prog 12 #[.int .u64 t, .int .i64 M] w fun e w' => e = .returned (.int .u64 P) ∧ w = w')) (h2 : Hid (∀ w, Calls Try.prog 12 #[.int .u64 P, .int .i64 N] w fun e w' => e = .returned (.int .u64 Q) ∧ w = w')) (h3 : Hid (∀ w, Calls Try.prog 12 #[.int .u64 t, .int .i64 (M + N)] w fun e w' => e = .returned (.int .u64 Q) ∧ w = w'))
    (h4 : Hid (∀ w, Calls Try.prog 14 #[.int .u64 t, .int .i64 M] w fun e w' => e = .returned (.int .i64 S) ∧ w = w')) (h5 : bits .and .u64 P 63 = S) (hS0 : 0 ≤ S) (hS : S ≤ 63) (hP0 : 0 ≤ P) (hP : P ≤ 18446744073709551614 ∨ ¬ (M < 10 ∧ t ≤ 9223372036854775808))
    (hn : M < 10 ∧ t ≤ 9223372036854775808 ∧ IntKind.u64.wrap (t + IntKind.u64.wrap (2 ^ (6 * M))) = nx ∧ (nx == t) = false ∧ Hid (∀ w, Calls Try.prog 12 #[.int .u64 nx, .int .i64 M] w fun e w' => e = .returned (.int .u64 (P + 1)) ∧ w = w') ∨ ¬ (M < 10 ∧ t ≤ 9223372036854775808)) :
    Calls Try.prog 5 #[.int .u64 t, .int .u8 a, .int .u8 b] w fun e w' => e = .returned (.bool true) ∧ Below w.heap.size w w' := by
  rcases hn with ⟨n1, n2, n3, n4, n5⟩ | hn
  · go_enter Try.func5, Try.ntmps5
    go_wp2_with fail
    refine (awake_calls _).mono ?_
    rintro e w1 ⟨rfl, hb⟩
    have Hb := hid hb
    clear hb
    have hP9 : P ≤ 18446744073709551614 := by omega
    clear hP
    go_wp2_with fail
    refine (h1.out _).mono ?_
    rintro e w' ⟨rfl, rfl⟩
    go_wp2_with fail
    refine (h2.out _).mono ?_
    rintro e w' ⟨rfl, rfl⟩
    go_wp2_with fail
    refine (h3.out _).mono ?_
    rintro e w' ⟨rfl, rfl⟩
    go_wp2_with fail
    refine (h4.out _).mono ?_
    rintro e w' ⟨rfl, rfl⟩
    go_wp2_with fail
    refine (h1.out _).mono ?_
    rintro e w' ⟨rfl, rfl⟩
    go_wp2_with fail
    refine (n5.out _).mono ?_
    rintro e w' ⟨rfl, rfl⟩
    go_wp2_with fail
    refine (h1.out _).mono ?_
    rintro e w' ⟨rfl, rfl⟩
    go_wp2_with fail
    go_ret
    exact ⟨rfl, Hb.out⟩
  · clear hP
    by_cases hm : M < 10
    · have n2 : 9223372036854775808 < t := by omega
      clear hn
      go_enter Try.func5, Try.ntmps5
      go_wp2_with fail
      refine (awake_calls _).mono ?_
      rintro e w1 ⟨rfl, hb⟩
      have Hb := hid hb
      clear hb
      go_wp2_with fail
      refine (h1.out _).mono ?_
      rintro e w' ⟨rfl, rfl⟩
      go_wp2_with fail
      refine (h2.out _).mono ?_
      rintro e w' ⟨rfl, rfl⟩
      go_wp2_with fail
      refine (h3.out _).mono ?_
      rintro e w' ⟨rfl, rfl⟩
      go_wp2_with fail
      refine (h4.out _).mono ?_
      rintro e w' ⟨rfl, rfl⟩
      go_wp2_with fail
      refine (h1.out _).mono ?_
      rintro e w' ⟨rfl, rfl⟩
      go_wp2_with fail
      go_ret
      exact ⟨rfl, Hb.out⟩
    · clear hn
      go_enter Try.func5, Try.ntmps5
      go_wp2_with fail
      refine (awake_calls _).mono ?_
      rintro e w1 ⟨rfl, hb⟩
      have Hb := hid hb
      clear hb
      go_wp2_with fail
      refine (h1.out _).mono ?_
      rintro e w' ⟨rfl, rfl⟩
      go_wp2_with fail
      refine (h2.out _).mono ?_
      rintro e w' ⟨rfl, rfl⟩
      go_wp2_with fail
      refine (h3.out _).mono ?_
      rintro e w' ⟨rfl, rfl⟩
      go_wp2_with fail
      refine (h4.out _).mono ?_
      rintro e w' ⟨rfl, rfl⟩
      go_wp2_with fail
      refine (h1.out _).mono ?_
      rintro e w' ⟨rfl, rfl⟩
      go_wp2_with fail
      go_ret
      exact ⟨rfl, Hb.out⟩
theorem bitsBlocks_walk {H : Type} {enc : TypeId × Value → H} (W : World) (a0 : Int) (w0 : (Lit.int .u64 a0).wf = true) (a1 : Int) (w1 : (Lit.int .u8 a1).wf = true) (a2 : Int) (w2 : (Lit.int .u8 a2).wf = true) :
    Calls Try.prog 5 #[.int .u64 a0, .int .u8 a1, .int .u8 a2] W fun e w' => e = .returned (.bool true) ∧ Below W.heap.size W w' := by
  obtain ⟨p0, p1⟩ := Sat.wf_u64 w0
  obtain ⟨q0, q1⟩ := Sat.wf_u8 w1
  obtain ⟨r0, r1⟩ := Sat.wf_u8 w2
  obtain ⟨T, rfl⟩ := Int.eq_ofNat_of_zero_le p0
  obtain ⟨M, hM⟩ := Int.eq_ofNat_of_zero_le (a := a1 % 12) (by omega)
  obtain ⟨N, hN⟩ := Int.eq_ofNat_of_zero_le (a := a2 % 12) (by omega)
  have hM2 : M ≤ 11 := by omega
  have hN2 : N ≤ 11 := by omega
  have hT : T < 18446744073709551616 := by omega
  have cast : ∀ (t : Nat) (L : Int) (l : Nat), t < 18446744073709551616 → L = (l : Int) → l ≤ 30 → ∀ w, Calls Try.prog 12 #[.int .u64 t, .int .i64 L] w fun e w' => e = .returned (.int .u64 (Bits.blk t l)) ∧ w = w' := by
    intro t L l ht hL hl w
    have := block_calls t L ht (by omega) (by omega) w
    rwa [show L.toNat = l from by omega] at this
  have cast2 : ∀ (t : Nat) (L : Int) (l : Nat), t < 18446744073709551616 → L = (l : Int) → l ≤ 30 → ∀ w, Calls Try.prog 14 #[.int .u64 t, .int .i64 L] w fun e w' => e = .returned (.int .i64 (Bits.blk t l % 64 : Nat)) ∧ w = w' := by
    intro t L l ht hL hl w
    have := slot_calls t L ht (by omega) (by omega) w
    rwa [show L.toNat = l from by omega] at this
  have hle := Bits.blk_le T M
  refine blocks_core T a1 a2 W (by omega) (by omega) q0 (by omega) r0 (by omega) M N hM hN hM2 hN2 (Bits.blk T M) (Bits.blk T (M + N)) (Bits.blk T M % 64 : Nat) ((T + 64 ^ M : Nat) : Int) (hid (cast T M M hT rfl (by omega))) (hid fun w => ?_) (hid (cast T _ (M + N) hT (by omega) (by omega))) (hid (cast2 T M M hT rfl (by omega))) (Bits.and63 _ (by omega)) (by omega) (by omega) (by omega) ?_ ?_
  · have := cast (Bits.blk T M) N N (by omega) rfl (by omega) w
    rwa [Bits.blk_blk] at this
  · by_cases h : M < 10 ∧ (T : Int) ≤ 9223372036854775808
    · left; omega
    · exact .inr h
  · by_cases h : M < 10 ∧ (T : Int) ≤ 9223372036854775808
    · left
      have hp : 64 ^ M ≤ 64 ^ 9 := Nat.pow_le_pow_right (by decide) (by omega)
      have hp0 : 0 < 64 ^ M := Nat.pow_pos (by decide)
      have h9 : 64 ^ 9 = 18014398509481984 := by decide
      have e2 : (2 : Int) ^ (6 * M) = ((64 ^ M : Nat) : Int) := by
        have : (64 : Nat) ^ M = 2 ^ (6 * M) := by rw [show (64 : Nat) = 2 ^ 6 from rfl, ← Nat.pow_mul]
        rw [this]; simp
      refine ⟨h.1, h.2, ?_, by rw [beq_eq_false_iff_ne]; omega, hid fun w => ?_⟩
      · rw [e2, Sat.u64_in (n := ((64 ^ M : Nat) : Int)) (by omega) (by omega), Sat.u64_in (n := (T : Int) + ((64 ^ M : Nat) : Int)) (by omega) (by omega)]; omega
      · have := cast (T + 64 ^ M) M M (by omega) rfl (by omega) w
        rw [blk_next] at this
        simpa using this
    · exact .inr h
end Go.Proofs.Ytbhgkbljapfhcaa.C02
