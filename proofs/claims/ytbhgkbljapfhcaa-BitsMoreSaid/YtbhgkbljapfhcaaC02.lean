/- What the functions Len, Block, Slot, Level, Narrow of the package bits and of its reference return. -/
import Derived.Test.YtbhgkbljapfhcaaProg
import Derived.Test.YtbhgkbljapfhcaaBits
import Derived.WalkKit
import Derived.KernelRfl
namespace Go.Proofs.Ytbhgkbljapfhcaa.C02
open Go.RowKit Go.Proofs.Ytbhgkbljapfhcaa
set_option linter.unusedVariables false
theorem max2_mx (k k' : IntKind) (x y : Int) : Builtin.max2 (.int k x) (.int k' y) = pure (.int k (Sat.mx x y)) := by simp only [Builtin.max2, gt_iff_lt, Sat.mx]
theorem min2_mn (k k' : IntKind) (x y : Int) : Builtin.min2 (.int k x) (.int k' y) = pure (.int k (Sat.mn x y)) := by simp only [Builtin.min2, Sat.mn]
theorem max_two (ats : Array TypeId) (ty : TypeId) (a b : Value) : Builtin.max_ ats ty #[a, b] = (Builtin.max2 a b >>= fun s => pure s) := by simp only [Builtin.max_, List.foldlM_cons, List.foldlM_nil]
theorem min_two (ats : Array TypeId) (ty : TypeId) (a b : Value) : Builtin.min_ ats ty #[a, b] = (Builtin.min2 a b >>= fun s => pure s) := by simp only [Builtin.min_, List.foldlM_cons, List.foldlM_nil]
attribute [local go_sem] max2_mx min2_mn max_two min_two
theorem hid {p : Prop} (h : p) : Hid p := h
theorem ret_int {k : IntKind} {a b : Int} (h : a = b) : Ending.returned (.int k a) = .returned (.int k b) := by rw [h]
theorem ret_bool {a b : Bool} (h : a = b) : Ending.returned (.bool a) = .returned (.bool b) := by rw [h]
theorem below_via {B : Nat} {W X w1 : World} (hb : Below X.heap.size X w1) (h0 : Below B W X) (hB : B ≤ X.heap.size) : Below B W w1 := h0.trans (hb.mono hB)
set_option maxHeartbeats 400000 in
theorem len_calls (x : Nat) (hx : x < 18446744073709551616) (w : World) :
    Calls Try.prog 10 #[.int .u64 x] w fun e w' => e = .returned (.int .i64 (Bits.blen x)) ∧ w = w' := by
  have hx2 : x ≤ 18446744073709551615 := by omega
  have H64 := hid (Bits.blen_le64 hx)
  clear hx
  go_enter Try.func10, Try.ntmps10
  go_wp2_with fail
  go_loop [0, 3] (fun a n => ∃ y k : Nat, a = .int .u64 y ∧ n = .int .i64 k ∧ y ≤ 18446744073709551615 ∧ Hid (Bits.blen x = k + Bits.blen y)) (fun a _ => (intOf a).toNat)
  case atStart => exact ⟨x, 0, rfl, rfl, hx2, by show _ = _; omega⟩
  case round =>
    obtain ⟨y, k, rfl, rfl, hy, Hk⟩ := hrel
    by_cases h0 : y = 0
    · subst h0
      have fin : Hid ((k : Int) = (Bits.blen x : Int)) := by show _ = _; have := Hk.out; rw [Bits.blen_zero] at this; omega
      go_wp2_with fail
      go_ret
      exact ⟨ret_int fin.out, rfl⟩
    · have ht : ((y : Int) != 0) = true := by rw [bne_iff_ne]; omega
      have hk64 : k ≤ 64 := by have := Hk.out; have := H64.out; omega
      have H2 : Hid (Bits.blen x = k + 1 + Bits.blen (y / 2)) := by show _ = _; have := Hk.out; rw [Bits.blen_pos (x := y) (by omega)] at this; omega
      go_wp2_with fail
      go_round
      case rel => exact ⟨y / 2, k + 1, by go_num, by go_num, by omega, H2⟩
      case measure => simp [intOf]; omega
set_option maxHeartbeats 400000 in
theorem block_calls (t : Nat) (L : Int) (ht : t < 18446744073709551616) (hL0 : -9223372036854775808 ≤ L) (hL : L ≤ 9223372036854775807) (w : World) :
    Calls Try.prog 12 #[.int .u64 t, .int .i64 L] w fun e w' => e = .returned (.int .u64 (Bits.blk t L.toNat)) ∧ w = w' := by
  by_cases h : L < 1
  · have fin : Hid ((t : Int) = (Bits.blk t L.toNat : Int)) := by show _ = _; rw [show L.toNat = 0 from by omega, Bits.blk_zero]
    clear ht
    go_enter Try.func12, Try.ntmps12
    go_wp2
    go_ret
    exact ⟨ret_int fin.out, rfl⟩
  · have b1 : 1 ≤ Sat.mn L 12 := by unfold Sat.mn; split <;> omega
    have b3 : 0 ≤ 6 * Sat.mn L 12 := by omega
    have b2 : Sat.mn L 12 ≤ 12 := by unfold Sat.mn; split <;> omega
    have fin : Hid ((t : Int) / 2 ^ min (6 * Sat.mn L 12).toNat 64 = (Bits.blk t L.toNat : Int)) := by
      show _ = _
      have := Bits.shift_blk (c := (Sat.mn L 12).toNat) (l := L.toNat) ht (by unfold Sat.mn; (repeat' split) <;> omega)
      rw [← this, show (6 * Sat.mn L 12).toNat = 6 * (Sat.mn L 12).toNat from by omega]
      simp
    clear ht
    go_enter Try.func12, Try.ntmps12
    go_wp2
    go_ret
    exact ⟨ret_int fin.out, rfl⟩
set_option maxHeartbeats 400000 in
theorem slot_calls (t : Nat) (L : Int) (ht : t < 18446744073709551616) (hL0 : -9223372036854775808 ≤ L) (hL : L ≤ 9223372036854775807) (w : World) :
    Calls Try.prog 14 #[.int .u64 t, .int .i64 L] w fun e w' => e = .returned (.int .i64 (Bits.blk t L.toNat % 64 : Nat)) ∧ w = w' := by
  have H := hid (block_calls t L ht hL0 hL w)
  have fin := hid (Bits.and63 (Bits.blk t L.toNat) (Nat.lt_of_le_of_lt (Bits.blk_le _ _) ht))
  have b1 : 0 ≤ bits .and .u64 (Bits.blk t L.toNat : Int) 63 := by rw [fin.out]; omega
  have b2 : bits .and .u64 (Bits.blk t L.toNat : Int) 63 ≤ 63 := by rw [fin.out]; omega
  go_enter Try.func14, Try.ntmps14
  go_wp2_with (go_at_call 12; refine H.out.mono ?_; rintro e w' ⟨rfl, rfl⟩)
  go_ret
  exact ⟨ret_int fin.out, rfl⟩
set_option maxHeartbeats 1000000 in
theorem level_calls (a b : Nat) (ha : a < 18446744073709551616) (hb : b < 18446744073709551616) (w : World) :
    Calls Try.prog 16 #[.int .u64 a, .int .u64 b] w fun e w' => e = .returned (.int .i64 (Bits.lvl a b)) ∧ w = w' := by
  have Hx := hid (Bits.xor_u64 a b ha hb).1
  have hb := fun k : Int => block_calls (a ^^^ b) k (Bits.xor_u64 a b ha hb).2
  rw [← Hx.out] at hb
  have Hb := hid hb
  clear hb ha
  go_enter Try.func16, Try.ntmps16
  go_wp2_with fail
  go_loop [5] (fun n => ∃ k : Nat, n = .int .i64 k ∧ k ≤ 4 ∧ Hid (∀ j, j < k → Bits.blk a (j + 1) ≠ Bits.blk b (j + 1))) (fun n => 4 - (intOf n).toNat)
  case atStart => exact ⟨0, rfl, by omega, fun j hj => absurd hj (by omega)⟩
  case round =>
    obtain ⟨k, rfl, hk, Hk⟩ := hrel
    by_cases h4 : k < 4
    · by_cases hd : Bits.blk a (k + 1) = Bits.blk b (k + 1)
      · have hz : Hid (Bits.blk (a ^^^ b) ((k : Int) + 1).toNat = 0) := by show _ = _; rw [show ((k : Int) + 1).toNat = k + 1 from by omega, Bits.xor_blk]; exact hd
        have fin : Hid ((k : Int) = (Bits.lvl a b : Int)) := by show _ = _; rw [Bits.lvl_of hk Hk.out (fun _ => hd)]
        clear hd
        go_wp2_with fail
        refine (Hb.out _ (by omega) (by omega) _).mono ?_
        rintro e w' ⟨rfl, rfl⟩
        rw [hz.out]
        go_wp2_with fail
        go_ret
        exact ⟨ret_int fin.out, rfl⟩
      · have hz : ((Bits.blk (a ^^^ b) ((k : Int) + 1).toNat : Int) != 0) = true := by 
          rw [bne_iff_ne, show ((k : Int) + 1).toNat = k + 1 from by omega]
          have h2 : ¬ Bits.blk (a ^^^ b) (k + 1) = 0 := fun h => hd ((Bits.xor_blk a b (k + 1)).1 h)
          omega
        have H2 : Hid (∀ j, j < k + 1 → Bits.blk a (j + 1) ≠ Bits.blk b (j + 1)) := fun j hj => by
          by_cases e : j = k
          · subst e; exact hd
          · exact Hk.out j (by omega)
        clear hd
        go_wp2_with fail
        refine (Hb.out _ (by omega) (by omega) _).mono ?_
        rintro e w' ⟨rfl, rfl⟩
        generalize (Bits.blk (a ^^^ b) ((k : Int) + 1).toNat : Int) = z at *
        go_wp2_with fail
        go_round
        case rel => exact ⟨k + 1, by go_num, by omega, H2⟩
        case measure => simp [intOf]; omega
    · have fin : Hid ((k : Int) = (Bits.lvl a b : Int)) := by show _ = _; rw [Bits.lvl_of hk Hk.out (fun h => absurd h h4)]
      go_wp2_with fail
      go_ret
      exact ⟨ret_int fin.out, rfl⟩
/-- A number modulo 2^32, as a number from -2^31 on. -/
def narrow (n : Int) : Int := IntKind.i32.wrap n
theorem narrow_in (n : Int) : -2147483648 ≤ narrow n ∧ narrow n ≤ 2147483647 := by unfold narrow; rw [IntKind.wrap_i32]; omega
theorem narrow_eq {n : Int} : narrow n = n ↔ -2147483648 ≤ n ∧ n ≤ 2147483647 := by unfold narrow; rw [IntKind.wrap_i32]; omega
theorem ret_nar {a a' : Int} {b b' : Bool} (h : a = a') (h2 : b = b') : Ending.returned (.tuple #[.int .i32 a, .bool b]) = .returned (.tuple #[.int .i32 a', .bool b']) := by rw [h, h2]
theorem nar1 {n : Int} : wrap32 n = narrow n := by unfold narrow; rw [IntKind.wrap_i32]; unfold wrap32; omega
theorem nar2 {n : Int} : wrap64 (narrow n) = narrow n := by have := narrow_in n; unfold wrap64; omega
theorem nar0 (n : Int) : (IntKind.u64.wrap n).tmod 4294967296 = n % 4294967296 := by rw [Sat.wrap_u64, Int.tmod_eq_emod_of_nonneg (by omega)]; omega
theorem nar3 (n : Int) (h : 2147483648 ≤ wrap64 ((IntKind.u64.wrap n).tmod 4294967296)) : wrap32 (wrap64 (wrap64 ((IntKind.u64.wrap n).tmod 4294967296) - 4294967296)) = narrow n := by
  rw [nar0] at *; unfold narrow; rw [IntKind.wrap_i32]; unfold wrap32 wrap64 at *; omega
theorem nar4 (n : Int) (h : 2147483648 ≤ wrap64 ((IntKind.u64.wrap n).tmod 4294967296)) : wrap64 (wrap64 ((IntKind.u64.wrap n).tmod 4294967296) - 4294967296) = narrow n := by
  rw [nar0] at *; unfold narrow; rw [IntKind.wrap_i32]; unfold wrap64 at *; omega
theorem nar5 (n : Int) (h : ¬ 2147483648 ≤ wrap64 ((IntKind.u64.wrap n).tmod 4294967296)) : wrap32 (wrap64 ((IntKind.u64.wrap n).tmod 4294967296)) = narrow n := by
  rw [nar0] at *; unfold narrow; rw [IntKind.wrap_i32]; unfold wrap32 wrap64 at *; omega
theorem nar6 (n : Int) (h : ¬ 2147483648 ≤ wrap64 ((IntKind.u64.wrap n).tmod 4294967296)) : wrap64 ((IntKind.u64.wrap n).tmod 4294967296) = narrow n := by
  rw [nar0] at *; unfold narrow; rw [IntKind.wrap_i32]; unfold wrap64 at *; omega
set_option maxHeartbeats 400000 in
theorem narrow_calls (n : Int) (h0 : -9223372036854775808 ≤ n) (h1 : n ≤ 9223372036854775807) (w : World) :
    Calls Try.prog 19 #[.int .i64 n] w fun e w' => e = .returned (.tuple #[.int .i32 (narrow n), .bool (narrow n == n)]) ∧ w = w' := by
  go_enter Try.func19, Try.ntmps19
  go_wp2
  go_ret2
  exact ⟨ret_nar nar1 (by first | rfl | (rw [nar1, nar2])), rfl⟩
set_option maxHeartbeats 400000 in
theorem rnarrow_calls (n : Int) (h0 : -9223372036854775808 ≤ n) (h1 : n ≤ 9223372036854775807) (w : World) :
    Calls Try.prog 20 #[.int .i64 n] w fun e w' => e = .returned (.tuple #[.int .i32 (narrow n), .bool (narrow n == n)]) ∧ w = w' := by
  by_cases h : 2147483648 ≤ wrap64 ((IntKind.u64.wrap n).tmod 4294967296)
  · have F := hid (nar3 n h)
    have F2 := hid (nar4 n h)
    clear h0 h1
    go_enter Try.func20, Try.ntmps20
    go_wp2
    go_ret2
    exact ⟨ret_nar F.out (by rw [F2.out]), rfl⟩
  · have F := hid (nar5 n h)
    have F2 := hid (nar6 n h)
    clear h0 h1
    go_enter Try.func20, Try.ntmps20
    go_wp2
    go_ret2
    exact ⟨ret_nar F.out (by rw [F2.out]), rfl⟩
end Go.Proofs.Ytbhgkbljapfhcaa.C02
