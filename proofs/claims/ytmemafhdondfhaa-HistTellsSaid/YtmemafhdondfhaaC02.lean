/- What the functions Len, Block, Slot, Level, Narrow of the package bits and of its reference return. -/
import Derived.Test.YtmemafhdondfhaaProg
import Derived.Test.YtmemafhdondfhaaBits
import Derived.WalkKit
import Derived.KernelRfl
namespace Go.Proofs.Ytmemafhdondfhaa.C02
open Go.RowKit Go.Proofs.Ytmemafhdondfhaa
set_option linter.unusedVariables false
theorem max2_mx (k k' : IntKind) (x y : Int) : Builtin.max2 (.int k x) (.int k' y) = pure (.int k (Sat.mx x y)) := by simp only [Builtin.max2, gt_iff_lt, Sat.mx]
theorem min2_mn (k k' : IntKind) (x y : Int) : Builtin.min2 (.int k x) (.int k' y) = pure (.int k (Sat.mn x y)) := by simp only [Builtin.min2, Sat.mn]
theorem max_two (ats : Array TypeId) (ty : TypeId) (a b : Value) : Builtin.max_ ats ty #[a, b] = (Builtin.max2 a b >>= fun s => pure s) := by simp only [Builtin.max_, List.foldlM_cons, List.foldlM_nil]
theorem min_two (ats : Array TypeId) (ty : TypeId) (a b : Value) : Builtin.min_ ats ty #[a, b] = (Builtin.min2 a b >>= fun s => pure s) := by simp only [Builtin.min_, List.foldlM_cons, List.foldlM_nil]
attribute [local go_sem] max2_mx min2_mn max_two min_two
theorem hid {p : Prop} (h : p) : Hid p := h
theorem ret_int {k : IntKind} {a b : Int} (h : a = b) : Ending.returned (.int k a) = .returned (.int k b) := by rw [h]
theorem ret_bool {a b : Bool} (h : a = b) : Ending.returned (.bool a) = .returned (.bool b) := by rw [h]
theorem below_via {B : Nat} {W X w1 : World} (hb : Below X.heap.size X w1) (h0 : Below B W X) (hB : B ≤ X.heap.size) : Below B W w1 := h0.trans (hb.mono hB)
set_option maxHeartbeats 400000 in
theorem len_calls (x : Nat) (hx : x < 18446744073709551616) (w : World) :
    Calls Try.prog 23 #[.int .u64 x] w fun e w' => e = .returned (.int .i64 (Bits.blen x)) ∧ w = w' := by
  have hx2 : x ≤ 18446744073709551615 := by omega
  have H64 := hid (Bits.blen_le64 hx)
  clear hx
  go_enter Try.func23, Try.ntmps23
  go_wp2_with fail
  go_loop [0, 3] (fun a n => ∃ y k : Nat, a = .int .u64 y ∧ n = .int .i64 k ∧ y ≤ 18446744073709551615 ∧ Hid (Bits.blen x = k + Bits.blen y)) (fun a _ => (intOf a).toNat)
  case atStart => exact ⟨x, 0, rfl, rfl, hx2, by show _ = _; omega⟩
  case round =>
    obtain ⟨y, k, rfl, rfl, hy, Hk⟩ := hrel
    by_cases h0 : y = 0
    · subst h0
      have fin : Hid ((k : Int) = (Bits.blen x : Int)) := by show _ = _; have := Hk.out; rw [Bits.blen_zero] at this; omega
      go_wp2_with fail
      go_ret
      exact ⟨ret_int fin.out, rfl⟩
    · have ht : ((y : Int) != 0) = true := by rw [bne_iff_ne]; omega
      have hk64 : k ≤ 64 := by have := Hk.out; have := H64.out; omega
      have H2 : Hid (Bits.blen x = k + 1 + Bits.blen (y / 2)) := by show _ = _; have := Hk.out; rw [Bits.blen_pos (x := y) (by omega)] at this; omega
      go_wp2_with fail
      go_round
      case rel => exact ⟨y / 2, k + 1, by go_num, by go_num, by omega, H2⟩
      case measure => simp [intOf]; omega
/-- A number modulo 2^32, as a number from -2^31 on. -/
def narrow (n : Int) : Int := IntKind.i32.wrap n
theorem narrow_in (n : Int) : -2147483648 ≤ narrow n ∧ narrow n ≤ 2147483647 := by unfold narrow; rw [IntKind.wrap_i32]; omega
theorem narrow_eq {n : Int} : narrow n = n ↔ -2147483648 ≤ n ∧ n ≤ 2147483647 := by unfold narrow; rw [IntKind.wrap_i32]; omega
theorem ret_nar {a a' : Int} {b b' : Bool} (h : a = a') (h2 : b = b') : Ending.returned (.tuple #[.int .i32 a, .bool b]) = .returned (.tuple #[.int .i32 a', .bool b']) := by rw [h, h2]
theorem nar1 {n : Int} : wrap32 n = narrow n := by unfold narrow; rw [IntKind.wrap_i32]; unfold wrap32; omega
theorem nar2 {n : Int} : wrap64 (narrow n) = narrow n := by have := narrow_in n; unfold wrap64; omega
theorem nar0 (n : Int) : (IntKind.u64.wrap n).tmod 4294967296 = n % 4294967296 := by rw [Sat.wrap_u64, Int.tmod_eq_emod_of_nonneg (by omega)]; omega
theorem nar3 (n : Int) (h : 2147483648 ≤ wrap64 ((IntKind.u64.wrap n).tmod 4294967296)) : wrap32 (wrap64 (wrap64 ((IntKind.u64.wrap n).tmod 4294967296) - 4294967296)) = narrow n := by
  rw [nar0] at *; unfold narrow; rw [IntKind.wrap_i32]; unfold wrap32 wrap64 at *; omega
theorem nar4 (n : Int) (h : 2147483648 ≤ wrap64 ((IntKind.u64.wrap n).tmod 4294967296)) : wrap64 (wrap64 ((IntKind.u64.wrap n).tmod 4294967296) - 4294967296) = narrow n := by
  rw [nar0] at *; unfold narrow; rw [IntKind.wrap_i32]; unfold wrap64 at *; omega
theorem nar5 (n : Int) (h : ¬ 2147483648 ≤ wrap64 ((IntKind.u64.wrap n).tmod 4294967296)) : wrap32 (wrap64 ((IntKind.u64.wrap n).tmod 4294967296)) = narrow n := by
  rw [nar0] at *; unfold narrow; rw [IntKind.wrap_i32]; unfold wrap32 wrap64 at *; omega
theorem nar6 (n : Int) (h : ¬ 2147483648 ≤ wrap64 ((IntKind.u64.wrap n).tmod 4294967296)) : wrap64 ((IntKind.u64.wrap n).tmod 4294967296) = narrow n := by
  rw [nar0] at *; unfold narrow; rw [IntKind.wrap_i32]; unfold wrap64 at *; omega
end Go.Proofs.Ytmemafhdondfhaa.C02
