/- What the functions of the package sat return, whatever 64-bit numbers they are handed: the capped sum, difference, product, and whether a part is at least a percent. -/
import Derived.Test.YtmemafhdondfhaaProg
import Derived.Test.YtmemafhdondfhaaSat
import Derived.WalkKit
import Derived.KernelRfl

namespace Go.Proofs.Ytmemafhdondfhaa.C01
open Go.RowKit Go.Proofs.Ytmemafhdondfhaa
set_option linter.unusedVariables false
theorem max2_int (k k' : IntKind) (x y : Int) : Builtin.max2 (.int k x) (.int k' y) = pure (.int k (if x < y then y else x)) := by simp only [Builtin.max2, gt_iff_lt]
theorem min2_int (k k' : IntKind) (x y : Int) : Builtin.min2 (.int k x) (.int k' y) = pure (.int k (if y < x then y else x)) := by simp only [Builtin.min2]
theorem max_two (ats : Array TypeId) (ty : TypeId) (a b : Value) : Builtin.max_ ats ty #[a, b] = (Builtin.max2 a b >>= fun s => pure s) := by simp only [Builtin.max_, List.foldlM_cons, List.foldlM_nil]
theorem min_two (ats : Array TypeId) (ty : TypeId) (a b : Value) : Builtin.min_ ats ty #[a, b] = (Builtin.min2 a b >>= fun s => pure s) := by simp only [Builtin.min_, List.foldlM_cons, List.foldlM_nil]
/-- The same, with the result kept under a name of its own. -/
theorem max2_mx (k k' : IntKind) (x y : Int) : Builtin.max2 (.int k x) (.int k' y) = pure (.int k (Sat.mx x y)) := max2_int k k' x y
theorem min2_mn (k k' : IntKind) (x y : Int) : Builtin.min2 (.int k x) (.int k' y) = pure (.int k (Sat.mn x y)) := min2_int k k' x y
section
attribute [local go_sem] max2_int min2_int max_two min_two
theorem hid {p : Prop} (h : p) : Hid p := h
theorem below_via {B : Nat} {W X w1 : World} (hb : Below X.heap.size X w1) (h0 : Below B W X) (hB : B ≤ X.heap.size) : Below B W w1 := h0.trans (hb.mono hB)
theorem ret_int {k : IntKind} {a b : Int} (h : a = b) : Ending.returned (.int k a) = .returned (.int k b) := by rw [h]
theorem ret_int2 {k k' : IntKind} {a b a' b' : Int} (h : a = a') (h2 : b = b') : Ending.returned (.tuple #[.int k a, .int k' b]) = .returned (.tuple #[.int k a', .int k' b']) := by rw [h, h2]
theorem ret_bool {a b : Bool} (h : a = b) : Ending.returned (.bool a) = .returned (.bool b) := by rw [h]

set_option maxHeartbeats 400000 in
theorem add_calls (a b : Int) (ha0 : 0 ≤ a) (ha : a < 18446744073709551616) (hb0 : 0 ≤ b) (hb : b < 18446744073709551616) (w : World) :
    Calls Try.prog 25 #[.int .u64 a, .int .u64 b] w fun e w' => e = .returned (.int .u64 (Sat.add a b)) ∧ w = w' := by
  have fin : ∀ x y : Int, x = IntKind.u64.wrap (18446744073709551615 - a) → y = (if x < b then x else b) → IntKind.u64.wrap (a + y) = Sat.add a b := by
    intro x y hx hy
    rw [Sat.wrap_u64] at hx ⊢
    subst hx hy
    unfold Sat.add
    (repeat' split) <;> omega
  have Fin : Hid (∀ x y : Int, x = IntKind.u64.wrap (18446744073709551615 - a) → y = (if x < b then x else b) → IntKind.u64.wrap (a + y) = Sat.add a b) := fin
  clear fin ha0 ha hb0 hb
  go_enter Try.func25, Try.ntmps25
  go_wp2
  all_goals
    go_ret
    exact ⟨ret_int (Fin.out _ _ rfl (by split <;> first | rfl | omega)), rfl⟩

/-- What 'wide' reckons, before any wrap is struck. -/
theorem wide_num (a b : Int) (ha0 : 0 ≤ a) (ha : a < 18446744073709551616) (hb0 : 0 ≤ b) (hb : b < 18446744073709551616) :
    ∀ ll lh hl hh mid : Int, ll = IntKind.u64.wrap (bits .and .u64 a 4294967295 * bits .and .u64 b 4294967295) → lh = IntKind.u64.wrap (bits .and .u64 a 4294967295 * (b / 4294967296)) → hl = IntKind.u64.wrap (a / 4294967296 * bits .and .u64 b 4294967295) → hh = IntKind.u64.wrap (a / 4294967296 * (b / 4294967296)) →
      mid = IntKind.u64.wrap (IntKind.u64.wrap (ll / 4294967296 + bits .and .u64 lh 4294967295) + bits .and .u64 hl 4294967295) →
      IntKind.u64.wrap (IntKind.u64.wrap (IntKind.u64.wrap (hh + lh / 4294967296) + hl / 4294967296) + mid / 4294967296) = a * b / 18446744073709551616 ∧
      bits .or .u64 (IntKind.u64.wrap (mid * 4294967296)) (bits .and .u64 ll 4294967295) = a * b % 18446744073709551616 := by
  intro ll lh hl hh mid e1 e2 e3 e4 e5
  obtain ⟨ll', lh', hl', hh', g1, g2, g3, g4, a1, a2, b1, b2, c1, c2, d1, d2, hP, hU⟩ := Sat.wide_parts ha0 ha hb0 hb
  generalize a * b = P at hP hU ⊢
  rw [Sat.and_low a ha0 ha, Sat.and_low b hb0 hb, g1, Sat.u64_in a1 (by omega)] at e1
  rw [Sat.and_low a ha0 ha, g2, Sat.u64_in b1 (by omega)] at e2
  rw [Sat.and_low b hb0 hb, g3, Sat.u64_in c1 (by omega)] at e3
  rw [g4, Sat.u64_in d1 (by omega)] at e4
  clear g1 g2 g3 g4
  subst e1 e2 e3 e4
  rw [Sat.and_low lh b1 (by omega), Sat.and_low hl c1 (by omega)] at e5
  have m1 : mid = ll / 4294967296 + lh % 4294967296 + hl % 4294967296 := by rw [e5, Sat.wrap_u64, Sat.wrap_u64]; omega
  clear e5
  rw [Sat.and_low ll a1 (by omega), Sat.or_low _ _ (by rw [Sat.wrap_u64]; omega) (by rw [Sat.wrap_u64]; omega) (by rw [Sat.wrap_u64]; omega) (by omega) (by omega)]
  simp only [Sat.wrap_u64]
  constructor <;> omega

set_option maxHeartbeats 1000000 in
theorem wide_calls (a b : Int) (ha0 : 0 ≤ a) (ha : a < 18446744073709551616) (hb0 : 0 ≤ b) (hb : b < 18446744073709551616) (w : World) :
    Calls Try.prog 32 #[.int .u64 a, .int .u64 b] w fun e w' => e = .returned (.tuple #[.int .u64 (a * b / 18446744073709551616), .int .u64 (a * b % 18446744073709551616)]) ∧ w = w' := by
  have Fin := hid (wide_num a b ha0 ha hb0 hb)
  clear ha0 ha hb0 hb
  go_enter Try.func32, Try.ntmps32
  go_wp2
  go_ret2
  exact ⟨ret_int2 (Fin.out _ _ _ _ _ rfl rfl rfl rfl rfl).1 (Fin.out _ _ _ _ _ rfl rfl rfl rfl rfl).2, rfl⟩

/-- What AtLeast's comparison of two wide numbers comes to. -/
theorem atl_num (x y : Int) (hx : 0 ≤ x) (hy : 0 ≤ y) : (decide (y / 18446744073709551616 < x / 18446744073709551616) || (x / 18446744073709551616 == y / 18446744073709551616 && decide (y % 18446744073709551616 ≤ x % 18446744073709551616))) = decide (y ≤ x) := by
  rw [Bool.eq_iff_iff]
  simp only [Bool.or_eq_true, Bool.and_eq_true, decide_eq_true_eq, beq_iff_eq]
  omega
set_option maxHeartbeats 1000000 in
theorem atLeast_core (a b p q xh xl yh yl : Int) (r : Bool) (hp0 : -9223372036854775808 ≤ p) (hp : p ≤ 9223372036854775807) (hq : p < 0 ∧ q = 0 ∨ 0 ≤ p ∧ q = p) (w : World)
    (Hc1 : Hid (Calls Try.prog 32 #[.int .u64 a, .int .u64 100] w fun e w' => e = .returned (.tuple #[.int .u64 xh, .int .u64 xl]) ∧ w = w'))
    (Hc2 : Hid (Calls Try.prog 32 #[.int .u64 b, .int .u64 q] w fun e w' => e = .returned (.tuple #[.int .u64 yh, .int .u64 yl]) ∧ w = w'))
    (fin : Hid ((decide (yh < xh) || (xh == yh && decide (yl ≤ xl))) = r)) :
    Calls Try.prog 26 #[.int .u64 a, .int .u64 b, .int .i64 p] w fun e w' => e = .returned (.bool r) ∧ w = w' := by
  rcases hq with ⟨h1, h2⟩ | ⟨h1, h2⟩
  all_goals
    subst h2
    go_enter Try.func26, Try.ntmps26
    go_wp2_with fail
    refine Hc1.out.mono ?_
    rintro e w' ⟨rfl, rfl⟩
    go_wp2_with fail
    refine Hc2.out.mono ?_
    rintro e w' ⟨rfl, rfl⟩
    by_cases c1 : yh < xh
    · go_wp2
      go_ret
      exact ⟨ret_bool (by rw [← fin.out, decide_eq_true c1]; rfl), rfl⟩
    · by_cases c2 : (xh == yh) = true
      · go_wp2
        go_ret
        exact ⟨ret_bool (by rw [← fin.out, c2]; simp), rfl⟩
      · replace c2 : (xh == yh) = false := by simpa using c2
        go_wp2
        go_ret
        exact ⟨ret_bool (by rw [← fin.out, c2]; simp), rfl⟩
theorem atLeast_calls (a b p : Int) (ha0 : 0 ≤ a) (ha : a < 18446744073709551616) (hb0 : 0 ≤ b) (hb : b < 18446744073709551616) (hp0 : -9223372036854775808 ≤ p) (hp : p ≤ 9223372036854775807) (w : World) :
    Calls Try.prog 26 #[.int .u64 a, .int .u64 b, .int .i64 p] w fun e w' => e = .returned (.bool (Sat.atl a b p)) ∧ w = w' := by
  have p0 : 0 ≤ Sat.pos p ∧ Sat.pos p < 18446744073709551616 := by unfold Sat.pos; split <;> omega
  refine atLeast_core a b p (Sat.pos p) _ _ _ _ _ hp0 hp (by unfold Sat.pos; split <;> omega) w (hid (wide_calls a 100 ha0 ha (by omega) (by omega) w)) (hid (wide_calls b (Sat.pos p) hb0 hb p0.1 p0.2 w)) ?_
  have nx : 0 ≤ a * 100 := by omega
  have ny : 0 ≤ b * Sat.pos p := Int.mul_nonneg hb0 p0.1
  show _ = _
  rw [atl_num (a * 100) (b * Sat.pos p) nx ny]
  unfold Sat.atl
  rw [Int.mul_comm b, Int.mul_comm a]
end
/-- What an operand slice of 64-bit numbers holds: the numbers l, at the address A. -/
def RowAt (w : World) (A : Option Addr) (l : List Int) : Prop := l = [] ∨ ∃ b o, A = some ⟨b, o, none⟩ ∧ ∀ i, i < l.length → w.cell? ⟨b, o + i, none⟩ = some (.int .u64 (l.getD i 0))
theorem foldl_take (l : List Int) (k : Nat) (h : k < l.length) : (l.take (k + 1)).foldl Sat.add 0 = Sat.add ((l.take k).foldl Sat.add 0) (l.getD k 0) := by
  rw [List.take_succ_eq_append_getElem h, List.foldl_append, List.getD_eq_getElem?_getD, List.getElem?_eq_getElem h]
  rfl
theorem foldl_bd (l : List Int) (k : Nat) (hx : ∀ x ∈ l, 0 ≤ x ∧ x < 18446744073709551616) : 0 ≤ (l.take k).foldl Sat.add 0 ∧ (l.take k).foldl Sat.add 0 < 18446744073709551616 :=
  Sat.foldl_in _ (fun x h => (hx x (List.mem_of_mem_take h)).1) 0 (by omega) (by omega)
theorem getD_bd (l : List Int) (k : Nat) (h : k < l.length) (hx : ∀ x ∈ l, 0 ≤ x ∧ x < 18446744073709551616) : 0 ≤ l.getD k 0 ∧ l.getD k 0 < 18446744073709551616 := by
  rw [List.getD_eq_getElem?_getD, List.getElem?_eq_getElem h]
  exact hx _ (List.getElem_mem h)
set_option maxHeartbeats 1000000 in
theorem sum_calls (l : List Int) (A : Option Addr) (c : Nat) (w : World) (hl : l.length ≤ 1152921504606846976) (hx : ∀ x ∈ l, 0 ≤ x ∧ x < 18446744073709551616) (hr : RowAt w A l) :
    Calls Try.prog 24 #[.slice A l.length c] w fun e w' => e = .returned (.int .u64 (Sat.sum l)) ∧ w = w' := by
  rcases hr with rfl | ⟨b, o, rfl, hr⟩
  · go_enter Try.func24, Try.ntmps24
    go_wp2_with fail
    refine wp_loop_rounds 1 ?_
    rw [rounds_succ]
    go_wp2_with fail
    go_ret
    exact ⟨rfl, rfl⟩
  · have Hx := hid hx
    have Hr := hid hr
    clear hx hr
    go_enter Try.func24, Try.ntmps24
    go_wp2_with fail
    go_loop [3, 8] (fun s i => ∃ k : Nat, k ≤ l.length ∧ i = .int .i64 k ∧ s = .int .u64 ((l.take k).foldl Sat.add 0)) (fun _ i => l.length - (intOf i).toNat)
    case atStart => exact ⟨0, Nat.zero_le _, rfl, rfl⟩
    case round =>
      obtain ⟨k, hk, rfl, rfl⟩ := hrel
      by_cases hlt : k < l.length
      · have hcell := Hr.out k hlt
        have Hs := hid (foldl_take l k hlt)
        have Hadd := hid (fun w => add_calls ((l.take k).foldl Sat.add 0) (l.getD k 0) (foldl_bd l k Hx.out).1 (foldl_bd l k Hx.out).2 (getD_bd l k hlt Hx.out).1 (getD_bd l k hlt Hx.out).2 w)
        generalize l.getD k 0 = x at *
        generalize (l.take k).foldl Sat.add 0 = s at *
        go_wp2_with (go_at_call 25; refine (Hadd.out _).mono ?_; rintro e w' ⟨rfl, rfl⟩)
        go_round
        case rel => exact ⟨k + 1, by omega, by go_num, by rw [Hs.out]⟩
        case measure => simp [intOf]; omega
      · have hs : Hid ((l.take k).foldl Sat.add 0 = Sat.sum l) := by show _ = _; rw [List.take_of_length_le (by omega)]; rfl
        generalize (l.take k).foldl Sat.add 0 = s at *
        go_wp2_with fail
        go_ret
        exact ⟨ret_int hs.out, rfl⟩
end Go.Proofs.Ytmemafhdondfhaa.C01
