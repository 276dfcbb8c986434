/- Plain numbers: what 'as large as 64 bits at most' does to sums, differences and products; no program in sight. -/
import Derived.RowKit
import Derived.Laws.BitsLemmas
namespace Go.Proofs.Ytmemafhdondfhaa.Sat
set_option linter.unusedVariables false

theorem wrap_u64 (n : Int) : IntKind.u64.wrap n = n % 18446744073709551616 := by simp [IntKind.wrap, IntKind.bits, IntKind.signed]
theorem wraps_u64 (n : Int) (h0 : 0 ≤ n) (h1 : n < 2 ^ 64) : IntKind.u64.wrap n = n := by rw [wrap_u64]; omega
theorem u64_in {n : Int} (h0 : 0 ≤ n) (h1 : n < 18446744073709551616) : IntKind.u64.wrap n = n := by rw [wrap_u64]; omega
theorem and_low (x : Int) (h0 : 0 ≤ x) (h1 : x < 18446744073709551616) : bits .and .u64 x 4294967295 = x % 4294967296 :=
  bits_mask .u64 64 (by decide) wraps_u64 32 (by decide) x h0 (by omega)
theorem or_low (x y : Int) (hx0 : 0 ≤ x) (hx : x % 4294967296 = 0) (hx1 : x < 18446744073709551616) (h0 : 0 ≤ y) (h1 : y < 4294967296) : bits .or .u64 x y = x + y :=
  bits_join .u64 64 (by decide) wraps_u64 32 x y hx0 hx (by omega) h0 (by omega) (by omega)
theorem wf_u64 {x : Int} (h : (Lit.int .u64 x).wf = true) : 0 ≤ x ∧ x < 18446744073709551616 := by
  have h2 : IntKind.u64.min ≤ x ∧ x ≤ IntKind.u64.max := by simpa [Lit.wf] using h
  have e1 : IntKind.u64.min = 0 := by decide
  have e2 : IntKind.u64.max = 18446744073709551615 := by decide
  rw [e1, e2] at h2
  omega
theorem wf_i64 {x : Int} (h : (Lit.int .i64 x).wf = true) : -9223372036854775808 ≤ x ∧ x ≤ 9223372036854775807 := by
  have h2 : IntKind.i64.min ≤ x ∧ x ≤ IntKind.i64.max := by simpa [Lit.wf] using h
  have e1 : IntKind.i64.min = -9223372036854775808 := by decide
  have e2 : IntKind.i64.max = 9223372036854775807 := by decide
  rw [e1, e2] at h2
  exact h2
theorem wf_u8 {x : Int} (h : (Lit.int .u8 x).wf = true) : 0 ≤ x ∧ x < 256 := by
  have h2 : IntKind.u8.min ≤ x ∧ x ≤ IntKind.u8.max := by simpa [Lit.wf] using h
  have e1 : IntKind.u8.min = 0 := by decide
  have e2 : IntKind.u8.max = 255 := by decide
  rw [e1, e2] at h2
  omega

def add (a b : Int) : Int := if a + b < 18446744073709551616 then a + b else 18446744073709551615
def sub (a b : Int) : Int := if b ≤ a then a - b else 0
def mul (a b : Int) : Int := if a * b < 18446744073709551616 then a * b else 18446744073709551615
def sum (l : List Int) : Int := l.foldl add 0
def pos (p : Int) : Int := if 0 ≤ p then p else 0
def atl (part whole percent : Int) : Bool := decide (pos percent * whole ≤ 100 * part)

theorem add_in {a b : Int} (ha : 0 ≤ a) (hb : 0 ≤ b) : 0 ≤ add a b ∧ add a b < 18446744073709551616 := by unfold add; split <;> omega
theorem add_comm (a b : Int) : add a b = add b a := by unfold add; rw [Int.add_comm]
theorem add_zero {a : Int} (ha : 0 ≤ a) (h1 : a < 18446744073709551616) : add a 0 = a := by unfold add; split <;> omega
theorem zero_add {a : Int} (ha : 0 ≤ a) (h1 : a < 18446744073709551616) : add 0 a = a := by unfold add; split <;> omega
theorem add_assoc {a b c : Int} (ha : 0 ≤ a) (hb : 0 ≤ b) (hc : 0 ≤ c) : add (add a b) c = add a (add b c) := by
  unfold add
  (repeat' split) <;> omega
theorem add_right_comm {a b c : Int} (ha : 0 ≤ a) (hb : 0 ≤ b) (hc : 0 ≤ c) : add (add a b) c = add (add a c) b := by
  rw [add_assoc ha hb hc, add_comm b c, ← add_assoc ha hc hb]
/-- A sum is what all are together, or the greatest number. -/
def cap (n : Int) : Int := if n < 18446744073709551616 then n else 18446744073709551615
theorem add_cap {n b : Int} (hn : 0 ≤ n) (hb : 0 ≤ b) : add (cap n) b = cap (n + b) := by
  unfold add cap
  (repeat' split) <;> omega
theorem foldl_cap (l : List Int) : ∀ n, 0 ≤ n → (∀ x ∈ l, 0 ≤ x) → l.foldl add (cap n) = cap (n + l.sum) := by
  induction l with
  | nil => intro n _ _; simp
  | cons x l ih =>
    intro n hn h
    have hx : 0 ≤ x := h x (List.mem_cons_self)
    rw [List.foldl_cons, add_cap hn hx, ih (n + x) (by omega) (fun y hy => h y (List.mem_cons_of_mem _ hy)), List.sum_cons, Int.add_assoc]
theorem sum_cap {l : List Int} (h : ∀ x ∈ l, 0 ≤ x) : sum l = cap l.sum := by
  have := foldl_cap l 0 (by omega) h
  rw [Int.zero_add] at this
  exact this
theorem list_sum_nonneg {l : List Int} (h : ∀ x ∈ l, 0 ≤ x) : 0 ≤ l.sum := by
  induction l with
  | nil => simp
  | cons x l ih =>
    have hx : 0 ≤ x := h x (List.mem_cons_self)
    have := ih (fun y hy => h y (List.mem_cons_of_mem _ hy))
    rw [List.sum_cons]; omega
theorem cap_in {n : Int} (h : 0 ≤ n) : 0 ≤ cap n ∧ cap n < 18446744073709551616 := by unfold cap; split <;> omega
theorem foldl_in (l : List Int) (h : ∀ x ∈ l, 0 ≤ x) : ∀ s, 0 ≤ s → s < 18446744073709551616 → 0 ≤ l.foldl add s ∧ l.foldl add s < 18446744073709551616 := by
  induction l with
  | nil => intro s h0 h1; exact ⟨h0, h1⟩
  | cons x l ih =>
    intro s h0 h1
    have hx : 0 ≤ x := h x (List.mem_cons_self)
    exact ih (fun y hy => h y (List.mem_cons_of_mem _ hy)) _ (add_in h0 hx).1 (add_in h0 hx).2
theorem sum_in {l : List Int} (h : ∀ x ∈ l, 0 ≤ x) : 0 ≤ sum l ∧ sum l < 18446744073709551616 := foldl_in l h 0 (by omega) (by omega)
theorem sum_reverse {l : List Int} (h : ∀ x ∈ l, 0 ≤ x) : sum l.reverse = sum l := by
  rw [sum_cap h, sum_cap (l := l.reverse) (fun x hx => h x (List.mem_reverse.1 hx)), List.sum_reverse]

theorem mul_bd {x y X Y : Int} (hx : 0 ≤ x) (hX : x ≤ X) (hy : 0 ≤ y) (hY : y ≤ Y) : 0 ≤ x * y ∧ x * y ≤ X * Y :=
  ⟨Int.mul_nonneg hx hy, Int.le_trans (Int.mul_le_mul_of_nonneg_right hX hy) (Int.mul_le_mul_of_nonneg_left hY (by omega))⟩

/-- Two numbers multiplied, out of their halves' products. -/
theorem wide_parts {a b : Int} (ha0 : 0 ≤ a) (ha : a < 18446744073709551616) (hb0 : 0 ≤ b) (hb : b < 18446744073709551616) :
    ∃ ll lh hl hh : Int, (a % 4294967296) * (b % 4294967296) = ll ∧ (a % 4294967296) * (b / 4294967296) = lh ∧ (a / 4294967296) * (b % 4294967296) = hl ∧ (a / 4294967296) * (b / 4294967296) = hh ∧
      0 ≤ ll ∧ ll ≤ 18446744065119617025 ∧ 0 ≤ lh ∧ lh ≤ 18446744065119617025 ∧ 0 ≤ hl ∧ hl ≤ 18446744065119617025 ∧ 0 ≤ hh ∧ hh ≤ 18446744065119617025 ∧
      a * b = hh * 18446744073709551616 + (lh + hl) * 4294967296 + ll ∧ a * b ≤ 340282366920938463426481119284349108225 := by
  have h1 := mul_bd (x := a % 4294967296) (y := b % 4294967296) (X := 4294967295) (Y := 4294967295) (by omega) (by omega) (by omega) (by omega)
  have h2 := mul_bd (x := a % 4294967296) (y := b / 4294967296) (X := 4294967295) (Y := 4294967295) (by omega) (by omega) (by omega) (by omega)
  have h3 := mul_bd (x := a / 4294967296) (y := b % 4294967296) (X := 4294967295) (Y := 4294967295) (by omega) (by omega) (by omega) (by omega)
  have h4 := mul_bd (x := a / 4294967296) (y := b / 4294967296) (X := 4294967295) (Y := 4294967295) (by omega) (by omega) (by omega) (by omega)
  have h5 := mul_bd (x := a) (y := b) (X := 18446744073709551615) (Y := 18446744073709551615) (by omega) (by omega) (by omega) (by omega)
  refine ⟨_, _, _, _, rfl, rfl, rfl, rfl, h1.1, h1.2, h2.1, h2.2, h3.1, h3.2, h4.1, h4.2, ?_, h5.2⟩
  have ea : a = (a / 4294967296) * 4294967296 + a % 4294967296 := by omega
  have eb : b = (b / 4294967296) * 4294967296 + b % 4294967296 := by omega
  generalize a / 4294967296 = ah at *
  generalize a % 4294967296 = al at *
  generalize b / 4294967296 = bh at *
  generalize b % 4294967296 = bl at *
  subst ea eb
  rw [Int.add_mul, Int.mul_add, Int.mul_add]
  have e1 : ah * 4294967296 * (bh * 4294967296) = ah * bh * 18446744073709551616 := by
    rw [Int.mul_assoc, Int.mul_left_comm 4294967296 bh, ← Int.mul_assoc]; rfl
  have e2 : ah * 4294967296 * bl = ah * bl * 4294967296 := by rw [Int.mul_assoc, Int.mul_comm 4294967296 bl, ← Int.mul_assoc]
  have e3 : al * (bh * 4294967296) = al * bh * 4294967296 := by rw [Int.mul_assoc]
  rw [e1, e2, e3]
  omega

/-- The greater and the smaller of two numbers, kept as they are in a walk. -/
def mx (a b : Int) : Int := if a < b then b else a
def mn (a b : Int) : Int := if b < a then b else a
theorem mx_ge (a b : Int) : a ≤ mx a b ∧ b ≤ mx a b := by unfold mx; split <;> omega
theorem mn_le (a b : Int) : mn a b ≤ a ∧ mn a b ≤ b := by unfold mn; split <;> omega
theorem mx_or (a b : Int) : mx a b = a ∨ mx a b = b := by unfold mx; split <;> omega
theorem mn_or (a b : Int) : mn a b = a ∨ mn a b = b := by unfold mn; split <;> omega
end Go.Proofs.Ytmemafhdondfhaa.Sat
