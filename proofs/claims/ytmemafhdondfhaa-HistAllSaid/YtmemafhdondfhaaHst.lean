/- Plain: longest times of bins, running sums of bins, the first bin by which a percent is reached; no program in sight. -/
import Derived.Test.YtmemafhdondfhaaWinLaw
import Derived.Test.YtmemafhdondfhaaBits
namespace Go.Proofs.Ytmemafhdondfhaa.Hst
open Go.Proofs.Ytmemafhdondfhaa Go.Proofs.Ytmemafhdondfhaa.Win
set_option linter.unusedVariables false
set_option linter.unusedSimpArgs false
set_option linter.unnecessarySimpa false
/-- The longest time of a bin. -/
def top (k : Nat) : Int := ((2 ^ k - 1 : Nat) : Int)
theorem top_in {k : Nat} (h : k ≤ 64) : 0 ≤ top k ∧ top k ≤ 18446744073709551615 := by
  have : 2 ^ k ≤ 2 ^ 64 := Nat.pow_le_pow_right (by omega) h
  have h0 := Nat.two_pow_pos k
  unfold top
  omega
theorem top_lt {a b : Nat} (h : a < b) : top a < top b := by
  have : 2 ^ a < 2 ^ b := Nat.pow_lt_pow_right (by omega) h
  have h0 := Nat.two_pow_pos a
  unfold top
  omega
theorem top_le {a b : Nat} (h : a ≤ b) : top a ≤ top b := by
  rcases Nat.lt_or_eq_of_le h with h | rfl
  · exact Int.le_of_lt (top_lt h)
  · exact Int.le_refl _
theorem top_zero : top 0 = 0 := by decide
theorem top_succ (k : Nat) : top (k + 1) = 2 * top k + 1 := by
  have h0 := Nat.two_pow_pos k
  unfold top
  rw [Nat.pow_succ]
  omega
/-- A time is at most the longest of a bin if and only if its own bin is no later one. -/
theorem le_top (x k : Nat) : (x : Int) ≤ top k ↔ Bits.blen x ≤ k := by
  have h0 := Nat.two_pow_pos k
  constructor
  · intro h
    apply Bits.blen_le
    unfold top at h
    omega
  · intro h
    have h1 := Bits.blen_lt x
    have h2 : 2 ^ Bits.blen x ≤ 2 ^ k := Nat.pow_le_pow_right (by omega) h
    unfold top
    omega
/-- The sum of the first bins. -/
def run (f : Nat → Int) (k : Nat) : Int := (List.range k).foldl (fun s i => Sat.add s (f i)) 0
theorem run_zero (f : Nat → Int) : run f 0 = 0 := rfl
theorem run_succ (f : Nat → Int) (k : Nat) : run f (k + 1) = Sat.add (run f k) (f k) := by unfold run; rw [List.range_succ, List.foldl_append]; rfl
theorem rn_in {f : Nat → Int} (h : ∀ i, 0 ≤ f i) (k : Nat) : 0 ≤ run f k ∧ run f k < 18446744073709551616 := by
  induction k with
  | zero => rw [run_zero]; omega
  | succ k ih => rw [run_succ]; exact Sat.add_in ih.1 (h k)
theorem run_sum (f : Nat → Int) (k : Nat) : Sat.sum ((List.range k).map f) = run f k := by unfold Sat.sum run; rw [List.foldl_map]
theorem run_congr {f g : Nat → Int} {k : Nat} (h : ∀ i, i < k → f i = g i) : run f k = run g k := by
  induction k with
  | zero => rfl
  | succ k ih => rw [run_succ, run_succ, ih fun i hi => h i (by omega), h k (by omega)]
/-- The first number from k on, of m ones, that a test lets by. -/
def first (g : Nat → Bool) : Nat → Nat → Option Nat
  | 0, _ => none
  | m + 1, k => if g k then some k else first g m (k + 1)
theorem first_of {g : Nat → Bool} (i : Nat) (hi : g i = true) : ∀ (m k : Nat), k ≤ i → i < k + m → (∀ j, k ≤ j → j < i → g j = false) → first g m k = some i := by
  intro m
  induction m with
  | zero => intro k h1 h2; omega
  | succ m ih =>
    intro k h1 h2 h3
    unfold first
    by_cases hk : k = i
    · subst hk; rw [if_pos hi]
    · rw [if_neg (by rw [h3 k (Nat.le_refl _) (by omega)]; simp)]
      exact ih (k + 1) (by omega) (by omega) fun j a b => h3 j (by omega) b
theorem first_none {g : Nat → Bool} : ∀ (m k : Nat), (∀ j, k ≤ j → j < k + m → g j = false) → first g m k = none := by
  intro m
  induction m with
  | zero => intro k _; rfl
  | succ m ih =>
    intro k h
    unfold first
    rw [if_neg (by rw [h k (Nat.le_refl _) (by omega)]; simp)]
    exact ih (k + 1) fun j a b => h j (by omega) (by omega)
theorem first_some {g : Nat → Bool} {i : Nat} : ∀ (m k : Nat), first g m k = some i → k ≤ i ∧ i < k + m ∧ g i = true ∧ ∀ j, k ≤ j → j < i → g j = false := by
  intro m
  induction m with
  | zero => intro k h; exact absurd h (by unfold first; simp)
  | succ m ih =>
    intro k h
    unfold first at h
    by_cases hk : g k = true
    · rw [if_pos hk] at h
      injection h with h
      subst h
      exact ⟨Nat.le_refl _, by omega, hk, fun j a b => by omega⟩
    · rw [if_neg hk] at h
      obtain ⟨a, b, c, d⟩ := ih (k + 1) h
      refine ⟨by omega, by omega, c, fun j x y => ?_⟩
      by_cases hj : j = k
      · subst hj; simpa using hk
      · exact d j (by omega) y
def clamp (p : Int) : Int := Sat.mn (Sat.mx p 1) 100
theorem clamp_in (p : Int) : 1 ≤ clamp p ∧ clamp p ≤ 100 := by unfold clamp Sat.mn Sat.mx; (repeat' split) <;> omega
theorem clamp_le {p q : Int} (h : p ≤ q) : clamp p ≤ clamp q := by unfold clamp Sat.mn Sat.mx; (repeat' split) <;> omega
theorem clamp_id {p : Int} (h0 : 1 ≤ p) (h1 : p ≤ 100) : clamp p = p := by unfold clamp Sat.mn Sat.mx; (repeat' split) <;> omega
def hit (f : Nat → Int) (p : Int) (k : Nat) : Bool := Sat.atl (run f (k + 1)) (run f 65) (clamp p)
/-- The bin up to whose longest time so many of a hundred took. -/
def perc (f : Nat → Int) (p : Int) : Option Nat := if run f 65 = 0 then none else first (hit f p) 65 0
def percN (f : Nat → Int) (p : Int) : Int := match perc f p with | some k => top k | none => 0
def percB (f : Nat → Int) (p : Int) : Bool := (perc f p).isSome
theorem perc_of {f : Nat → Int} {p : Int} {i : Nat} (h0 : run f 65 ≠ 0) (hi : i < 65) (h1 : ∀ j, j < i → hit f p j = false) (h : hit f p i = true) : percN f p = top i ∧ percB f p = true := by
  have : perc f p = some i := by unfold perc; rw [if_neg h0]; exact first_of i h 65 0 (by omega) (by omega) fun j _ hj => h1 j hj
  unfold percN percB
  rw [this]
  exact ⟨rfl, rfl⟩
theorem perc_zero {f : Nat → Int} {p : Int} (h0 : run f 65 = 0) : percN f p = 0 ∧ percB f p = false := by
  have : perc f p = none := by unfold perc; rw [if_pos h0]
  unfold percN percB
  rw [this]
  exact ⟨rfl, rfl⟩
theorem perc_end {f : Nat → Int} {p : Int} (h1 : ∀ j, j < 65 → hit f p j = false) : percN f p = 0 ∧ percB f p = false := by
  have : perc f p = none := by
    unfold perc
    split
    · rfl
    · exact first_none 65 0 fun j _ hj => h1 j (by omega)
  unfold percN percB
  rw [this]
  exact ⟨rfl, rfl⟩
theorem first_congr {g h : Nat → Bool} : ∀ (m k : Nat), (∀ j, k ≤ j → j < k + m → g j = h j) → first g m k = first h m k := by
  intro m
  induction m with
  | zero => intro k _; rfl
  | succ m ih =>
    intro k hk
    unfold first
    rw [hk k (Nat.le_refl _) (by omega), ih (k + 1) fun j a b => hk j (by omega) (by omega)]
theorem perc_same {f g : Nat → Int} (h : ∀ i, i < 65 → f i = g i) (p : Int) : perc f p = perc g p := by
  have hr : ∀ k, k ≤ 65 → run f k = run g k := fun k hk => run_congr fun i hi => h i (by omega)
  have hh : ∀ j, 0 ≤ j → j < 0 + 65 → hit f p j = hit g p j := fun j _ hj => by unfold hit; rw [hr (j + 1) (by omega), hr 65 (by omega)]
  unfold perc
  rw [hr 65 (by omega), first_congr 65 0 hh]
theorem perc_congr {f g : Nat → Int} (h : ∀ i, i < 65 → f i = g i) (p : Int) : percN f p = percN g p ∧ percB f p = percB g p := by
  unfold percN percB
  rw [perc_same h p]
  exact ⟨rfl, rfl⟩
theorem atl_iff {a b p : Int} (hp : 0 ≤ p) : Sat.atl a b p = true ↔ p * b ≤ 100 * a := by
  unfold Sat.atl Sat.pos
  rw [if_pos hp, decide_eq_true_eq]
theorem first_any {g : Nat → Bool} (i : Nat) (hi : g i = true) : ∀ (m k : Nat), k ≤ i → i < k + m → ∃ j, first g m k = some j := by
  intro m
  induction m with
  | zero => intro k h1 h2; omega
  | succ m ih =>
    intro k h1 h2
    unfold first
    by_cases hk : g k = true
    · rw [if_pos hk]; exact ⟨k, rfl⟩
    · rw [if_neg hk]
      by_cases hki : k = i
      · subst hki; exact absurd hi hk
      · exact ih (k + 1) (by omega) (by omega)
/-- Where there is anything, some bin is the first. -/
theorem perc_any {f : Nat → Int} (hf : ∀ i, 0 ≤ f i) (p : Int) (h0 : run f 65 ≠ 0) : ∃ k, k < 65 ∧ percN f p = top k ∧ percB f p = true ∧ hit f p k = true ∧ ∀ j, j < k → hit f p j = false := by
  have hc := clamp_in p
  have h64 : hit f p 64 = true := by
    unfold hit
    rw [atl_iff (by omega)]
    exact Int.mul_le_mul_of_nonneg_right hc.2 (rn_in hf 65).1
  obtain ⟨k, hq⟩ := first_any 64 h64 65 0 (by omega) (by omega)
  obtain ⟨_, b, c, d⟩ := first_some 65 0 hq
  have hp : perc f p = some k := by unfold perc; rw [if_neg h0]; exact hq
  refine ⟨k, by omega, ?_, ?_, c, fun j hj => d j (by omega) hj⟩
  · unfold percN; rw [hp]
  · unfold percB; rw [hp]; rfl
/-- A higher percent is no lower time. -/
theorem perc_mono {f : Nat → Int} (hf : ∀ i, 0 ≤ f i) {p q : Int} (h : p ≤ q) : percN f p ≤ percN f q ∧ percB f p = percB f q := by
  by_cases h0 : run f 65 = 0
  · rw [(perc_zero h0).1, (perc_zero h0).1, (perc_zero h0).2, (perc_zero h0).2]; exact ⟨Int.le_refl _, rfl⟩
  · obtain ⟨i, i1, i2, i3, i4, i5⟩ := perc_any hf p h0
    obtain ⟨k, k1, k2, k3, k4, k5⟩ := perc_any hf q h0
    rw [i2, i3, k2, k3]
    refine ⟨top_le ?_, rfl⟩
    apply Nat.le_of_not_lt
    intro hlt
    have hz := i5 k hlt
    have cp := clamp_in p
    have cq := clamp_in q
    unfold hit at hz k4
    rw [atl_iff (by omega)] at k4
    have : Sat.atl (run f (k + 1)) (run f 65) (clamp p) = true := by
      rw [atl_iff (by omega)]
      exact Int.le_trans (Int.mul_le_mul_of_nonneg_right (clamp_le h) (rn_in hf 65).1) k4
    rw [hz] at this
    exact absurd this (by simp)
/-! ### Counts of bins -/
def cnt (L : List Nat) (k : Nat) : Int := (L.countP (fun b => decide (b = k)) : Nat)
theorem cnt_nonneg (L : List Nat) (k : Nat) : 0 ≤ cnt L k := by unfold cnt; omega
theorem countP_lt (L : List Nat) (k : Nat) : L.countP (fun b => decide (b < k + 1)) = L.countP (fun b => decide (b < k)) + L.countP (fun b => decide (b = k)) := by
  induction L with
  | nil => rfl
  | cons x L ih =>
    rw [List.countP_cons, List.countP_cons, List.countP_cons, ih]
    rcases Nat.lt_trichotomy x k with h | h | h
    · rw [if_pos (by simp; omega), if_pos (by simp; omega), if_neg (by simp; omega)]; omega
    · rw [if_pos (by simp; omega), if_neg (by simp; omega), if_pos (by simp; omega)]; omega
    · rw [if_neg (by simp; omega), if_neg (by simp; omega), if_neg (by simp; omega)]; omega
theorem run_cnt (L : List Nat) (h : L.length ≤ 100) (k : Nat) : run (cnt L) k = (L.countP (fun b => decide (b < k)) : Nat) := by
  induction k with
  | zero => rw [run_zero, List.countP_eq_zero.2 (by intro x _; simp)]; rfl
  | succ k ih =>
    have h1 := List.countP_le_length (p := fun b => decide (b < k)) (l := L)
    have h2 := List.countP_le_length (p := fun b => decide (b = k)) (l := L)
    rw [run_succ, ih, countP_lt]
    unfold cnt Sat.add
    rw [if_pos (by omega)]
    omega
theorem run65 (xs : List Nat) (hx : ∀ x ∈ xs, x < 18446744073709551616) (h1 : xs.length ≤ 100) : run (cnt (xs.map Bits.blen)) 65 = xs.length := by
  rw [run_cnt _ (by simpa using h1)]
  have : (xs.map Bits.blen).countP (fun b => decide (b < 65)) = (xs.map Bits.blen).length := by
    rw [List.countP_eq_length]
    intro b hb
    obtain ⟨x, hx2, rfl⟩ := List.mem_map.1 hb
    have := Bits.blen_le64 (hx x hx2)
    simp; omega
  rw [this, List.length_map]
theorem run_count (xs : List Nat) (h1 : xs.length ≤ 100) (k : Nat) : run (cnt (xs.map Bits.blen)) (k + 1) = (xs.countP (fun x : Nat => decide ((x : Int) ≤ top k)) : Nat) := by
  rw [run_cnt _ (by simpa using h1), List.countP_map]
  congr 1
  apply List.countP_congr
  intro x _
  simp only [Function.comp, decide_eq_true_eq]
  rw [le_top]
  omega
/-- All took at most the hundredth's, some one more than half of it; as many as percent says took at most its time. -/
theorem all_plain (xs : List Nat) (hx : ∀ x ∈ xs, x < 18446744073709551616) (h0 : xs ≠ []) (h1 : xs.length ≤ 100) (p : Int) (hp0 : 1 ≤ p) (hp : p ≤ 100) :
    percB (cnt (xs.map Bits.blen)) p = true ∧ (∀ x ∈ xs, (x : Int) ≤ percN (cnt (xs.map Bits.blen)) 100) ∧ (percN (cnt (xs.map Bits.blen)) 100 = 0 ∨ ∃ x ∈ xs, percN (cnt (xs.map Bits.blen)) 100 / 2 < (x : Int)) ∧
      p * (xs.length : Int) ≤ 100 * ((xs.countP (fun x : Nat => decide ((x : Int) ≤ percN (cnt (xs.map Bits.blen)) p)) : Nat) : Int) := by
  have hl : 0 < xs.length := List.length_pos_iff.2 h0
  have hr := run65 xs hx h1
  have hf : ∀ i, 0 ≤ cnt (xs.map Bits.blen) i := cnt_nonneg _
  have hne : run (cnt (xs.map Bits.blen)) 65 ≠ 0 := by rw [hr]; omega
  obtain ⟨i, i1, i2, i3, i4, i5⟩ := perc_any hf p hne
  obtain ⟨k, k1, k2, k3, k4, k5⟩ := perc_any hf 100 hne
  have c100 : clamp 100 = 100 := by decide
  unfold hit at i4 k4
  rw [atl_iff (by have := clamp_in p; omega), clamp_id hp0 hp, hr, run_count xs h1] at i4
  rw [atl_iff (by rw [c100]; omega), c100, hr, run_count xs h1] at k4
  rw [i2, k2, i3]
  have hall : ∀ x ∈ xs, (x : Int) ≤ top k := by
    have h2 := List.countP_le_length (p := fun x : Nat => decide ((x : Int) ≤ top k)) (l := xs)
    have h3 : xs.countP (fun x : Nat => decide ((x : Int) ≤ top k)) = xs.length := by omega
    rw [List.countP_eq_length] at h3
    intro x hxx
    simpa using h3 x hxx
  refine ⟨rfl, hall, ?_, i4⟩
  rcases k with _ | k
  · exact .inl top_zero
  · right
    have hk := k5 k (by omega)
    unfold hit at hk
    have hk2 : ¬ (100 * (xs.length : Int) ≤ 100 * ((xs.countP (fun x : Nat => decide ((x : Int) ≤ top k)) : Nat) : Int)) := by
      intro hle
      have : Sat.atl (run (cnt (xs.map Bits.blen)) (k + 1)) (run (cnt (xs.map Bits.blen)) 65) (clamp 100) = true := by
        rw [atl_iff (by rw [c100]; omega), c100, hr, run_count xs h1]
        exact hle
      rw [hk] at this
      exact absurd this (by simp)
    have hlt : xs.countP (fun x : Nat => decide ((x : Int) ≤ top k)) ≠ xs.length := by omega
    rw [Ne, List.countP_eq_length] at hlt
    have : ∃ x ∈ xs, ¬ (x : Int) ≤ top k := by
      apply Classical.byContradiction
      intro hn
      apply hlt
      intro x hxx
      rw [decide_eq_true_eq]
      exact Classical.byContradiction fun hh => hn ⟨x, hxx, hh⟩
    obtain ⟨x, hxx, hgt⟩ := this
    refine ⟨x, hxx, ?_⟩
    rw [top_succ]
    omega
end Go.Proofs.Ytmemafhdondfhaa.Hst
