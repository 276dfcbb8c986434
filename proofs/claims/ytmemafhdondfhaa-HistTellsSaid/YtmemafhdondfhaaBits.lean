/- Plain numbers: how many bits a number has, blocks of 64, bytes; no program in sight. -/
import Derived.Test.YtmemafhdondfhaaSat
namespace Go.Proofs.Ytmemafhdondfhaa.Bits
set_option linter.unusedVariables false

/-- How many bits: the least n for which x is below 2^n. -/
def blen (x : Nat) : Nat := if h : x = 0 then 0 else blen (x / 2) + 1
termination_by x
decreasing_by omega
theorem blen_zero : blen 0 = 0 := by unfold blen; simp
theorem blen_pos {x : Nat} (h : 0 < x) : blen x = blen (x / 2) + 1 := by rw [blen]; rw [dif_neg (by omega)]
theorem blen_lt (x : Nat) : x < 2 ^ blen x := by
  induction x using Nat.strongRecOn with
  | _ x ih =>
    by_cases h : x = 0
    · subst h; rw [blen_zero]; decide
    · have := ih (x / 2) (by omega)
      rw [blen_pos (by omega), Nat.pow_succ]
      omega
theorem blen_ge (x : Nat) (h : 0 < x) : 2 ^ (blen x - 1) ≤ x := by
  induction x using Nat.strongRecOn with
  | _ x ih =>
    rw [blen_pos h, Nat.add_sub_cancel]
    by_cases h1 : x / 2 = 0
    · rw [h1, blen_zero]; show 1 ≤ x; omega
    · have := ih (x / 2) (by omega) (by omega)
      have e : blen (x / 2) = (blen (x / 2) - 1) + 1 := by
        have := blen_pos (x := x / 2) (by omega)
        omega
      rw [e, Nat.pow_succ]
      omega
theorem blen_eq_zero {x : Nat} : blen x = 0 ↔ x = 0 := by
  constructor
  · intro h
    have := blen_lt x
    rw [h] at this
    omega
  · rintro rfl; exact blen_zero
theorem blen_le {x n : Nat} (h : x < 2 ^ n) : blen x ≤ n := by
  by_cases h0 : x = 0
  · subst h0; rw [blen_zero]; omega
  · have h1 := blen_ge x (by omega)
    have h2 : 2 ^ (blen x - 1) < 2 ^ n := Nat.lt_of_le_of_lt h1 h
    have := (Nat.pow_lt_pow_iff_right (by decide : 1 < 2)).1 h2
    omega
theorem blen_le64 {x : Nat} (h : x < 18446744073709551616) : blen x ≤ 64 := blen_le (n := 64) h

/-- The block of a time at a level. -/
def blk (t : Nat) (l : Nat) : Nat := t / 64 ^ l
theorem blk_zero (t : Nat) : blk t 0 = t := by unfold blk; simp
theorem blk_succ (t l : Nat) : blk (t / 64) l = blk t (l + 1) := by
  unfold blk; rw [Nat.div_div_eq_div_mul, Nat.pow_succ, Nat.mul_comm]
theorem blk_succ' (t l : Nat) : blk t l / 64 = blk t (l + 1) := by
  unfold blk; rw [Nat.div_div_eq_div_mul, Nat.pow_succ]
theorem blk_le (t l : Nat) : blk t l ≤ t := Nat.div_le_self _ _
theorem blk_blk (t m n : Nat) : blk (blk t m) n = blk t (m + n) := by
  unfold blk; rw [Nat.div_div_eq_div_mul, Nat.pow_add]
theorem zero_blk (l : Nat) : blk 0 l = 0 := by unfold blk; simp
theorem blk_far {t l : Nat} (h : t < 18446744073709551616) (hl : 11 ≤ l) : blk t l = 0 := by
  unfold blk
  apply Nat.div_eq_of_lt
  have : 64 ^ 11 ≤ 64 ^ l := Nat.pow_le_pow_right (by decide) hl
  have e : 64 ^ 11 = 73786976294838206464 := by decide
  omega
theorem shift_blk {t : Nat} {c l : Nat} (h : t < 18446744073709551616) (hc : c = if 12 < l then 12 else l) : t / 2 ^ min (6 * c) 64 = blk t l := by
  have e6 : ∀ k, 2 ^ (6 * k) = 64 ^ k := fun k => by rw [Nat.pow_mul]
  by_cases hl : l ≤ 10
  · have : c = l := by rw [hc, if_neg (by omega)]
    subst this
    rw [Nat.min_eq_left (by omega), e6]
    rfl
  · rw [blk_far h (by omega), Nat.min_eq_right (by subst hc; split <;> omega)]
    exact Nat.div_eq_of_lt h
theorem xor_zero_iff (a b : Nat) : a ^^^ b = 0 ↔ a = b := by
  constructor
  · intro h
    have e : a ^^^ b ^^^ b = a := by rw [Nat.xor_assoc, Nat.xor_self, Nat.xor_zero]
    rw [h, Nat.zero_xor] at e
    exact e.symm
  · rintro rfl; exact Nat.xor_self _
theorem xor_blk (a b l : Nat) : blk (a ^^^ b) l = 0 ↔ blk a l = blk b l := by
  have e6 : ∀ t, blk t l = t >>> (6 * l) := fun t => by rw [Nat.shiftRight_eq_div_pow]; unfold blk; rw [show (64 : Nat) = 2 ^ 6 from rfl, ← Nat.pow_mul]
  rw [e6, e6, e6, Nat.shiftRight_xor_distrib, xor_zero_iff]
/-- The level at which two times meet. -/
def lvl (a b : Nat) : Nat := if blk a 1 = blk b 1 then 0 else if blk a 2 = blk b 2 then 1 else if blk a 3 = blk b 3 then 2 else if blk a 4 = blk b 4 then 3 else 4
theorem lvl_of {a b k : Nat} (hk : k ≤ 4) (h1 : ∀ j, j < k → blk a (j + 1) ≠ blk b (j + 1)) (h2 : k < 4 → blk a (k + 1) = blk b (k + 1)) : lvl a b = k := by
  unfold lvl
  match k, hk with
  | 0, _ => rw [if_pos (h2 (by omega))]
  | 1, _ => rw [if_neg (h1 0 (by omega)), if_pos (h2 (by omega))]
  | 2, _ => rw [if_neg (h1 0 (by omega)), if_neg (h1 1 (by omega)), if_pos (h2 (by omega))]
  | 3, _ => rw [if_neg (h1 0 (by omega)), if_neg (h1 1 (by omega)), if_neg (h1 2 (by omega)), if_pos (h2 (by omega))]
  | 4, _ => rw [if_neg (h1 0 (by omega)), if_neg (h1 1 (by omega)), if_neg (h1 2 (by omega)), if_neg (h1 3 (by omega))]
theorem and63 (x : Nat) (h : x < 18446744073709551616) : bits .and .u64 (x : Int) 63 = ((x % 64 : Nat) : Int) := by
  have := bits_mask .u64 64 (by decide) Sat.wraps_u64 6 (by decide) (x : Int) (by omega) (by omega)
  simpa using this
theorem xor_u64 (a b : Nat) (ha : a < 18446744073709551616) (hb : b < 18446744073709551616) : bits .xor .u64 (a : Int) (b : Int) = ((a ^^^ b : Nat) : Int) ∧ a ^^^ b < 18446744073709551616 := by
  have hx : a ^^^ b < 2 ^ 64 := Nat.xor_lt_two_pow (n := 64) ha hb
  refine ⟨?_, hx⟩
  simp only [bits, BitVec.ofInt_natCast, BitVec.toNat_xor, BitVec.toNat_ofNat]
  have e : IntKind.u64.bits = 64 := rfl
  rw [e, Nat.mod_eq_of_lt (by exact ha), Nat.mod_eq_of_lt (by exact hb)]
  exact Sat.wraps_u64 _ (by omega) (by exact_mod_cast hx)
/-- The bytes of a number, the highest first. -/
def byt (x : Nat) (i : Nat) : Int := ((x / 256 ^ (7 - i) % 256 : Nat) : Int)
theorem byt_in (x i : Nat) : 0 ≤ byt x i ∧ byt x i ≤ 255 := by unfold byt; omega
theorem byt_all (x : Nat) (hx : x ≤ 18446744073709551615) : (x : Int) / 72057594037927936 = byt x 0 ∧ (x : Int) / 281474976710656 % 256 = byt x 1 ∧ (x : Int) / 1099511627776 % 256 = byt x 2 ∧ (x : Int) / 4294967296 % 256 = byt x 3 ∧
    (x : Int) / 16777216 % 256 = byt x 4 ∧ (x : Int) / 65536 % 256 = byt x 5 ∧ (x : Int) / 256 % 256 = byt x 6 ∧ (x : Int) % 256 = byt x 7 := by
  unfold byt
  simp only [Nat.sub_self, Nat.reduceSub, Nat.reducePow]
  omega
theorem byt_all2 (x : Nat) : (x : Int) / 256 / 256 / 256 / 256 / 256 / 256 / 256 % 256 = byt x 0 ∧ (x : Int) / 256 / 256 / 256 / 256 / 256 / 256 % 256 = byt x 1 ∧ (x : Int) / 256 / 256 / 256 / 256 / 256 % 256 = byt x 2 ∧ (x : Int) / 256 / 256 / 256 / 256 % 256 = byt x 3 ∧
    (x : Int) / 256 / 256 / 256 % 256 = byt x 4 ∧ (x : Int) / 256 / 256 % 256 = byt x 5 ∧ (x : Int) / 256 % 256 = byt x 6 ∧ (x : Int) % 256 = byt x 7 := by
  unfold byt
  simp only [Nat.sub_self, Nat.reduceSub, Nat.reducePow]
  omega
/-- Bytes as a number. -/
def num (l : List Int) : Int := l.foldl (fun x c => x * 256 + c) 0
/-- The last eight. -/
def last8 (l : List Int) : List Int := l.drop (l.length - 8)
theorem last8_len (l : List Int) : (last8 l).length ≤ 8 := by unfold last8; rw [List.length_drop]; omega
theorem num_take (l : List Int) (k : Nat) (h : k < l.length) : num (l.take (k + 1)) = num (l.take k) * 256 + l.getD k 0 := by
  unfold num
  rw [List.take_succ_eq_append_getElem h, List.foldl_append, List.getD_eq_getElem?_getD, List.getElem?_eq_getElem h]
  rfl
theorem num_bd (l : List Int) (h : ∀ x ∈ l, 0 ≤ x ∧ x < 256) : ∀ k, k ≤ l.length → 0 ≤ num (l.take k) ∧ num (l.take k) < 256 ^ k := by
  intro k
  induction k with
  | zero => intro _; simp [num]
  | succ k ih =>
    intro hk
    have h1 := ih (by omega)
    rw [num_take l k (by omega), Int.pow_succ]
    have h2 : 0 ≤ l.getD k 0 ∧ l.getD k 0 < 256 := by
      rw [List.getD_eq_getElem?_getD, List.getElem?_eq_getElem (by omega)]
      exact h _ (List.getElem_mem (by omega))
    omega
theorem num_bd7 (l : List Int) (h : ∀ x ∈ l, 0 ≤ x ∧ x < 256) (k : Nat) (hk : k ≤ l.length) (h7 : k ≤ 7) : 0 ≤ num (l.take k) ∧ num (l.take k) ≤ 72057594037927935 := by
  have h1 := num_bd l h k hk
  have h2 : (256 : Int) ^ k ≤ 72057594037927936 := by
    have e : (256 : Int) ^ k = ((256 ^ k : Nat) : Int) := by simp
    have := Nat.pow_le_pow_right (n := 256) (by decide) h7
    have e7 : 256 ^ 7 = 72057594037927936 := by decide
    rw [e]; omega
  omega
theorem num_in (l : List Int) (h : ∀ x ∈ l, 0 ≤ x ∧ x < 256) (h8 : l.length ≤ 8) : 0 ≤ num l ∧ num l < 18446744073709551616 := by
  have h1 := num_bd l h l.length (Nat.le_refl _)
  rw [List.take_length] at h1
  have h2 : (256 : Int) ^ l.length ≤ 18446744073709551616 := by
    have e : (256 : Int) ^ l.length = ((256 ^ l.length : Nat) : Int) := by simp
    have := Nat.pow_le_pow_right (n := 256) (by decide) h8
    have e7 : 256 ^ 8 = 18446744073709551616 := by decide
    rw [e]; omega
  omega
theorem or_byte (s c : Int) (h0 : 0 ≤ s) (h1 : s ≤ 72057594037927935) (c0 : 0 ≤ c) (c1 : c < 256) : bits .or .u64 (s * 256) c = s * 256 + c :=
  bits_join .u64 64 (by decide) Sat.wraps_u64 8 (s * 256) c (by omega) (by omega) (by omega) c0 (by omega) (by omega)
end Go.Proofs.Ytmemafhdondfhaa.Bits
