/- The sum of any list of 64-bit numbers is that of the list backwards; Add and Mul of two don't hang on their order; no condition. -/
import Derived.Test.YtdchaldcnnahmaaPSatOrderx1
import Derived.Test.YtdchaldcnnahmaaSat
namespace Go.Proofs.Ytdchaldcnnahmaa.Pure
open Go.RowKit Go.Proofs.Ytdchaldcnnahmaa.PSatOrder Go.Proofs.YtdchaldcnnahmaaW.PrintWords Go.Proofs.YtdchaldcnnahmaaW.PrintLast
set_option linter.unusedVariables false
theorem Add_tells {a b : Int} (ha0 : 0 ≤ a) (ha : a < 18446744073709551616) (hb0 : 0 ≤ b) (hb : b < 18446744073709551616) : sat_Add.f a b = some (Sat.add a b) := by
  unfold sat_Add.f Sat.add mn
  rw [Sat.wrap_u64, Sat.wrap_u64]
  congr 1
  (repeat' split) <;> omega
theorem Sub_tells {a b : Int} (ha0 : 0 ≤ a) (ha : a < 18446744073709551616) (hb0 : 0 ≤ b) (hb : b < 18446744073709551616) : sat_Sub.f a b = some (Sat.sub a b) := by
  unfold sat_Sub.f Sat.sub mn
  rw [Sat.wrap_u64]
  congr 1
  (repeat' split) <;> omega
theorem wide_tells {a b : Int} (ha0 : 0 ≤ a) (ha : a < 18446744073709551616) (hb0 : 0 ≤ b) (hb : b < 18446744073709551616) : sat_wide.f a b = some (a * b / 18446744073709551616, a * b % 18446744073709551616) := by
  obtain ⟨ll, lh, hl, hh, e1, e2, e3, e4, a1, a2, b1, b2, c1, c2, d1, d2, hP, hU⟩ := Sat.wide_parts ha0 ha hb0 hb
  generalize a * b = P at hP hU ⊢
  unfold sat_wide.f
  rw [Sat.and_low a ha0 ha, Sat.and_low b hb0 hb, e1, e2, e3, e4]
  clear e1 e2 e3 e4
  rw [Sat.u64_in a1 (by omega), Sat.u64_in b1 (by omega), Sat.u64_in c1 (by omega), Sat.u64_in d1 (by omega), Sat.and_low ll a1 (by omega), Sat.and_low lh b1 (by omega), Sat.and_low hl c1 (by omega)]
  rw [Sat.u64_in (n := ll / 4294967296 + lh % 4294967296) (by omega) (by omega), Sat.u64_in (n := ll / 4294967296 + lh % 4294967296 + hl % 4294967296) (by omega) (by omega)]
  rw [Sat.u64_in (n := hh + lh / 4294967296) (by omega) (by omega), Sat.u64_in (n := hh + lh / 4294967296 + hl / 4294967296) (by omega) (by omega)]
  rw [Sat.or_low _ _ (by rw [Sat.wrap_u64]; omega) (by rw [Sat.wrap_u64]; omega) (by rw [Sat.wrap_u64]; omega) (by omega) (by omega)]
  rw [Sat.wrap_u64, Sat.wrap_u64]
  have e1 : (hh + lh / 4294967296 + hl / 4294967296 + (ll / 4294967296 + lh % 4294967296 + hl % 4294967296) / 4294967296) % 18446744073709551616 = P / 18446744073709551616 := by omega
  have e2 : (ll / 4294967296 + lh % 4294967296 + hl % 4294967296) * 4294967296 % 18446744073709551616 + ll % 4294967296 = P % 18446744073709551616 := by omega
  rw [e1, e2]
theorem Mul_tells {a b : Int} (ha0 : 0 ≤ a) (ha : a < 18446744073709551616) (hb0 : 0 ≤ b) (hb : b < 18446744073709551616) : sat_Mul.f a b = some (Sat.mul a b) := by
  have h0 : 0 ≤ a * b := Int.mul_nonneg ha0 hb0
  unfold sat_Mul.f Sat.mul
  rw [wide_tells ha0 ha hb0 hb]
  simp only [Option.bind_some]
  by_cases h : a * b < 18446744073709551616
  · rw [if_pos (by omega), if_pos h]; congr 1; omega
  · rw [if_neg (by omega), if_neg h]
theorem AtLeast_tells {a b p : Int} (ha0 : 0 ≤ a) (ha : a < 18446744073709551616) (hb0 : 0 ≤ b) (hb : b < 18446744073709551616) (hp : p ≤ 9223372036854775807) : sat_AtLeast.f a b p = some (Sat.atl a b p) := by
  have e : IntKind.u64.wrap (mx p 0) = Sat.pos p := by unfold mx Sat.pos; rw [Sat.wrap_u64]; (repeat' split) <;> omega
  have p0 : 0 ≤ Sat.pos p ∧ Sat.pos p < 18446744073709551616 := by unfold Sat.pos; split <;> omega
  unfold sat_AtLeast.f Sat.atl
  rw [e, wide_tells ha0 ha (by omega) (by omega)]
  simp only [Option.bind_some]
  rw [wide_tells hb0 hb p0.1 p0.2]
  simp only [Option.bind_some]
  rw [Int.mul_comm (Sat.pos p) b, Int.mul_comm 100 a]
  generalize a * 100 = x
  generalize b * Sat.pos p = y
  by_cases h1 : x / 18446744073709551616 > y / 18446744073709551616
  · rw [if_pos h1, decide_eq_true (by omega)]
  · rw [if_neg h1]
    by_cases h2 : x / 18446744073709551616 = y / 18446744073709551616
    · rw [if_pos h2]; congr 1; rw [decide_eq_decide]; omega
    · rw [if_neg h2, decide_eq_false (by omega)]
theorem Sum_from (l : List Int) (hl : l.length ≤ 4611686018427387904) (hx : ∀ x ∈ l, 0 ≤ x ∧ x < 18446744073709551616) (d : Nat) : ∀ (k i : Nat) (s : Int), i ≤ l.length → l.length - i = d → d < k → 0 ≤ s → s < 18446744073709551616 →
    sat_Sum.l0 k s l (l.length : Int) (i : Int) = some ((l.drop i).foldl Sat.add s) := by
  induction d with
  | zero =>
    intro k i s hi hd hk _ _
    obtain ⟨k, rfl⟩ : ∃ m, k = m + 1 := ⟨k - 1, by omega⟩
    simp only [sat_Sum.l0]
    rw [if_neg (by omega), List.drop_of_length_le (by omega)]; rfl
  | succ d ih =>
    intro k i s hi hd hk h0 h1
    obtain ⟨k, rfl⟩ : ∃ m, k = m + 1 := ⟨k - 1, by omega⟩
    have hlt : i < l.length := by omega
    have hr : rd l (i : Int) = l[i] := by unfold rd; simp [hlt]
    have hm := hx _ (List.getElem_mem hlt)
    have hw : wrap64 ((i : Int) + 1) = ((i + 1 : Nat) : Int) := by unfold wrap64; omega
    simp only [sat_Sum.l0]
    rw [if_pos (by omega), if_pos (by omega), if_pos (by omega), hr, Add_tells h0 h1 hm.1 hm.2]
    simp only [Option.bind_some]
    rw [hw, ih k (i + 1) _ (by omega) (by omega) (by omega) (Sat.add_in h0 hm.1).1 (Sat.add_in h0 hm.1).2, List.drop_eq_getElem_cons hlt, List.foldl_cons]
theorem Sum_tells (l : List Int) (hl : l.length ≤ 4611686018427387904) (hx : ∀ x ∈ l, 0 ≤ x ∧ x < 18446744073709551616) (k : Nat) (hk : l.length < k) : sat_Sum.f k l = some (Sat.sum l) := by
  unfold sat_Sum.f
  have := Sum_from l hl hx l.length k 0 0 (by omega) (by omega) hk (by omega) (by omega)
  rw [List.drop_zero] at this
  exact this
theorem awake_tells (k : Nat) (hk : 3 < k) : porpoiselaw01_awake.f k = some true := by
  unfold porpoiselaw01_awake.f
  rw [Add_tells (by omega) (by omega) (by omega) (by omega), Sub_tells (by omega) (by omega) (by omega) (by omega), Mul_tells (by omega) (by omega) (by omega) (by omega), AtLeast_tells (by omega) (by omega) (by omega) (by omega) (by omega), AtLeast_tells (by omega) (by omega) (by omega) (by omega) (by omega),
    Sum_tells [1, 2, 3] (by decide) (by decide) k hk]
  decide
theorem back_from (l : List Int) (a b : Int) (ha0 : 0 ≤ a) (ha : a < 18446744073709551616) (hb0 : 0 ≤ b) (hb : b < 18446744073709551616) (hl : l.length * 8 ≤ 140737488351232) (hx : ∀ x ∈ l, 0 ≤ x ∧ x < 18446744073709551616) :
    ∀ (n k : Nat) (acc : List Int), n ≤ l.length → n + l.length + 1 < k → acc = (l.drop n).reverse → porpoiselaw01_SatOrder.l0 k l a b true acc ((n : Int) - 1) = some true := by
  intro n
  induction n with
  | zero =>
    intro k acc _ hk he
    obtain ⟨k, rfl⟩ : ∃ m, k = m + 1 := ⟨k - 1, by omega⟩
    simp only [porpoiselaw01_SatOrder.l0]
    rw [if_neg (by omega), if_pos trivial]
    subst he
    have hx2 : ∀ x ∈ l.reverse, 0 ≤ x ∧ x < 18446744073709551616 := fun x h => hx x (List.mem_reverse.1 h)
    rw [List.drop_zero, Sum_tells l (by omega) hx _ (by omega), Sum_tells l.reverse (by rw [List.length_reverse]; omega) hx2 _ (by rw [List.length_reverse]; omega),
      Add_tells ha0 ha hb0 hb, Add_tells hb0 hb ha0 ha, Mul_tells ha0 ha hb0 hb, Mul_tells hb0 hb ha0 ha, Sat.sum_reverse (fun x h => (hx x h).1), Sat.add_comm b a]
    unfold Sat.mul
    rw [Int.mul_comm b a]
    simp
  | succ n ih =>
    intro k acc hn hk he
    obtain ⟨k, rfl⟩ : ∃ m, k = m + 1 := ⟨k - 1, by omega⟩
    have hw : wrap64 (((n + 1 : Nat) : Int) - 1 - 1) = (n : Int) - 1 := by unfold wrap64; omega
    have hlen : acc.length < 17592186044416 := by rw [he, List.length_reverse, List.length_drop]; omega
    have hlt : n < l.length := by omega
    have hr : rd l (((n + 1 : Nat) : Int) - 1) = l[n] := by unfold rd; rw [show (((n + 1 : Nat) : Int) - 1).toNat = n from by omega]; simp [hlt]
    simp only [porpoiselaw01_SatOrder.l0]
    rw [if_pos (by omega), if_pos (by omega), if_pos (by omega), if_pos hlen, hw, hr]
    exact ih k _ (by omega) (by omega) (by rw [he, List.drop_eq_getElem_cons hlt, List.reverse_cons])
theorem SatOrder : porpoiselaw01_SatOrder.Pure := by
  intro l a b _ hl hx wa wb
  have ha := Sat.wf_u64 wa
  have hb := Sat.wf_u64 wb
  have hx' : ∀ x ∈ l, 0 ≤ x ∧ x < 18446744073709551616 := fun x h => Sat.wf_u64 (hx x h)
  refine ⟨2 * l.length + 4, ?_⟩
  unfold porpoiselaw01_SatOrder.f
  rw [awake_tells _ (by omega)]
  simp only [Option.bind_some]
  rw [show wrap64 ((l.length : Int) - 1) = (l.length : Int) - 1 from by unfold wrap64; omega]
  exact back_from l a b ha.1 ha.2 hb.1 hb.2 hl hx' l.length _ [] (by omega) (by omega) (by rw [List.drop_length]; rfl)
end Go.Proofs.Ytdchaldcnnahmaa.Pure
