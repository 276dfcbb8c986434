/- The walk of the law ConfTurned. -/
import Derived.Test.YtnednhdbghkcnaaC08H
namespace Go.Proofs.Ytnednhdbghkcnaa.C08
open Go.RowKit Go.Proofs.Ytnednhdbghkcnaa
set_option linter.unusedVariables false
set_option linter.unusedSimpArgs false
set_option linter.unnecessarySimpa false
attribute [local go_sem] C01.max2_mx C01.min2_mn C01.max_two C01.min_two
/-- Two of the numbers turned to what they may not be. -/
def turn (G : Nat → Int) (a b : Nat) : Nat → Int := fun i => if i = b then -1 else if i = a then -1 else G i
theorem bad_first {p : Nat → Bool} : ∀ (m k i : Nat), (∀ j, k ≤ j → j < i → p j = true) → p i = false → k ≤ i → i < k + m → bad p m k = i + 1 := by
  intro m
  induction m with
  | zero => intro k i _ _ h1 h2; omega
  | succ m ih =>
    intro k i h hf h1 h2
    unfold bad
    by_cases hk : k = i
    · subst hk
      rw [if_neg (by rw [hf]; exact Bool.false_ne_true)]
    · rw [if_pos (h k (by omega) (by omega))]
      exact ih (k + 1) i (fun j h3 h4 => h j (by omega) h4) hf (by omega) (by omega)
theorem lo_nonneg (F : Nat → Int) (j : Nat) : 0 ≤ lo F j := by
  unfold lo
  split
  all_goals
    try unfold sel
    (repeat' split) <;> omega
theorem turn_in {G : Nat → Int} (h : ∀ j, I (G j)) (a b j : Nat) : I (turn G a b j) := by
  unfold turn
  split
  · omega
  · split
    · omega
    · exact h j
theorem turn_out (G : Nat → Int) {a b j : Nat} (h1 : j ≠ a) (h2 : j ≠ b) : turn G a b j = G j := by unfold turn; rw [if_neg h2, if_neg h1]
theorem turn_bad {F : Nat → Int} (hF : Ok F) (hT : Tail F) (h : chk F = 0) {a b : Nat} (ha : a < 16) (hb : b < 16) : chk (ofn (turn (put F) a b)) = min a b + 1 := by
  have hG := turn_in (in_put hF hT) a b
  have ho := congrFun (ofn_put hF)
  have hlow : ∀ j, j < min a b → ofn (turn (put F) a b) j = F j := by
    intro j hj
    have e : turn (put F) a b j = put F j := turn_out _ (by omega) (by omega)
    rw [← ho j]
    match j with
    | 6 => show IntKind.u64.wrap (turn (put F) a b 6) = IntKind.u64.wrap (put F 6); rw [e]
    | 7 => show IntKind.u64.wrap (turn (put F) a b 7) = IntKind.u64.wrap (put F 7); rw [e]
    | 10 => show IntKind.u64.wrap (turn (put F) a b 10) = IntKind.u64.wrap (put F 10); rw [e]
    | 12 => show IntKind.u64.wrap (turn (put F) a b 12) = IntKind.u64.wrap (put F 12); rw [e]
    | 13 => show IntKind.u64.wrap (turn (put F) a b 13) = IntKind.u64.wrap (put F 13); rw [e]
    | 0 => exact e
    | 1 => exact e
    | 2 => exact e
    | 3 => exact e
    | 4 => exact e
    | 5 => exact e
    | 8 => exact e
    | 9 => exact e
    | 11 => exact e
    | 14 => exact e
    | 15 => exact e
    | n + 16 => exact e
  refine bad_first 16 0 (min a b) (fun j _ hj => ?_) ?_ (by omega) (by omega)
  · have hf := fine_of h j (by omega)
    have e : turn (put F) a b j = put F j := turn_out _ (by omega) (by omega)
    have hl : lo (ofn (turn (put F) a b)) j = lo F j ∧ hi (ofn (turn (put F) a b)) j = hi F j := by
      match j, hj with
      | 0, _ => exact ⟨rfl, rfl⟩
      | 1, hj => unfold lo hi; simp only; rw [hlow 0 (by omega)]; exact ⟨rfl, rfl⟩
      | 2, hj => unfold lo hi; simp only; rw [hlow 0 (by omega)]; exact ⟨rfl, rfl⟩
      | 3, hj => unfold lo hi; simp only; rw [hlow 0 (by omega)]; exact ⟨rfl, rfl⟩
      | 4, _ => exact ⟨rfl, rfl⟩
      | 5, _ => exact ⟨rfl, rfl⟩
      | 6, _ => exact ⟨rfl, rfl⟩
      | 7, _ => exact ⟨rfl, rfl⟩
      | 8, _ => exact ⟨rfl, rfl⟩
      | 9, _ => exact ⟨rfl, rfl⟩
      | 10, _ => exact ⟨rfl, rfl⟩
      | 11, _ => exact ⟨rfl, rfl⟩
      | 12, _ => exact ⟨rfl, rfl⟩
      | 13, _ => exact ⟨rfl, rfl⟩
      | 14, hj => unfold lo hi; simp only; rw [hlow 13 (by omega)]; exact ⟨rfl, rfl⟩
      | 15, _ => exact ⟨rfl, rfl⟩
      | n + 16, hj => exact absurd hj (by omega)
    unfold fine
    rw [put_ofn hG, e, hl.1, hl.2]
    exact decide_eq_true hf
  · unfold fine
    rw [put_ofn hG]
    have e : turn (put F) a b (min a b) = -1 := by
      unfold turn
      by_cases hab : min a b = b
      · rw [if_pos hab]
      · rw [if_neg hab, if_pos (by omega)]
    rw [e]
    exact decide_eq_false (by have := lo_nonneg (ofn (turn (put F) a b)) (min a b); omega)
theorem row16 {w : World} {B : Nat} (G : Nat → Int) (t : TypeId) (hB : B = w.heap.size) (j : Nat) (hj : j < 16) : (w.alloc (.cells #[.int .i64 (G 0), .int .i64 (G 1), .int .i64 (G 2), .int .i64 (G 3), .int .i64 (G 4), .int .i64 (G 5), .int .i64 (G 6), .int .i64 (G 7), .int .i64 (G 8), .int .i64 (G 9), .int .i64 (G 10), .int .i64 (G 11), .int .i64 (G 12), .int .i64 (G 13), .int .i64 (G 14), .int .i64 (G 15)] t (0, 0))).cell? ⟨B, j, none⟩ = some (.int .i64 (G j)) ∧ (w.alloc (.cells #[.int .i64 (G 0), .int .i64 (G 1), .int .i64 (G 2), .int .i64 (G 3), .int .i64 (G 4), .int .i64 (G 5), .int .i64 (G 6), .int .i64 (G 7), .int .i64 (G 8), .int .i64 (G 9), .int .i64 (G 10), .int .i64 (G 11), .int .i64 (G 12), .int .i64 (G 13), .int .i64 (G 14), .int .i64 (G 15)] t (0, 0))).frozen? ⟨B, j, none⟩ = false := by
  subst hB
  have hh : (w.alloc (.cells #[.int .i64 (G 0), .int .i64 (G 1), .int .i64 (G 2), .int .i64 (G 3), .int .i64 (G 4), .int .i64 (G 5), .int .i64 (G 6), .int .i64 (G 7), .int .i64 (G 8), .int .i64 (G 9), .int .i64 (G 10), .int .i64 (G 11), .int .i64 (G 12), .int .i64 (G 13), .int .i64 (G 14), .int .i64 (G 15)] t (0, 0))).heap[w.heap.size]? = some (.cells #[.int .i64 (G 0), .int .i64 (G 1), .int .i64 (G 2), .int .i64 (G 3), .int .i64 (G 4), .int .i64 (G 5), .int .i64 (G 6), .int .i64 (G 7), .int .i64 (G 8), .int .i64 (G 9), .int .i64 (G 10), .int .i64 (G 11), .int .i64 (G 12), .int .i64 (G 13), .int .i64 (G 14), .int .i64 (G 15)] t (0, 0)) := heap_alloc_new _ _
  refine ⟨?_, frozen_of_row _ _ _ _ _ hh⟩
  have h : j = 0 ∨ j = 1 ∨ j = 2 ∨ j = 3 ∨ j = 4 ∨ j = 5 ∨ j = 6 ∨ j = 7 ∨ j = 8 ∨ j = 9 ∨ j = 10 ∨ j = 11 ∨ j = 12 ∨ j = 13 ∨ j = 14 ∨ j = 15 := by omega
  rw [cell_of_row _ _ _ _ _ _ hh]
  rcases h with rfl | rfl | rfl | rfl | rfl | rfl | rfl | rfl | rfl | rfl | rfl | rfl | rfl | rfl | rfl | rfl
  all_goals rfl
def one (G : Nat → Int) (a : Nat) : Nat → Int := fun i => if i = a then -1 else G i
theorem set_one (G : Nat → Int) (a : Nat) (ha : a < 16) : (#[.int .i64 (G 0), .int .i64 (G 1), .int .i64 (G 2), .int .i64 (G 3), .int .i64 (G 4), .int .i64 (G 5), .int .i64 (G 6), .int .i64 (G 7), .int .i64 (G 8), .int .i64 (G 9), .int .i64 (G 10), .int .i64 (G 11), .int .i64 (G 12), .int .i64 (G 13), .int .i64 (G 14), .int .i64 (G 15)] : Array Value).setIfInBounds a (.int .i64 (-1)) = #[.int .i64 ((one G a) 0), .int .i64 ((one G a) 1), .int .i64 ((one G a) 2), .int .i64 ((one G a) 3), .int .i64 ((one G a) 4), .int .i64 ((one G a) 5), .int .i64 ((one G a) 6), .int .i64 ((one G a) 7), .int .i64 ((one G a) 8), .int .i64 ((one G a) 9), .int .i64 ((one G a) 10), .int .i64 ((one G a) 11), .int .i64 ((one G a) 12), .int .i64 ((one G a) 13), .int .i64 ((one G a) 14), .int .i64 ((one G a) 15)] := by
  have h : a = 0 ∨ a = 1 ∨ a = 2 ∨ a = 3 ∨ a = 4 ∨ a = 5 ∨ a = 6 ∨ a = 7 ∨ a = 8 ∨ a = 9 ∨ a = 10 ∨ a = 11 ∨ a = 12 ∨ a = 13 ∨ a = 14 ∨ a = 15 := by omega
  rcases h with rfl | rfl | rfl | rfl | rfl | rfl | rfl | rfl | rfl | rfl | rfl | rfl | rfl | rfl | rfl | rfl
  all_goals rfl
set_option maxRecDepth 20000 in
set_option maxHeartbeats 4000000 in
theorem turned_core (F G : Nat → Int) (k j : Int) (a b : Nat) (n m mn : Int) (w : World) (k0 : 0 ≤ k) (k1 : k ≤ 255) (j0 : 0 ≤ j) (j1 : j ≤ 255) (ha : k % 16 = a) (hb' : j % 16 = b) (a1 : a < 16) (b1 : b < 16) (hmn : Sat.mn a b = mn) (mn0 : 0 ≤ mn) (mn1 : mn ≤ 15)
    (hC : Hid (∀ w, Calls Try.prog 10 #[.agg #[.int .i64 (F 0), .int .i64 (F 1), .int .i64 (F 2), .int .i64 (F 3), .int .i64 (F 4), .int .i64 (F 5), .int .u64 (F 6), .int .u64 (F 7), .int .i64 (F 8), .int .i64 (F 9), .int .u64 (F 10), .int .i64 (F 11), .int .u64 (F 12), .int .u64 (F 13), .int .i64 (F 14), .int .i64 (F 15)]] w fun e w' => e = .returned (.tuple #[.int .i64 n, .int .i64 m]) ∧ Below w.heap.size w w'))
    (hP : Hid (∀ w, Calls Try.prog 12 #[.agg #[.int .i64 (F 0), .int .i64 (F 1), .int .i64 (F 2), .int .i64 (F 3), .int .i64 (F 4), .int .i64 (F 5), .int .u64 (F 6), .int .u64 (F 7), .int .i64 (F 8), .int .i64 (F 9), .int .u64 (F 10), .int .i64 (F 11), .int .u64 (F 12), .int .u64 (F 13), .int .i64 (F 14), .int .i64 (F 15)]] w fun e w' => e = .returned (.agg #[.int .i64 (G 0), .int .i64 (G 1), .int .i64 (G 2), .int .i64 (G 3), .int .i64 (G 4), .int .i64 (G 5), .int .i64 (G 6), .int .i64 (G 7), .int .i64 (G 8), .int .i64 (G 9), .int .i64 (G 10), .int .i64 (G 11), .int .i64 (G 12), .int .i64 (G 13), .int .i64 (G 14), .int .i64 (G 15)]) ∧ Below w.heap.size w w'))
    (hz : ∀ w, Sem.run Try.prog (Op.equalIn 10000 24 (.agg #[.int .i64 (zero 0), .int .i64 (zero 1), .int .i64 (zero 2), .int .i64 (zero 3), .int .i64 (zero 4), .int .i64 (zero 5), .int .u64 (zero 6), .int .u64 (zero 7), .int .i64 (zero 8), .int .i64 (zero 9), .int .u64 (zero 10), .int .i64 (zero 11), .int .u64 (zero 12), .int .u64 (zero 13), .int .i64 (zero 14), .int .i64 (zero 15)]) (.agg #[.int .i64 0, .int .i64 0, .int .i64 0, .int .i64 0, .int .i64 0, .int .i64 0, .int .u64 0, .int .u64 0, .int .i64 0, .int .i64 0, .int .u64 0, .int .i64 0, .int .u64 0, .int .u64 0, .int .i64 0, .int .i64 0])) w = .ok true w)
    (hcase : m = 1 ∨ m = 0 ∧ Hid (∀ w, Calls Try.prog 16 #[.agg #[.int .i64 ((one (one G a) b) 0), .int .i64 ((one (one G a) b) 1), .int .i64 ((one (one G a) b) 2), .int .i64 ((one (one G a) b) 3), .int .i64 ((one (one G a) b) 4), .int .i64 ((one (one G a) b) 5), .int .i64 ((one (one G a) b) 6), .int .i64 ((one (one G a) b) 7), .int .i64 ((one (one G a) b) 8), .int .i64 ((one (one G a) b) 9), .int .i64 ((one (one G a) b) 10), .int .i64 ((one (one G a) b) 11), .int .i64 ((one (one G a) b) 12), .int .i64 ((one (one G a) b) 13), .int .i64 ((one (one G a) b) 14), .int .i64 ((one (one G a) b) 15)]] w fun e w' => e = .returned (.tuple #[.agg #[.int .i64 (zero 0), .int .i64 (zero 1), .int .i64 (zero 2), .int .i64 (zero 3), .int .i64 (zero 4), .int .i64 (zero 5), .int .u64 (zero 6), .int .u64 (zero 7), .int .i64 (zero 8), .int .i64 (zero 9), .int .u64 (zero 10), .int .i64 (zero 11), .int .u64 (zero 12), .int .u64 (zero 13), .int .i64 (zero 14), .int .i64 (zero 15)], .int .i64 (mn + 1), .int .i64 1]) ∧ Below w.heap.size w w')) :
    Calls Try.prog 6 #[.agg #[.int .i64 (F 0), .int .i64 (F 1), .int .i64 (F 2), .int .i64 (F 3), .int .i64 (F 4), .int .i64 (F 5), .int .u64 (F 6), .int .u64 (F 7), .int .i64 (F 8), .int .i64 (F 9), .int .u64 (F 10), .int .i64 (F 11), .int .u64 (F 12), .int .u64 (F 13), .int .i64 (F 14), .int .i64 (F 15)], .int .u8 k, .int .u8 j] w fun e w' => e = .returned (.bool true) ∧ Below w.heap.size w w' := by
  go_enter Try.func6, Try.ntmps6
  go_wp2_with fail
  refine (awake_calls _).mono ?_
  rintro e w1 ⟨rfl, hl⟩
  have hb := hid (via ((Below.refl _ _).alloc (Nat.le_refl _) _) hl)
  have hc : w1.cell? ⟨w.heap.size, 0, none⟩ = some (.int .i64 (F 0)) ∧ w1.cell? ⟨w.heap.size, 1, none⟩ = some (.int .i64 (F 1)) ∧ w1.cell? ⟨w.heap.size, 2, none⟩ = some (.int .i64 (F 2)) ∧ w1.cell? ⟨w.heap.size, 3, none⟩ = some (.int .i64 (F 3)) ∧ w1.cell? ⟨w.heap.size, 4, none⟩ = some (.int .i64 (F 4)) ∧ w1.cell? ⟨w.heap.size, 5, none⟩ = some (.int .i64 (F 5)) ∧ w1.cell? ⟨w.heap.size, 6, none⟩ = some (.int .u64 (F 6)) ∧ w1.cell? ⟨w.heap.size, 7, none⟩ = some (.int .u64 (F 7)) ∧ w1.cell? ⟨w.heap.size, 8, none⟩ = some (.int .i64 (F 8)) ∧ w1.cell? ⟨w.heap.size, 9, none⟩ = some (.int .i64 (F 9)) ∧ w1.cell? ⟨w.heap.size, 10, none⟩ = some (.int .u64 (F 10)) ∧ w1.cell? ⟨w.heap.size, 11, none⟩ = some (.int .i64 (F 11)) ∧ w1.cell? ⟨w.heap.size, 12, none⟩ = some (.int .u64 (F 12)) ∧ w1.cell? ⟨w.heap.size, 13, none⟩ = some (.int .u64 (F 13)) ∧ w1.cell? ⟨w.heap.size, 14, none⟩ = some (.int .i64 (F 14)) ∧ w1.cell? ⟨w.heap.size, 15, none⟩ = some (.int .i64 (F 15)) := by
    (repeat' apply And.intro) <;> exact cell_of hl (by simp [go_sem])
  obtain ⟨c0, c1, c2, c3, c4, c5, c6, c7, c8, c9, c10, c11, c12, c13, c14, c15⟩ := hc
  clear hl
  as_aux_lemma =>
    go_wp2_with fail
    refine (hC.out _).mono ?_
    rintro e w2 ⟨rfl, hl⟩
    have hb2 := hid (via hb.out hl)
    replace c0 := cell_of hl c0
    replace c1 := cell_of hl c1
    replace c2 := cell_of hl c2
    replace c3 := cell_of hl c3
    replace c4 := cell_of hl c4
    replace c5 := cell_of hl c5
    replace c6 := cell_of hl c6
    replace c7 := cell_of hl c7
    replace c8 := cell_of hl c8
    replace c9 := cell_of hl c9
    replace c10 := cell_of hl c10
    replace c11 := cell_of hl c11
    replace c12 := cell_of hl c12
    replace c13 := cell_of hl c13
    replace c14 := cell_of hl c14
    replace c15 := cell_of hl c15
    clear hl hb
    rcases hcase with rfl | ⟨rfl, hT⟩
    · go_wp2_with fail
      go_ret
      exact ⟨ret_bool (by simp), hb2.out⟩
    · go_wp2_with fail
      refine (hP.out _).mono ?_
      rintro e w3 ⟨rfl, hl⟩
      have hb3 := hid (via hb2.out hl)
      clear hl hb2 c0 c1 c2 c3 c4 c5 c6 c7 c8 c9 c10 c11 c12 c13 c14 c15
      have i1 : (0 : Int) ≤ a := by omega
      have i2 : (a : Int).toNat = a := by omega
      have i3 : (a : Int) < 16 := by omega
      have i4 : (0 : Int) ≤ b := by omega
      have i5 : (b : Int).toNat = b := by omega
      have i6 : (b : Int) < 16 := by omega
      have ra1 := fun t => (row16 (w := w3) G t rfl a a1).1
      have ra2 := fun t => (row16 (w := w3) G t rfl a a1).2
      have rb1 := fun t => (row16 (w := w3) (one G a) t rfl b b1).1
      have rb2 := fun t => (row16 (w := w3) (one G a) t rfl b b1).2
      have s1 := set_one G a a1
      have s2 := set_one (one G a) b b1
      as_aux_lemma =>
        go_wp2_with fail
        refine (hT.out _).mono ?_
        rintro e w4 ⟨rfl, hl⟩
        have hb4 := hid (via (hb3.out.alloc hb3.out.size _) hl)
        clear hl ra1 ra2 rb1 rb2 s1 s2
        go_wp2_with fail
        go_ret
        exact ⟨ret_bool (by simp), hb4.out.alloc hb4.out.size _⟩
theorem ok_zero : Ok zero := by unfold Ok zero; decide
set_option maxHeartbeats 2000000 in
theorem confTurned_walk {H : Type} {enc : TypeId × Value → H} (W : World) (a0_0 : Int) (a0_1 : Int) (a0_2 : Int) (a0_3 : Int) (a0_4 : Int) (a0_5 : Int) (a0_6 : Int) (a0_7 : Int) (a0_8 : Int) (a0_9 : Int) (a0_10 : Int) (a0_11 : Int) (a0_12 : Int) (a0_13 : Int) (a0_14 : Int) (a0_15 : Int) (w0_0 : (Lit.int .i64 a0_0).wf = true) (w0_1 : (Lit.int .i64 a0_1).wf = true) (w0_2 : (Lit.int .i64 a0_2).wf = true) (w0_3 : (Lit.int .i64 a0_3).wf = true) (w0_4 : (Lit.int .i64 a0_4).wf = true) (w0_5 : (Lit.int .i64 a0_5).wf = true) (w0_6 : (Lit.int .u64 a0_6).wf = true) (w0_7 : (Lit.int .u64 a0_7).wf = true) (w0_8 : (Lit.int .i64 a0_8).wf = true) (w0_9 : (Lit.int .i64 a0_9).wf = true) (w0_10 : (Lit.int .u64 a0_10).wf = true) (w0_11 : (Lit.int .i64 a0_11).wf = true) (w0_12 : (Lit.int .u64 a0_12).wf = true) (w0_13 : (Lit.int .u64 a0_13).wf = true) (w0_14 : (Lit.int .i64 a0_14).wf = true) (w0_15 : (Lit.int .i64 a0_15).wf = true) (a1 : Int) (w1 : (Lit.int .u8 a1).wf = true) (a2 : Int) (w2 : (Lit.int .u8 a2).wf = true) :
    Calls Try.prog 6 #[.agg #[.int .i64 a0_0, .int .i64 a0_1, .int .i64 a0_2, .int .i64 a0_3, .int .i64 a0_4, .int .i64 a0_5, .int .u64 a0_6, .int .u64 a0_7, .int .i64 a0_8, .int .i64 a0_9, .int .u64 a0_10, .int .i64 a0_11, .int .u64 a0_12, .int .u64 a0_13, .int .i64 a0_14, .int .i64 a0_15], .int .u8 a1, .int .u8 a2] W fun e w' => e = .returned (.bool true) ∧ Below W.heap.size W w' := by
  have hF : Ok (pick a0_0 a0_1 a0_2 a0_3 a0_4 a0_5 a0_6 a0_7 a0_8 a0_9 a0_10 a0_11 a0_12 a0_13 a0_14 a0_15) := ⟨i_of w0_0, i_of w0_1, i_of w0_2, i_of w0_3, i_of w0_4, i_of w0_5, u_of w0_6, u_of w0_7, i_of w0_8, i_of w0_9, u_of w0_10, i_of w0_11, u_of w0_12, u_of w0_13, i_of w0_14, i_of w0_15⟩
  have hT : Tail (pick a0_0 a0_1 a0_2 a0_3 a0_4 a0_5 a0_6 a0_7 a0_8 a0_9 a0_10 a0_11 a0_12 a0_13 a0_14 a0_15) := fun n => rfl
  obtain ⟨k0, k1⟩ := Sat.wf_u8 w1
  obtain ⟨j0, j1⟩ := Sat.wf_u8 w2
  obtain ⟨a, ha⟩ := Int.eq_ofNat_of_zero_le (a := a1 % 16) (by omega)
  obtain ⟨b, hb⟩ := Int.eq_ofNat_of_zero_le (a := a2 % 16) (by omega)
  have hC := check_calls _ (in_put hF hT)
  have hm : 0 ≤ Sat.mn a b ∧ Sat.mn a b ≤ 15 := by unfold Sat.mn; split <;> omega
  refine turned_core (pick a0_0 a0_1 a0_2 a0_3 a0_4 a0_5 a0_6 a0_7 a0_8 a0_9 a0_10 a0_11 a0_12 a0_13 a0_14 a0_15) (put (pick a0_0 a0_1 a0_2 a0_3 a0_4 a0_5 a0_6 a0_7 a0_8 a0_9 a0_10 a0_11 a0_12 a0_13 a0_14 a0_15)) a1 a2 a b _ _ _ W k0 (by omega) j0 (by omega) ha hb (by omega) (by omega) rfl hm.1 hm.2 (hid hC) (hid (put_calls _)) (eq_conf ok_zero ok_zero true (by simp)) ?_
  rcases errno_or (pick a0_0 a0_1 a0_2 a0_3 a0_4 a0_5 a0_6 a0_7 a0_8 a0_9 a0_10 a0_11 a0_12 a0_13 a0_14 a0_15) with ⟨h, _⟩ | ⟨h, h2⟩
  · exact .inl h
  · refine .inr ⟨h, hid fun w => ?_⟩
    have hc := turn_bad hF hT h2 (a := a) (b := b) (by omega) (by omega)
    refine (take_calls (turn (put (pick a0_0 a0_1 a0_2 a0_3 a0_4 a0_5 a0_6 a0_7 a0_8 a0_9 a0_10 a0_11 a0_12 a0_13 a0_14 a0_15)) a b) (turn_in (in_put hF hT) a b) w).mono fun e w' hh => ⟨?_, hh.2⟩
    rcases hh.1 with ⟨h3, _⟩ | ⟨_, h3⟩
    · rw [hc] at h3
      omega
    · rw [hc] at h3
      rw [h3, show ((min a b + 1 : Nat) : Int) = Sat.mn a b + 1 from by unfold Sat.mn; split <;> omega]
end Go.Proofs.Ytnednhdbghkcnaa.C08
