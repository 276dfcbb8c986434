/- The walks of the laws ConfModes and ConfBack. -/
import Derived.Test.YtnednhdbghkcnaaC08F
namespace Go.Proofs.Ytnednhdbghkcnaa.C08
open Go.RowKit Go.Proofs.Ytnednhdbghkcnaa
set_option linter.unusedVariables false
set_option linter.unusedSimpArgs false
set_option linter.unnecessarySimpa false
attribute [local go_sem] C01.max2_mx C01.min2_mn C01.max_two C01.min_two
theorem bad_zero {p : Nat → Bool} : ∀ (m k : Nat), bad p m k = 0 → ∀ j, k ≤ j → j < k + m → p j = true := by
  intro m
  induction m with
  | zero => intro k _ j h1 h2; omega
  | succ m ih =>
    intro k h j h1 h2
    unfold bad at h
    split at h
    · rename_i hp
      by_cases hj : j = k
      · subst hj; exact hp
      · exact ih (k + 1) h j (by omega) (by omega)
    · omega
theorem fine_of {F : Nat → Int} (h : chk F = 0) (j : Nat) (hj : j < 16) : lo F j ≤ put F j ∧ put F j ≤ hi F j := of_decide_eq_true (bad_zero 16 0 h j (by omega) (by omega))
theorem w64_of {x a b : Int} (h : U x) (h0 : 0 ≤ a) (h1 : a ≤ wrap64 x) (h2 : wrap64 x ≤ b) (hb : b ≤ 9223372036854775807) : a ≤ x ∧ x ≤ b := by unfold wrap64 at *; omega
theorem modes_plain {F : Nat → Int} (hF : Ok F) (h : chk F = 0) : (F 0 = 1 ∧ 1 ≤ F 1 ∧ F 3 = 0 ∨ F 0 = 2 ∧ F 1 = 0 ∧ F 2 = 0 ∧ 1 ≤ F 3) ∧ (F 13 = 0 ∧ F 14 = 0 ∨ 1 ≤ F 13 ∧ 1 ≤ F 14) ∧ 1 ≤ F 6 ∧ 1 ≤ F 12 := by
  have f0 : 1 ≤ F 0 ∧ F 0 ≤ 2 := fine_of h 0 (by omega)
  have f1 : sel (F 0 == 1) 1 ≤ F 1 ∧ F 1 ≤ sel (F 0 == 1) 8 := fine_of h 1 (by omega)
  have f2 : sel (F 0 == 1) 0 ≤ F 2 ∧ F 2 ≤ sel (F 0 == 1) 8 := fine_of h 2 (by omega)
  have f3 : sel (F 0 == 2) 1 ≤ F 3 ∧ F 3 ≤ sel (F 0 == 2) 8 := fine_of h 3 (by omega)
  have f6 : 1 ≤ wrap64 (F 6) ∧ wrap64 (F 6) ≤ 1099511627776 := fine_of h 6 (by omega)
  have f12 : 1 ≤ wrap64 (F 12) ∧ wrap64 (F 12) ≤ 1099511627776 := fine_of h 12 (by omega)
  have f14 : sel (decide (0 < F 13)) 1 ≤ F 14 ∧ F 14 ≤ sel (decide (0 < F 13)) 4 := fine_of h 14 (by omega)
  obtain ⟨k0, k1, k2, k3, k4, k5, k6, k7, k8, k9, k10, k11, k12, k13, k14, k15⟩ := hF
  have g6 := (w64_of k6 (by omega) f6.1 f6.2 (by omega)).1
  have g12 := (w64_of k12 (by omega) f12.1 f12.2 (by omega)).1
  refine ⟨?_, ?_, g6, g12⟩
  · have h01 : F 0 = 1 ∨ F 0 = 2 := by omega
    rcases h01 with e | e
    · rw [e] at f1 f3
      have : sel ((1 : Int) == 2) 1 = 0 ∧ sel ((1 : Int) == 2) 8 = 0 ∧ sel ((1 : Int) == 1) 1 = 1 := by decide
      left; omega
    · rw [e] at f1 f2 f3
      have : sel ((2 : Int) == 2) 1 = 1 ∧ sel ((2 : Int) == 1) 8 = 0 ∧ sel ((2 : Int) == 1) 1 = 0 ∧ sel ((2 : Int) == 1) 0 = 0 := by decide
      right; omega
  · by_cases e : 0 < F 13
    · rw [decide_eq_true e] at f14
      have : sel true 1 = 1 := rfl
      right; omega
    · rw [decide_eq_false e] at f14
      have : sel false 1 = 0 ∧ sel false 4 = 0 := ⟨rfl, rfl⟩
      have := k13.1
      left; omega
set_option maxRecDepth 20000 in
set_option maxHeartbeats 4000000 in
theorem modes_core (F : Nat → Int) (n m : Int) (w : World)
    (hC : Hid (∀ w, Calls Try.prog 10 #[.agg #[.int .i64 (F 0), .int .i64 (F 1), .int .i64 (F 2), .int .i64 (F 3), .int .i64 (F 4), .int .i64 (F 5), .int .u64 (F 6), .int .u64 (F 7), .int .i64 (F 8), .int .i64 (F 9), .int .u64 (F 10), .int .i64 (F 11), .int .u64 (F 12), .int .u64 (F 13), .int .i64 (F 14), .int .i64 (F 15)]] w fun e w' => e = .returned (.tuple #[.int .i64 n, .int .i64 m]) ∧ Below w.heap.size w w'))
    (hcase : m = 1 ∨ m = 0 ∧ (F 0 = 1 ∧ 1 ≤ F 1 ∧ F 3 = 0 ∨ F 0 = 2 ∧ F 1 = 0 ∧ F 2 = 0 ∧ 1 ≤ F 3) ∧ (F 13 = 0 ∧ F 14 = 0 ∨ 1 ≤ F 13 ∧ 1 ≤ F 14) ∧ 1 ≤ F 6 ∧ 1 ≤ F 12) :
    Calls Try.prog 8 #[.agg #[.int .i64 (F 0), .int .i64 (F 1), .int .i64 (F 2), .int .i64 (F 3), .int .i64 (F 4), .int .i64 (F 5), .int .u64 (F 6), .int .u64 (F 7), .int .i64 (F 8), .int .i64 (F 9), .int .u64 (F 10), .int .i64 (F 11), .int .u64 (F 12), .int .u64 (F 13), .int .i64 (F 14), .int .i64 (F 15)]] w fun e w' => e = .returned (.bool true) ∧ Below w.heap.size w w' := by
  go_enter Try.func8, Try.ntmps8
  go_wp2_with fail
  refine (awake_calls _).mono ?_
  rintro e w1 ⟨rfl, hl⟩
  have hb := hid (via ((Below.refl _ _).alloc (Nat.le_refl _) _) hl)
  have hc : w1.cell? ⟨w.heap.size, 0, none⟩ = some (.int .i64 (F 0)) ∧ w1.cell? ⟨w.heap.size, 1, none⟩ = some (.int .i64 (F 1)) ∧ w1.cell? ⟨w.heap.size, 2, none⟩ = some (.int .i64 (F 2)) ∧ w1.cell? ⟨w.heap.size, 3, none⟩ = some (.int .i64 (F 3)) ∧ w1.cell? ⟨w.heap.size, 4, none⟩ = some (.int .i64 (F 4)) ∧ w1.cell? ⟨w.heap.size, 5, none⟩ = some (.int .i64 (F 5)) ∧ w1.cell? ⟨w.heap.size, 6, none⟩ = some (.int .u64 (F 6)) ∧ w1.cell? ⟨w.heap.size, 7, none⟩ = some (.int .u64 (F 7)) ∧ w1.cell? ⟨w.heap.size, 8, none⟩ = some (.int .i64 (F 8)) ∧ w1.cell? ⟨w.heap.size, 9, none⟩ = some (.int .i64 (F 9)) ∧ w1.cell? ⟨w.heap.size, 10, none⟩ = some (.int .u64 (F 10)) ∧ w1.cell? ⟨w.heap.size, 11, none⟩ = some (.int .i64 (F 11)) ∧ w1.cell? ⟨w.heap.size, 12, none⟩ = some (.int .u64 (F 12)) ∧ w1.cell? ⟨w.heap.size, 13, none⟩ = some (.int .u64 (F 13)) ∧ w1.cell? ⟨w.heap.size, 14, none⟩ = some (.int .i64 (F 14)) ∧ w1.cell? ⟨w.heap.size, 15, none⟩ = some (.int .i64 (F 15)) := by
    (repeat' apply And.intro) <;> exact cell_of hl (by simp [go_sem])
  obtain ⟨c0, c1, c2, c3, c4, c5, c6, c7, c8, c9, c10, c11, c12, c13, c14, c15⟩ := hc
  clear hl
  as_aux_lemma =>
    go_wp2_with fail
    refine (hC.out _).mono ?_
    rintro e w2 ⟨rfl, hl⟩
    have hb2 := hid (via hb.out hl)
    replace c0 := cell_of hl c0
    replace c1 := cell_of hl c1
    replace c2 := cell_of hl c2
    replace c3 := cell_of hl c3
    replace c4 := cell_of hl c4
    replace c5 := cell_of hl c5
    replace c6 := cell_of hl c6
    replace c7 := cell_of hl c7
    replace c8 := cell_of hl c8
    replace c9 := cell_of hl c9
    replace c10 := cell_of hl c10
    replace c11 := cell_of hl c11
    replace c12 := cell_of hl c12
    replace c13 := cell_of hl c13
    replace c14 := cell_of hl c14
    replace c15 := cell_of hl c15
    clear hl c4 c5 c7 c8 c9 c10 c11 c15
    rcases hcase with rfl | ⟨rfl, hm | hm, hw, h6, h12⟩
    · go_wp2_with fail
      go_ret
      exact ⟨rfl, hb2.out⟩
    · obtain ⟨m0, m1, m2⟩ := hm
      have d1 : decide (0 < F 1) = true := decide_eq_true (by omega)
      have d6 : decide (0 < F 6) = true := decide_eq_true (by omega)
      have d12 : decide (0 < F 12) = true := decide_eq_true (by omega)
      rcases hw with ⟨e1, e2⟩ | ⟨e1, e2⟩
      · as_aux_lemma =>
          go_wp2_with fail
          go_ret
          exact ⟨ret_bool (by simp), hb2.out⟩
      · have n13 : (F 13 == 0) = false := by rw [beq_eq_false_iff_ne]; omega
        have n14 : (F 14 == 0) = false := by rw [beq_eq_false_iff_ne]; omega
        as_aux_lemma =>
          go_wp2_with fail
          go_ret
          exact ⟨ret_bool (by simp), hb2.out⟩
    · obtain ⟨m0, m1, m2, m3⟩ := hm
      have d3 : decide (0 < F 3) = true := decide_eq_true (by omega)
      have d6 : decide (0 < F 6) = true := decide_eq_true (by omega)
      have d12 : decide (0 < F 12) = true := decide_eq_true (by omega)
      rcases hw with ⟨e1, e2⟩ | ⟨e1, e2⟩
      · as_aux_lemma =>
          go_wp2_with fail
          go_ret
          exact ⟨ret_bool (by simp), hb2.out⟩
      · have n13 : (F 13 == 0) = false := by rw [beq_eq_false_iff_ne]; omega
        have n14 : (F 14 == 0) = false := by rw [beq_eq_false_iff_ne]; omega
        as_aux_lemma =>
          go_wp2_with fail
          go_ret
          exact ⟨ret_bool (by simp), hb2.out⟩
/-- Sixteen numbers by their place. -/
def pick (f0 f1 f2 f3 f4 f5 f6 f7 f8 f9 f10 f11 f12 f13 f14 f15 : Int) : Nat → Int
  | 0 => f0 | 1 => f1 | 2 => f2 | 3 => f3 | 4 => f4 | 5 => f5 | 6 => f6 | 7 => f7 | 8 => f8 | 9 => f9 | 10 => f10 | 11 => f11 | 12 => f12 | 13 => f13 | 14 => f14 | 15 => f15 | _ => 0
theorem u_of {x : Int} (h : (Lit.int .u64 x).wf = true) : U x := by have := Sat.wf_u64 h; omega
theorem i_of {x : Int} (h : (Lit.int .i64 x).wf = true) : I x := Sat.wf_i64 h
/-- Behind the sixteen there is nothing. -/
def Tail (F : Nat → Int) : Prop := ∀ n, F (n + 16) = 0
theorem i_wrap {x : Int} (h : U x) : I (wrap64 x) := by unfold wrap64; omega
theorem in_put {F : Nat → Int} (hF : Ok F) (hT : Tail F) (j : Nat) : I (put F j) := by
  obtain ⟨k0, k1, k2, k3, k4, k5, k6, k7, k8, k9, k10, k11, k12, k13, k14, k15⟩ := hF
  match j with
  | 0 => exact k0
  | 1 => exact k1
  | 2 => exact k2
  | 3 => exact k3
  | 4 => exact k4
  | 5 => exact k5
  | 6 => exact i_wrap k6
  | 7 => exact i_wrap k7
  | 8 => exact k8
  | 9 => exact k9
  | 10 => exact i_wrap k10
  | 11 => exact k11
  | 12 => exact i_wrap k12
  | 13 => exact i_wrap k13
  | 14 => exact k14
  | 15 => exact k15
  | n + 16 => have : put F (n + 16) = F (n + 16) := rfl; rw [this, hT n]; omega
theorem errno_or (F : Nat → Int) : errno (chk F) = 1 ∧ 0 < chk F ∨ errno (chk F) = 0 ∧ chk F = 0 := by
  unfold errno
  split
  · exact .inr ⟨rfl, by assumption⟩
  · exact .inl ⟨rfl, by omega⟩
theorem confModes_walk {H : Type} {enc : TypeId × Value → H} (W : World) (a0_0 : Int) (a0_1 : Int) (a0_2 : Int) (a0_3 : Int) (a0_4 : Int) (a0_5 : Int) (a0_6 : Int) (a0_7 : Int) (a0_8 : Int) (a0_9 : Int) (a0_10 : Int) (a0_11 : Int) (a0_12 : Int) (a0_13 : Int) (a0_14 : Int) (a0_15 : Int) (w0_0 : (Lit.int .i64 a0_0).wf = true) (w0_1 : (Lit.int .i64 a0_1).wf = true) (w0_2 : (Lit.int .i64 a0_2).wf = true) (w0_3 : (Lit.int .i64 a0_3).wf = true) (w0_4 : (Lit.int .i64 a0_4).wf = true) (w0_5 : (Lit.int .i64 a0_5).wf = true) (w0_6 : (Lit.int .u64 a0_6).wf = true) (w0_7 : (Lit.int .u64 a0_7).wf = true) (w0_8 : (Lit.int .i64 a0_8).wf = true) (w0_9 : (Lit.int .i64 a0_9).wf = true) (w0_10 : (Lit.int .u64 a0_10).wf = true) (w0_11 : (Lit.int .i64 a0_11).wf = true) (w0_12 : (Lit.int .u64 a0_12).wf = true) (w0_13 : (Lit.int .u64 a0_13).wf = true) (w0_14 : (Lit.int .i64 a0_14).wf = true) (w0_15 : (Lit.int .i64 a0_15).wf = true) :
    Calls Try.prog 8 #[.agg #[.int .i64 a0_0, .int .i64 a0_1, .int .i64 a0_2, .int .i64 a0_3, .int .i64 a0_4, .int .i64 a0_5, .int .u64 a0_6, .int .u64 a0_7, .int .i64 a0_8, .int .i64 a0_9, .int .u64 a0_10, .int .i64 a0_11, .int .u64 a0_12, .int .u64 a0_13, .int .i64 a0_14, .int .i64 a0_15]] W fun e w' => e = .returned (.bool true) ∧ Below W.heap.size W w' := by
  have hF : Ok (pick a0_0 a0_1 a0_2 a0_3 a0_4 a0_5 a0_6 a0_7 a0_8 a0_9 a0_10 a0_11 a0_12 a0_13 a0_14 a0_15) := ⟨i_of w0_0, i_of w0_1, i_of w0_2, i_of w0_3, i_of w0_4, i_of w0_5, u_of w0_6, u_of w0_7, i_of w0_8, i_of w0_9, u_of w0_10, i_of w0_11, u_of w0_12, u_of w0_13, i_of w0_14, i_of w0_15⟩
  have hT : Tail (pick a0_0 a0_1 a0_2 a0_3 a0_4 a0_5 a0_6 a0_7 a0_8 a0_9 a0_10 a0_11 a0_12 a0_13 a0_14 a0_15) := fun n => rfl
  refine modes_core (pick a0_0 a0_1 a0_2 a0_3 a0_4 a0_5 a0_6 a0_7 a0_8 a0_9 a0_10 a0_11 a0_12 a0_13 a0_14 a0_15) _ _ W (hid (check_calls _ (in_put hF hT))) ?_
  rcases errno_or (pick a0_0 a0_1 a0_2 a0_3 a0_4 a0_5 a0_6 a0_7 a0_8 a0_9 a0_10 a0_11 a0_12 a0_13 a0_14 a0_15) with ⟨h, _⟩ | ⟨h, h2⟩
  · exact .inl h
  · exact .inr ⟨h, modes_plain hF h2⟩
end Go.Proofs.Ytnednhdbghkcnaa.C08
