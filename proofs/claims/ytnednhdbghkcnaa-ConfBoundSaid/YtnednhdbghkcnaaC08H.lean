/- The walks of the laws ConfBack and ConfTurned. -/
import Derived.Test.YtnednhdbghkcnaaC08G
namespace Go.Proofs.Ytnednhdbghkcnaa.C08
open Go.RowKit Go.Proofs.Ytnednhdbghkcnaa
set_option linter.unusedVariables false
set_option linter.unusedSimpArgs false
set_option linter.unnecessarySimpa false
attribute [local go_sem] C01.max2_mx C01.min2_mn C01.max_two C01.min_two
theorem u64_w64 {x : Int} (h : U x) : IntKind.u64.wrap (wrap64 x) = x := by rw [Sat.wrap_u64]; unfold wrap64; omega
theorem ofn_put {F : Nat → Int} (hF : Ok F) : ofn (put F) = F := by
  obtain ⟨k0, k1, k2, k3, k4, k5, k6, k7, k8, k9, k10, k11, k12, k13, k14, k15⟩ := hF
  funext j
  match j with
  | 0 => rfl
  | 1 => rfl
  | 2 => rfl
  | 3 => rfl
  | 4 => rfl
  | 5 => rfl
  | 6 => exact u64_w64 k6
  | 7 => exact u64_w64 k7
  | 8 => rfl
  | 9 => rfl
  | 10 => exact u64_w64 k10
  | 11 => rfl
  | 12 => exact u64_w64 k12
  | 13 => exact u64_w64 k13
  | 14 => rfl
  | 15 => rfl
  | n + 16 => rfl
theorem take_put {F : Nat → Int} (hF : Ok F) (hT : Tail F) (w : World) :
    Calls Try.prog 16 #[.agg #[.int .i64 ((put F) 0), .int .i64 ((put F) 1), .int .i64 ((put F) 2), .int .i64 ((put F) 3), .int .i64 ((put F) 4), .int .i64 ((put F) 5), .int .i64 ((put F) 6), .int .i64 ((put F) 7), .int .i64 ((put F) 8), .int .i64 ((put F) 9), .int .i64 ((put F) 10), .int .i64 ((put F) 11), .int .i64 ((put F) 12), .int .i64 ((put F) 13), .int .i64 ((put F) 14), .int .i64 ((put F) 15)]] w fun e w' => (chk F = 0 ∧ e = .returned (.tuple #[.agg #[.int .i64 (F 0), .int .i64 (F 1), .int .i64 (F 2), .int .i64 (F 3), .int .i64 (F 4), .int .i64 (F 5), .int .u64 (F 6), .int .u64 (F 7), .int .i64 (F 8), .int .i64 (F 9), .int .u64 (F 10), .int .i64 (F 11), .int .u64 (F 12), .int .u64 (F 13), .int .i64 (F 14), .int .i64 (F 15)], .int .i64 0, .int .i64 0]) ∨ 0 < chk F ∧ e = .returned (.tuple #[.agg #[.int .i64 (zero 0), .int .i64 (zero 1), .int .i64 (zero 2), .int .i64 (zero 3), .int .i64 (zero 4), .int .i64 (zero 5), .int .u64 (zero 6), .int .u64 (zero 7), .int .i64 (zero 8), .int .i64 (zero 9), .int .u64 (zero 10), .int .i64 (zero 11), .int .u64 (zero 12), .int .u64 (zero 13), .int .i64 (zero 14), .int .i64 (zero 15)], .int .i64 (chk F : Nat), .int .i64 1])) ∧ Below w.heap.size w w' := by
  have := take_calls (put F) (in_put hF hT) w
  rw [ofn_put hF] at this
  exact this
set_option maxRecDepth 20000 in
set_option maxHeartbeats 4000000 in
theorem back_core (F G D : Nat → Int) (n m k : Int) (w : World)
    (hC : Hid (∀ w, Calls Try.prog 10 #[.agg #[.int .i64 (F 0), .int .i64 (F 1), .int .i64 (F 2), .int .i64 (F 3), .int .i64 (F 4), .int .i64 (F 5), .int .u64 (F 6), .int .u64 (F 7), .int .i64 (F 8), .int .i64 (F 9), .int .u64 (F 10), .int .i64 (F 11), .int .u64 (F 12), .int .u64 (F 13), .int .i64 (F 14), .int .i64 (F 15)]] w fun e w' => e = .returned (.tuple #[.int .i64 n, .int .i64 m]) ∧ Below w.heap.size w w'))
    (hP : Hid (∀ w, Calls Try.prog 12 #[.agg #[.int .i64 (F 0), .int .i64 (F 1), .int .i64 (F 2), .int .i64 (F 3), .int .i64 (F 4), .int .i64 (F 5), .int .u64 (F 6), .int .u64 (F 7), .int .i64 (F 8), .int .i64 (F 9), .int .u64 (F 10), .int .i64 (F 11), .int .u64 (F 12), .int .u64 (F 13), .int .i64 (F 14), .int .i64 (F 15)]] w fun e w' => e = .returned (.agg #[.int .i64 (G 0), .int .i64 (G 1), .int .i64 (G 2), .int .i64 (G 3), .int .i64 (G 4), .int .i64 (G 5), .int .i64 (G 6), .int .i64 (G 7), .int .i64 (G 8), .int .i64 (G 9), .int .i64 (G 10), .int .i64 (G 11), .int .i64 (G 12), .int .i64 (G 13), .int .i64 (G 14), .int .i64 (G 15)]) ∧ Below w.heap.size w w'))
    (hT : Hid (∀ w, Calls Try.prog 16 #[.agg #[.int .i64 (G 0), .int .i64 (G 1), .int .i64 (G 2), .int .i64 (G 3), .int .i64 (G 4), .int .i64 (G 5), .int .i64 (G 6), .int .i64 (G 7), .int .i64 (G 8), .int .i64 (G 9), .int .i64 (G 10), .int .i64 (G 11), .int .i64 (G 12), .int .i64 (G 13), .int .i64 (G 14), .int .i64 (G 15)]] w fun e w' => e = .returned (.tuple #[.agg #[.int .i64 (D 0), .int .i64 (D 1), .int .i64 (D 2), .int .i64 (D 3), .int .i64 (D 4), .int .i64 (D 5), .int .u64 (D 6), .int .u64 (D 7), .int .i64 (D 8), .int .i64 (D 9), .int .u64 (D 10), .int .i64 (D 11), .int .u64 (D 12), .int .u64 (D 13), .int .i64 (D 14), .int .i64 (D 15)], .int .i64 k, .int .i64 m]) ∧ Below w.heap.size w w'))
    (hcase : m = 1 ∨ m = 0 ∧ ∀ w, Sem.run Try.prog (Op.equalIn 10000 24 (.agg #[.int .i64 (D 0), .int .i64 (D 1), .int .i64 (D 2), .int .i64 (D 3), .int .i64 (D 4), .int .i64 (D 5), .int .u64 (D 6), .int .u64 (D 7), .int .i64 (D 8), .int .i64 (D 9), .int .u64 (D 10), .int .i64 (D 11), .int .u64 (D 12), .int .u64 (D 13), .int .i64 (D 14), .int .i64 (D 15)]) (.agg #[.int .i64 (F 0), .int .i64 (F 1), .int .i64 (F 2), .int .i64 (F 3), .int .i64 (F 4), .int .i64 (F 5), .int .u64 (F 6), .int .u64 (F 7), .int .i64 (F 8), .int .i64 (F 9), .int .u64 (F 10), .int .i64 (F 11), .int .u64 (F 12), .int .u64 (F 13), .int .i64 (F 14), .int .i64 (F 15)])) w = .ok true w) :
    Calls Try.prog 5 #[.agg #[.int .i64 (F 0), .int .i64 (F 1), .int .i64 (F 2), .int .i64 (F 3), .int .i64 (F 4), .int .i64 (F 5), .int .u64 (F 6), .int .u64 (F 7), .int .i64 (F 8), .int .i64 (F 9), .int .u64 (F 10), .int .i64 (F 11), .int .u64 (F 12), .int .u64 (F 13), .int .i64 (F 14), .int .i64 (F 15)]] w fun e w' => e = .returned (.bool true) ∧ Below w.heap.size w w' := by
  go_enter Try.func5, Try.ntmps5
  go_wp2_with fail
  refine (awake_calls _).mono ?_
  rintro e w1 ⟨rfl, hl⟩
  have hb := hid (via ((Below.refl _ _).alloc (Nat.le_refl _) _) hl)
  have hc : w1.cell? ⟨w.heap.size, 0, none⟩ = some (.int .i64 (F 0)) ∧ w1.cell? ⟨w.heap.size, 1, none⟩ = some (.int .i64 (F 1)) ∧ w1.cell? ⟨w.heap.size, 2, none⟩ = some (.int .i64 (F 2)) ∧ w1.cell? ⟨w.heap.size, 3, none⟩ = some (.int .i64 (F 3)) ∧ w1.cell? ⟨w.heap.size, 4, none⟩ = some (.int .i64 (F 4)) ∧ w1.cell? ⟨w.heap.size, 5, none⟩ = some (.int .i64 (F 5)) ∧ w1.cell? ⟨w.heap.size, 6, none⟩ = some (.int .u64 (F 6)) ∧ w1.cell? ⟨w.heap.size, 7, none⟩ = some (.int .u64 (F 7)) ∧ w1.cell? ⟨w.heap.size, 8, none⟩ = some (.int .i64 (F 8)) ∧ w1.cell? ⟨w.heap.size, 9, none⟩ = some (.int .i64 (F 9)) ∧ w1.cell? ⟨w.heap.size, 10, none⟩ = some (.int .u64 (F 10)) ∧ w1.cell? ⟨w.heap.size, 11, none⟩ = some (.int .i64 (F 11)) ∧ w1.cell? ⟨w.heap.size, 12, none⟩ = some (.int .u64 (F 12)) ∧ w1.cell? ⟨w.heap.size, 13, none⟩ = some (.int .u64 (F 13)) ∧ w1.cell? ⟨w.heap.size, 14, none⟩ = some (.int .i64 (F 14)) ∧ w1.cell? ⟨w.heap.size, 15, none⟩ = some (.int .i64 (F 15)) := by
    (repeat' apply And.intro) <;> exact cell_of hl (by simp [go_sem])
  obtain ⟨c0, c1, c2, c3, c4, c5, c6, c7, c8, c9, c10, c11, c12, c13, c14, c15⟩ := hc
  clear hl
  as_aux_lemma =>
    go_wp2_with fail
    refine (hC.out _).mono ?_
    rintro e w2 ⟨rfl, hl⟩
    have hb2 := hid (via hb.out hl)
    replace c0 := cell_of hl c0
    replace c1 := cell_of hl c1
    replace c2 := cell_of hl c2
    replace c3 := cell_of hl c3
    replace c4 := cell_of hl c4
    replace c5 := cell_of hl c5
    replace c6 := cell_of hl c6
    replace c7 := cell_of hl c7
    replace c8 := cell_of hl c8
    replace c9 := cell_of hl c9
    replace c10 := cell_of hl c10
    replace c11 := cell_of hl c11
    replace c12 := cell_of hl c12
    replace c13 := cell_of hl c13
    replace c14 := cell_of hl c14
    replace c15 := cell_of hl c15
    clear hl hb
    go_wp2_with fail
    refine (hP.out _).mono ?_
    rintro e w3 ⟨rfl, hl⟩
    go_wp2_with fail
    refine (hT.out _).mono ?_
    rintro e w4 ⟨rfl, hl2⟩
    have hb4 := hid (via (via hb2.out hl) hl2)
    have c0 := fun o => cell_of (grow' w4 o) (cell_of hl2 (cell_of hl c0))
    have c1 := fun o => cell_of (grow' w4 o) (cell_of hl2 (cell_of hl c1))
    have c2 := fun o => cell_of (grow' w4 o) (cell_of hl2 (cell_of hl c2))
    have c3 := fun o => cell_of (grow' w4 o) (cell_of hl2 (cell_of hl c3))
    have c4 := fun o => cell_of (grow' w4 o) (cell_of hl2 (cell_of hl c4))
    have c5 := fun o => cell_of (grow' w4 o) (cell_of hl2 (cell_of hl c5))
    have c6 := fun o => cell_of (grow' w4 o) (cell_of hl2 (cell_of hl c6))
    have c7 := fun o => cell_of (grow' w4 o) (cell_of hl2 (cell_of hl c7))
    have c8 := fun o => cell_of (grow' w4 o) (cell_of hl2 (cell_of hl c8))
    have c9 := fun o => cell_of (grow' w4 o) (cell_of hl2 (cell_of hl c9))
    have c10 := fun o => cell_of (grow' w4 o) (cell_of hl2 (cell_of hl c10))
    have c11 := fun o => cell_of (grow' w4 o) (cell_of hl2 (cell_of hl c11))
    have c12 := fun o => cell_of (grow' w4 o) (cell_of hl2 (cell_of hl c12))
    have c13 := fun o => cell_of (grow' w4 o) (cell_of hl2 (cell_of hl c13))
    have c14 := fun o => cell_of (grow' w4 o) (cell_of hl2 (cell_of hl c14))
    have c15 := fun o => cell_of (grow' w4 o) (cell_of hl2 (cell_of hl c15))
    clear hl hl2 hb2
    rcases hcase with rfl | ⟨rfl, heq⟩
    all_goals
      as_aux_lemma =>
        go_wp2_with fail
        go_ret
        exact ⟨ret_bool (by simp), hb4.out.alloc hb4.out.size _⟩
theorem confBack_walk {H : Type} {enc : TypeId × Value → H} (W : World) (a0_0 : Int) (a0_1 : Int) (a0_2 : Int) (a0_3 : Int) (a0_4 : Int) (a0_5 : Int) (a0_6 : Int) (a0_7 : Int) (a0_8 : Int) (a0_9 : Int) (a0_10 : Int) (a0_11 : Int) (a0_12 : Int) (a0_13 : Int) (a0_14 : Int) (a0_15 : Int) (w0_0 : (Lit.int .i64 a0_0).wf = true) (w0_1 : (Lit.int .i64 a0_1).wf = true) (w0_2 : (Lit.int .i64 a0_2).wf = true) (w0_3 : (Lit.int .i64 a0_3).wf = true) (w0_4 : (Lit.int .i64 a0_4).wf = true) (w0_5 : (Lit.int .i64 a0_5).wf = true) (w0_6 : (Lit.int .u64 a0_6).wf = true) (w0_7 : (Lit.int .u64 a0_7).wf = true) (w0_8 : (Lit.int .i64 a0_8).wf = true) (w0_9 : (Lit.int .i64 a0_9).wf = true) (w0_10 : (Lit.int .u64 a0_10).wf = true) (w0_11 : (Lit.int .i64 a0_11).wf = true) (w0_12 : (Lit.int .u64 a0_12).wf = true) (w0_13 : (Lit.int .u64 a0_13).wf = true) (w0_14 : (Lit.int .i64 a0_14).wf = true) (w0_15 : (Lit.int .i64 a0_15).wf = true) :
    Calls Try.prog 5 #[.agg #[.int .i64 a0_0, .int .i64 a0_1, .int .i64 a0_2, .int .i64 a0_3, .int .i64 a0_4, .int .i64 a0_5, .int .u64 a0_6, .int .u64 a0_7, .int .i64 a0_8, .int .i64 a0_9, .int .u64 a0_10, .int .i64 a0_11, .int .u64 a0_12, .int .u64 a0_13, .int .i64 a0_14, .int .i64 a0_15]] W fun e w' => e = .returned (.bool true) ∧ Below W.heap.size W w' := by
  have hF : Ok (pick a0_0 a0_1 a0_2 a0_3 a0_4 a0_5 a0_6 a0_7 a0_8 a0_9 a0_10 a0_11 a0_12 a0_13 a0_14 a0_15) := ⟨i_of w0_0, i_of w0_1, i_of w0_2, i_of w0_3, i_of w0_4, i_of w0_5, u_of w0_6, u_of w0_7, i_of w0_8, i_of w0_9, u_of w0_10, i_of w0_11, u_of w0_12, u_of w0_13, i_of w0_14, i_of w0_15⟩
  have hT : Tail (pick a0_0 a0_1 a0_2 a0_3 a0_4 a0_5 a0_6 a0_7 a0_8 a0_9 a0_10 a0_11 a0_12 a0_13 a0_14 a0_15) := fun n => rfl
  rcases errno_or (pick a0_0 a0_1 a0_2 a0_3 a0_4 a0_5 a0_6 a0_7 a0_8 a0_9 a0_10 a0_11 a0_12 a0_13 a0_14 a0_15) with ⟨h, h2⟩ | ⟨h, h2⟩
  · have hC := check_calls _ (in_put hF hT)
    rw [h] at hC
    refine back_core (pick a0_0 a0_1 a0_2 a0_3 a0_4 a0_5 a0_6 a0_7 a0_8 a0_9 a0_10 a0_11 a0_12 a0_13 a0_14 a0_15) (put (pick a0_0 a0_1 a0_2 a0_3 a0_4 a0_5 a0_6 a0_7 a0_8 a0_9 a0_10 a0_11 a0_12 a0_13 a0_14 a0_15)) zero _ 1 (chk (pick a0_0 a0_1 a0_2 a0_3 a0_4 a0_5 a0_6 a0_7 a0_8 a0_9 a0_10 a0_11 a0_12 a0_13 a0_14 a0_15) : Nat) W (hid hC) (hid (put_calls _)) (hid fun w => (take_put hF hT w).mono fun e w' hh => ⟨?_, hh.2⟩) (.inl rfl)
    rcases hh.1 with ⟨h3, _⟩ | ⟨_, h3⟩
    · omega
    · exact h3
  · have hC := check_calls _ (in_put hF hT)
    rw [h] at hC
    refine back_core (pick a0_0 a0_1 a0_2 a0_3 a0_4 a0_5 a0_6 a0_7 a0_8 a0_9 a0_10 a0_11 a0_12 a0_13 a0_14 a0_15) (put (pick a0_0 a0_1 a0_2 a0_3 a0_4 a0_5 a0_6 a0_7 a0_8 a0_9 a0_10 a0_11 a0_12 a0_13 a0_14 a0_15)) (pick a0_0 a0_1 a0_2 a0_3 a0_4 a0_5 a0_6 a0_7 a0_8 a0_9 a0_10 a0_11 a0_12 a0_13 a0_14 a0_15) _ 0 0 W (hid hC) (hid (put_calls _)) (hid fun w => (take_put hF hT w).mono fun e w' hh => ⟨?_, hh.2⟩) (.inr ⟨rfl, eq_conf hF hF true (by simp)⟩)
    rcases hh.1 with ⟨_, h3⟩ | ⟨h3, _⟩
    · exact h3
    · omega
end Go.Proofs.Ytnednhdbghkcnaa.C08
