/- The walk of the law ConfTakes. -/
import Derived.Test.YtnednhdbghkcnaaC08I
namespace Go.Proofs.Ytnednhdbghkcnaa.C08
open Go.RowKit Go.Proofs.Ytnednhdbghkcnaa
set_option linter.unusedVariables false
set_option linter.unusedSimpArgs false
set_option linter.unnecessarySimpa false
attribute [local go_sem] C01.max2_mx C01.min2_mn C01.max_two C01.min_two
set_option maxRecDepth 20000 in
set_option maxHeartbeats 4000000 in
theorem takes_core (G D X : Nat → Int) (n m want : Int) (w : World)
    (hT : Hid (∀ w, Calls Try.prog 16 #[.agg #[.int .i64 (G 0), .int .i64 (G 1), .int .i64 (G 2), .int .i64 (G 3), .int .i64 (G 4), .int .i64 (G 5), .int .i64 (G 6), .int .i64 (G 7), .int .i64 (G 8), .int .i64 (G 9), .int .i64 (G 10), .int .i64 (G 11), .int .i64 (G 12), .int .i64 (G 13), .int .i64 (G 14), .int .i64 (G 15)]] w fun e w' => e = .returned (.tuple #[.agg #[.int .i64 (D 0), .int .i64 (D 1), .int .i64 (D 2), .int .i64 (D 3), .int .i64 (D 4), .int .i64 (D 5), .int .u64 (D 6), .int .u64 (D 7), .int .i64 (D 8), .int .i64 (D 9), .int .u64 (D 10), .int .i64 (D 11), .int .u64 (D 12), .int .u64 (D 13), .int .i64 (D 14), .int .i64 (D 15)], .int .i64 n, .int .i64 m]) ∧ Below w.heap.size w w'))
    (hO : Hid (∀ w, Calls Try.prog 17 #[.agg #[.int .i64 (G 0), .int .i64 (G 1), .int .i64 (G 2), .int .i64 (G 3), .int .i64 (G 4), .int .i64 (G 5), .int .i64 (G 6), .int .i64 (G 7), .int .i64 (G 8), .int .i64 (G 9), .int .i64 (G 10), .int .i64 (G 11), .int .i64 (G 12), .int .i64 (G 13), .int .i64 (G 14), .int .i64 (G 15)]] w fun e w' => e = .returned (.agg #[.int .i64 (X 0), .int .i64 (X 1), .int .i64 (X 2), .int .i64 (X 3), .int .i64 (X 4), .int .i64 (X 5), .int .u64 (X 6), .int .u64 (X 7), .int .i64 (X 8), .int .i64 (X 9), .int .u64 (X 10), .int .i64 (X 11), .int .u64 (X 12), .int .u64 (X 13), .int .i64 (X 14), .int .i64 (X 15)]) ∧ Below w.heap.size w w'))
    (hR : Hid (∀ w, Calls Try.prog 11 #[.agg #[.int .i64 (X 0), .int .i64 (X 1), .int .i64 (X 2), .int .i64 (X 3), .int .i64 (X 4), .int .i64 (X 5), .int .u64 (X 6), .int .u64 (X 7), .int .i64 (X 8), .int .i64 (X 9), .int .u64 (X 10), .int .i64 (X 11), .int .u64 (X 12), .int .u64 (X 13), .int .i64 (X 14), .int .i64 (X 15)]] w fun e w' => e = .returned (.int .i64 want) ∧ Below w.heap.size w w'))
    (hcase : 0 < want ∧ n = want ∧ m = 1 ∧ (∀ w, Sem.run Try.prog (Op.equalIn 10000 24 (.agg #[.int .i64 (D 0), .int .i64 (D 1), .int .i64 (D 2), .int .i64 (D 3), .int .i64 (D 4), .int .i64 (D 5), .int .u64 (D 6), .int .u64 (D 7), .int .i64 (D 8), .int .i64 (D 9), .int .u64 (D 10), .int .i64 (D 11), .int .u64 (D 12), .int .u64 (D 13), .int .i64 (D 14), .int .i64 (D 15)]) (.agg #[.int .i64 0, .int .i64 0, .int .i64 0, .int .i64 0, .int .i64 0, .int .i64 0, .int .u64 0, .int .u64 0, .int .i64 0, .int .i64 0, .int .u64 0, .int .i64 0, .int .u64 0, .int .u64 0, .int .i64 0, .int .i64 0])) w = .ok true w) ∨ want = 0 ∧ n = 0 ∧ m = 0 ∧ ∀ w, Sem.run Try.prog (Op.equalIn 10000 24 (.agg #[.int .i64 (D 0), .int .i64 (D 1), .int .i64 (D 2), .int .i64 (D 3), .int .i64 (D 4), .int .i64 (D 5), .int .u64 (D 6), .int .u64 (D 7), .int .i64 (D 8), .int .i64 (D 9), .int .u64 (D 10), .int .i64 (D 11), .int .u64 (D 12), .int .u64 (D 13), .int .i64 (D 14), .int .i64 (D 15)]) (.agg #[.int .i64 (X 0), .int .i64 (X 1), .int .i64 (X 2), .int .i64 (X 3), .int .i64 (X 4), .int .i64 (X 5), .int .u64 (X 6), .int .u64 (X 7), .int .i64 (X 8), .int .i64 (X 9), .int .u64 (X 10), .int .i64 (X 11), .int .u64 (X 12), .int .u64 (X 13), .int .i64 (X 14), .int .i64 (X 15)])) w = .ok true w) :
    Calls Try.prog 4 #[.agg #[.int .i64 (G 0), .int .i64 (G 1), .int .i64 (G 2), .int .i64 (G 3), .int .i64 (G 4), .int .i64 (G 5), .int .i64 (G 6), .int .i64 (G 7), .int .i64 (G 8), .int .i64 (G 9), .int .i64 (G 10), .int .i64 (G 11), .int .i64 (G 12), .int .i64 (G 13), .int .i64 (G 14), .int .i64 (G 15)]] w fun e w' => e = .returned (.bool true) ∧ Below w.heap.size w w' := by
  go_enter Try.func4, Try.ntmps4
  go_wp2_with fail
  refine (awake_calls _).mono ?_
  rintro e w1 ⟨rfl, hl⟩
  have hb := hid (via ((Below.refl _ _).alloc (Nat.le_refl _) _) hl)
  have hc : w1.cell? ⟨w.heap.size, 0, none⟩ = some (.int .i64 (G 0)) ∧ w1.cell? ⟨w.heap.size, 1, none⟩ = some (.int .i64 (G 1)) ∧ w1.cell? ⟨w.heap.size, 2, none⟩ = some (.int .i64 (G 2)) ∧ w1.cell? ⟨w.heap.size, 3, none⟩ = some (.int .i64 (G 3)) ∧ w1.cell? ⟨w.heap.size, 4, none⟩ = some (.int .i64 (G 4)) ∧ w1.cell? ⟨w.heap.size, 5, none⟩ = some (.int .i64 (G 5)) ∧ w1.cell? ⟨w.heap.size, 6, none⟩ = some (.int .i64 (G 6)) ∧ w1.cell? ⟨w.heap.size, 7, none⟩ = some (.int .i64 (G 7)) ∧ w1.cell? ⟨w.heap.size, 8, none⟩ = some (.int .i64 (G 8)) ∧ w1.cell? ⟨w.heap.size, 9, none⟩ = some (.int .i64 (G 9)) ∧ w1.cell? ⟨w.heap.size, 10, none⟩ = some (.int .i64 (G 10)) ∧ w1.cell? ⟨w.heap.size, 11, none⟩ = some (.int .i64 (G 11)) ∧ w1.cell? ⟨w.heap.size, 12, none⟩ = some (.int .i64 (G 12)) ∧ w1.cell? ⟨w.heap.size, 13, none⟩ = some (.int .i64 (G 13)) ∧ w1.cell? ⟨w.heap.size, 14, none⟩ = some (.int .i64 (G 14)) ∧ w1.cell? ⟨w.heap.size, 15, none⟩ = some (.int .i64 (G 15)) := by
    (repeat' apply And.intro) <;> exact cell_of hl (by simp [go_sem])
  obtain ⟨c0, c1, c2, c3, c4, c5, c6, c7, c8, c9, c10, c11, c12, c13, c14, c15⟩ := hc
  clear hl
  as_aux_lemma =>
    go_wp2_with fail
    refine (hT.out _).mono ?_
    rintro e w2 ⟨rfl, hl⟩
    have hb2 := hid (via hb.out hl)
    have c0 := fun o => cell_of (grow' w2 o) (cell_of hl c0)
    have c1 := fun o => cell_of (grow' w2 o) (cell_of hl c1)
    have c2 := fun o => cell_of (grow' w2 o) (cell_of hl c2)
    have c3 := fun o => cell_of (grow' w2 o) (cell_of hl c3)
    have c4 := fun o => cell_of (grow' w2 o) (cell_of hl c4)
    have c5 := fun o => cell_of (grow' w2 o) (cell_of hl c5)
    have c6 := fun o => cell_of (grow' w2 o) (cell_of hl c6)
    have c7 := fun o => cell_of (grow' w2 o) (cell_of hl c7)
    have c8 := fun o => cell_of (grow' w2 o) (cell_of hl c8)
    have c9 := fun o => cell_of (grow' w2 o) (cell_of hl c9)
    have c10 := fun o => cell_of (grow' w2 o) (cell_of hl c10)
    have c11 := fun o => cell_of (grow' w2 o) (cell_of hl c11)
    have c12 := fun o => cell_of (grow' w2 o) (cell_of hl c12)
    have c13 := fun o => cell_of (grow' w2 o) (cell_of hl c13)
    have c14 := fun o => cell_of (grow' w2 o) (cell_of hl c14)
    have c15 := fun o => cell_of (grow' w2 o) (cell_of hl c15)
    clear hl hb
    go_wp2_with fail
    refine (hO.out _).mono ?_
    rintro e w3 ⟨rfl, hl⟩
    have hb3 := hid (via (hb2.out.alloc hb2.out.size _) hl)
    have hc : w3.cell? ⟨w2.heap.size, 0, none⟩ = some (.int .i64 (D 0)) ∧ w3.cell? ⟨w2.heap.size, 1, none⟩ = some (.int .i64 (D 1)) ∧ w3.cell? ⟨w2.heap.size, 2, none⟩ = some (.int .i64 (D 2)) ∧ w3.cell? ⟨w2.heap.size, 3, none⟩ = some (.int .i64 (D 3)) ∧ w3.cell? ⟨w2.heap.size, 4, none⟩ = some (.int .i64 (D 4)) ∧ w3.cell? ⟨w2.heap.size, 5, none⟩ = some (.int .i64 (D 5)) ∧ w3.cell? ⟨w2.heap.size, 6, none⟩ = some (.int .u64 (D 6)) ∧ w3.cell? ⟨w2.heap.size, 7, none⟩ = some (.int .u64 (D 7)) ∧ w3.cell? ⟨w2.heap.size, 8, none⟩ = some (.int .i64 (D 8)) ∧ w3.cell? ⟨w2.heap.size, 9, none⟩ = some (.int .i64 (D 9)) ∧ w3.cell? ⟨w2.heap.size, 10, none⟩ = some (.int .u64 (D 10)) ∧ w3.cell? ⟨w2.heap.size, 11, none⟩ = some (.int .i64 (D 11)) ∧ w3.cell? ⟨w2.heap.size, 12, none⟩ = some (.int .u64 (D 12)) ∧ w3.cell? ⟨w2.heap.size, 13, none⟩ = some (.int .u64 (D 13)) ∧ w3.cell? ⟨w2.heap.size, 14, none⟩ = some (.int .i64 (D 14)) ∧ w3.cell? ⟨w2.heap.size, 15, none⟩ = some (.int .i64 (D 15)) := by
      (repeat' apply And.intro) <;> exact cell_of hl (by simp [go_sem])
    clear hl hb2 c0 c1 c2 c3 c4 c5 c6 c7 c8 c9 c10 c11 c12 c13 c14 c15
    obtain ⟨c0, c1, c2, c3, c4, c5, c6, c7, c8, c9, c10, c11, c12, c13, c14, c15⟩ := hc
    as_aux_lemma =>
      go_wp2_with fail
      refine (hR.out _).mono ?_
      rintro e w4 ⟨rfl, hl⟩
      have hb4 := hid (via (hb3.out.alloc hb3.out.size _) hl)
      have hx : w4.cell? ⟨w3.heap.size, 0, none⟩ = some (.int .i64 (X 0)) ∧ w4.cell? ⟨w3.heap.size, 1, none⟩ = some (.int .i64 (X 1)) ∧ w4.cell? ⟨w3.heap.size, 2, none⟩ = some (.int .i64 (X 2)) ∧ w4.cell? ⟨w3.heap.size, 3, none⟩ = some (.int .i64 (X 3)) ∧ w4.cell? ⟨w3.heap.size, 4, none⟩ = some (.int .i64 (X 4)) ∧ w4.cell? ⟨w3.heap.size, 5, none⟩ = some (.int .i64 (X 5)) ∧ w4.cell? ⟨w3.heap.size, 6, none⟩ = some (.int .u64 (X 6)) ∧ w4.cell? ⟨w3.heap.size, 7, none⟩ = some (.int .u64 (X 7)) ∧ w4.cell? ⟨w3.heap.size, 8, none⟩ = some (.int .i64 (X 8)) ∧ w4.cell? ⟨w3.heap.size, 9, none⟩ = some (.int .i64 (X 9)) ∧ w4.cell? ⟨w3.heap.size, 10, none⟩ = some (.int .u64 (X 10)) ∧ w4.cell? ⟨w3.heap.size, 11, none⟩ = some (.int .i64 (X 11)) ∧ w4.cell? ⟨w3.heap.size, 12, none⟩ = some (.int .u64 (X 12)) ∧ w4.cell? ⟨w3.heap.size, 13, none⟩ = some (.int .u64 (X 13)) ∧ w4.cell? ⟨w3.heap.size, 14, none⟩ = some (.int .i64 (X 14)) ∧ w4.cell? ⟨w3.heap.size, 15, none⟩ = some (.int .i64 (X 15)) := by
        (repeat' apply And.intro) <;> exact cell_of hl (by simp [go_sem])
      replace c0 := cell_of ((grow' w3 _).trans (hl.mono (by simp))) c0
      replace c1 := cell_of ((grow' w3 _).trans (hl.mono (by simp))) c1
      replace c2 := cell_of ((grow' w3 _).trans (hl.mono (by simp))) c2
      replace c3 := cell_of ((grow' w3 _).trans (hl.mono (by simp))) c3
      replace c4 := cell_of ((grow' w3 _).trans (hl.mono (by simp))) c4
      replace c5 := cell_of ((grow' w3 _).trans (hl.mono (by simp))) c5
      replace c6 := cell_of ((grow' w3 _).trans (hl.mono (by simp))) c6
      replace c7 := cell_of ((grow' w3 _).trans (hl.mono (by simp))) c7
      replace c8 := cell_of ((grow' w3 _).trans (hl.mono (by simp))) c8
      replace c9 := cell_of ((grow' w3 _).trans (hl.mono (by simp))) c9
      replace c10 := cell_of ((grow' w3 _).trans (hl.mono (by simp))) c10
      replace c11 := cell_of ((grow' w3 _).trans (hl.mono (by simp))) c11
      replace c12 := cell_of ((grow' w3 _).trans (hl.mono (by simp))) c12
      replace c13 := cell_of ((grow' w3 _).trans (hl.mono (by simp))) c13
      replace c14 := cell_of ((grow' w3 _).trans (hl.mono (by simp))) c14
      replace c15 := cell_of ((grow' w3 _).trans (hl.mono (by simp))) c15
      obtain ⟨x0, x1, x2, x3, x4, x5, x6, x7, x8, x9, x10, x11, x12, x13, x14, x15⟩ := hx
      clear hl hb3
      rcases hcase with ⟨h0, rfl, rfl, heq⟩ | ⟨rfl, rfl, rfl, heq⟩
      · have hd : decide (0 < n) = true := decide_eq_true h0
        as_aux_lemma =>
          go_wp2_with fail
          go_ret
          exact ⟨ret_bool (by simp), hb4.out⟩
      · as_aux_lemma =>
          go_wp2_with fail
          go_ret
          exact ⟨ret_bool (by simp), hb4.out⟩
theorem u_wrap (x : Int) : U (IntKind.u64.wrap x) := by rw [Sat.wrap_u64]; omega
theorem ok_ofn {G : Nat → Int} (h : ∀ j, I (G j)) : Ok (ofn G) := ⟨h 0, h 1, h 2, h 3, h 4, h 5, u_wrap _, u_wrap _, h 8, h 9, u_wrap _, h 11, u_wrap _, u_wrap _, h 14, h 15⟩
theorem ok_zero : Ok zero := by unfold Ok zero; decide
theorem confTakes_walk {H : Type} {enc : TypeId × Value → H} (W : World) (a0_0 : Int) (a0_1 : Int) (a0_2 : Int) (a0_3 : Int) (a0_4 : Int) (a0_5 : Int) (a0_6 : Int) (a0_7 : Int) (a0_8 : Int) (a0_9 : Int) (a0_10 : Int) (a0_11 : Int) (a0_12 : Int) (a0_13 : Int) (a0_14 : Int) (a0_15 : Int) (w0_0 : (Lit.int .i64 a0_0).wf = true) (w0_1 : (Lit.int .i64 a0_1).wf = true) (w0_2 : (Lit.int .i64 a0_2).wf = true) (w0_3 : (Lit.int .i64 a0_3).wf = true) (w0_4 : (Lit.int .i64 a0_4).wf = true) (w0_5 : (Lit.int .i64 a0_5).wf = true) (w0_6 : (Lit.int .i64 a0_6).wf = true) (w0_7 : (Lit.int .i64 a0_7).wf = true) (w0_8 : (Lit.int .i64 a0_8).wf = true) (w0_9 : (Lit.int .i64 a0_9).wf = true) (w0_10 : (Lit.int .i64 a0_10).wf = true) (w0_11 : (Lit.int .i64 a0_11).wf = true) (w0_12 : (Lit.int .i64 a0_12).wf = true) (w0_13 : (Lit.int .i64 a0_13).wf = true) (w0_14 : (Lit.int .i64 a0_14).wf = true) (w0_15 : (Lit.int .i64 a0_15).wf = true) :
    Calls Try.prog 4 #[.agg #[.int .i64 a0_0, .int .i64 a0_1, .int .i64 a0_2, .int .i64 a0_3, .int .i64 a0_4, .int .i64 a0_5, .int .i64 a0_6, .int .i64 a0_7, .int .i64 a0_8, .int .i64 a0_9, .int .i64 a0_10, .int .i64 a0_11, .int .i64 a0_12, .int .i64 a0_13, .int .i64 a0_14, .int .i64 a0_15]] W fun e w' => e = .returned (.bool true) ∧ Below W.heap.size W w' := by
  have hG : ∀ j, I (pick a0_0 a0_1 a0_2 a0_3 a0_4 a0_5 a0_6 a0_7 a0_8 a0_9 a0_10 a0_11 a0_12 a0_13 a0_14 a0_15 j) := fun j => match j with
    | 0 => i_of w0_0
    | 1 => i_of w0_1
    | 2 => i_of w0_2
    | 3 => i_of w0_3
    | 4 => i_of w0_4
    | 5 => i_of w0_5
    | 6 => i_of w0_6
    | 7 => i_of w0_7
    | 8 => i_of w0_8
    | 9 => i_of w0_9
    | 10 => i_of w0_10
    | 11 => i_of w0_11
    | 12 => i_of w0_12
    | 13 => i_of w0_13
    | 14 => i_of w0_14
    | 15 => i_of w0_15
    | n + 16 => by show I 0; omega
  have hX := ok_ofn hG
  by_cases h : chk (ofn (pick a0_0 a0_1 a0_2 a0_3 a0_4 a0_5 a0_6 a0_7 a0_8 a0_9 a0_10 a0_11 a0_12 a0_13 a0_14 a0_15)) = 0
  · refine takes_core (pick a0_0 a0_1 a0_2 a0_3 a0_4 a0_5 a0_6 a0_7 a0_8 a0_9 a0_10 a0_11 a0_12 a0_13 a0_14 a0_15) (ofn (pick a0_0 a0_1 a0_2 a0_3 a0_4 a0_5 a0_6 a0_7 a0_8 a0_9 a0_10 a0_11 a0_12 a0_13 a0_14 a0_15)) (ofn (pick a0_0 a0_1 a0_2 a0_3 a0_4 a0_5 a0_6 a0_7 a0_8 a0_9 a0_10 a0_11 a0_12 a0_13 a0_14 a0_15)) 0 0 0 W (hid fun w => (take_calls _ hG w).mono fun e w' hh => ⟨?_, hh.2⟩) (hid (of_calls _)) (hid fun w => ?_) (.inr ⟨rfl, rfl, rfl, eq_conf hX hX true (by simp)⟩)
    · rcases hh.1 with ⟨_, h3⟩ | ⟨h3, _⟩
      · exact h3
      · omega
    · have := rcheck_calls hX w
      rw [h] at this
      exact this
  · refine takes_core (pick a0_0 a0_1 a0_2 a0_3 a0_4 a0_5 a0_6 a0_7 a0_8 a0_9 a0_10 a0_11 a0_12 a0_13 a0_14 a0_15) zero (ofn (pick a0_0 a0_1 a0_2 a0_3 a0_4 a0_5 a0_6 a0_7 a0_8 a0_9 a0_10 a0_11 a0_12 a0_13 a0_14 a0_15)) (chk (ofn (pick a0_0 a0_1 a0_2 a0_3 a0_4 a0_5 a0_6 a0_7 a0_8 a0_9 a0_10 a0_11 a0_12 a0_13 a0_14 a0_15)) : Nat) 1 (chk (ofn (pick a0_0 a0_1 a0_2 a0_3 a0_4 a0_5 a0_6 a0_7 a0_8 a0_9 a0_10 a0_11 a0_12 a0_13 a0_14 a0_15)) : Nat) W (hid fun w => (take_calls _ hG w).mono fun e w' hh => ⟨?_, hh.2⟩) (hid (of_calls _)) (hid (rcheck_calls hX)) (.inl ⟨by omega, rfl, rfl, eq_conf ok_zero ok_zero true (by simp)⟩)
    rcases hh.1 with ⟨h3, _⟩ | ⟨_, h3⟩
    · omega
    · exact h3
end Go.Proofs.Ytnednhdbghkcnaa.C08
