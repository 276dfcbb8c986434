/- The walk of the law ConfTells. -/
import Derived.Test.YtnednhdbghkcnaaC08I
import Derived.Test.YtnednhdbghkcnaaReg2
namespace Go.Proofs.Ytnednhdbghkcnaa.C08
open Go.RowKit Go.Proofs.Ytnednhdbghkcnaa
set_option linter.unusedVariables false
set_option linter.unusedSimpArgs false
set_option linter.unnecessarySimpa false
attribute [local go_sem] C01.max2_mx C01.min2_mn C01.max_two C01.min_two
set_option maxRecDepth 20000 in
set_option maxHeartbeats 1000000 in
theorem rput_calls (F : Nat → Int) (w : World) :
    Calls Try.prog 13 #[.agg #[.int .i64 (F 0), .int .i64 (F 1), .int .i64 (F 2), .int .i64 (F 3), .int .i64 (F 4), .int .i64 (F 5), .int .u64 (F 6), .int .u64 (F 7), .int .i64 (F 8), .int .i64 (F 9), .int .u64 (F 10), .int .i64 (F 11), .int .u64 (F 12), .int .u64 (F 13), .int .i64 (F 14), .int .i64 (F 15)]] w fun e w' => e = .returned (.agg #[.int .i64 (F 0), .int .i64 (F 1), .int .i64 (F 2), .int .i64 (F 3), .int .i64 (F 4), .int .i64 (F 5), .int .i64 (wrap64 (F 6)), .int .i64 (wrap64 (F 7)), .int .i64 (F 8), .int .i64 (F 9), .int .i64 (wrap64 (F 10)), .int .i64 (F 11), .int .i64 (wrap64 (F 12)), .int .i64 (wrap64 (F 13)), .int .i64 (F 14), .int .i64 (F 15)]) ∧ Below w.heap.size w w' := by
  go_enter Try.func13, Try.ntmps13
  go_wp2_with fail
  refine bodyPost_ret (v := .agg #[.int .i64 (F 0), .int .i64 (F 1), .int .i64 (F 2), .int .i64 (F 3), .int .i64 (F 4), .int .i64 (F 5), .int .i64 (wrap64 (F 6)), .int .i64 (wrap64 (F 7)), .int .i64 (F 8), .int .i64 (F 9), .int .i64 (wrap64 (F 10)), .int .i64 (F 11), .int .i64 (wrap64 (F 12)), .int .i64 (wrap64 (F 13)), .int .i64 (F 14), .int .i64 (F 15)]) (by simp [results, Try.results13, go_sem]) rfl ⟨rfl, ?_⟩
  repeat (first | exact Below.refl _ _ | refine Below.setCell ?_ (by first | exact Nat.le_refl _ | simp) _ | refine Below.alloc ?_ (by simp) _)
set_option maxRecDepth 20000 in
set_option maxHeartbeats 4000000 in
theorem rbound_core (F : Nat → Int) (c : Nat) (x1 x2 x3 v : Int) (w : World) (hc3 : c ≤ 3) (h5 : F 5 = c)
    (hA1 : Hid (∀ w, Calls Try.prog 25 #[.int .u64 0, .int .u64 (F 7)] w fun e w' => e = .returned (.int .u64 x1) ∧ w = w'))
    (hA2 : Hid (∀ w, Calls Try.prog 25 #[.int .u64 x1, .int .u64 (F 7)] w fun e w' => e = .returned (.int .u64 x2) ∧ w = w'))
    (hA3 : Hid (∀ w, Calls Try.prog 25 #[.int .u64 x2, .int .u64 (F 7)] w fun e w' => e = .returned (.int .u64 x3) ∧ w = w'))
    (hin : Hid (∀ i, i ≤ 3 → ∀ x ∈ [F 6, F 13, [0, x1, x2, x3].getD i 0, 1], 0 ≤ x ∧ x < 18446744073709551616)) (hv : Hid (Sat.sum [F 6, F 13, [0, x1, x2, x3].getD c 0, 1] = v)) :
    Calls Try.prog 15 #[.agg #[.int .i64 (F 0), .int .i64 (F 1), .int .i64 (F 2), .int .i64 (F 3), .int .i64 (F 4), .int .i64 (F 5), .int .u64 (F 6), .int .u64 (F 7), .int .i64 (F 8), .int .i64 (F 9), .int .u64 (F 10), .int .i64 (F 11), .int .u64 (F 12), .int .u64 (F 13), .int .i64 (F 14), .int .i64 (F 15)]] w fun e w' => e = .returned (.int .u64 v) ∧ Below w.heap.size w w' := by
  have hc4 : c = 0 ∨ c = 1 ∨ c = 2 ∨ c = 3 := by omega
  clear hc3
  rcases hc4 with hc | hc | hc | hc
  · subst hc
    go_enter Try.func15, Try.ntmps15
    go_wp2_with fail
    refine wp_loop_rounds 1 ?_
    rw [rounds_succ]
    go_wp2_with fail
    refine (C01.rsum_calls [F 6, F 13, 0, 1] (some ⟨_, 0, none⟩) 4 _ (by simp) (hin.out 0 (by omega)) ?_).mono ?_
    · exact row4 _ _ _ _ _ (by simp)
    rintro e w' ⟨rfl, rfl⟩
    go_wp2_with fail
    go_ret
    exact ⟨ret_int hv.out, ((Below.refl _ _).alloc (Nat.le_refl _) _).alloc (by simp) _⟩
  · subst hc
    go_enter Try.func15, Try.ntmps15
    go_wp2_with fail
    refine wp_loop_rounds 2 ?_
    rw [rounds_succ]
    go_wp2_with fail
    refine (hA1.out _).mono ?_
    rintro e w' ⟨rfl, rfl⟩
    go_wp2_with fail
    rw [rounds_succ]
    go_wp2_with fail
    refine (C01.rsum_calls [F 6, F 13, x1, 1] (some ⟨_, 0, none⟩) 4 _ (by simp) (hin.out 1 (by omega)) ?_).mono ?_
    · exact row4 _ _ _ _ _ (by simp)
    rintro e w' ⟨rfl, rfl⟩
    go_wp2_with fail
    go_ret
    exact ⟨ret_int hv.out, ((Below.refl _ _).alloc (Nat.le_refl _) _).alloc (by simp) _⟩
  · subst hc
    go_enter Try.func15, Try.ntmps15
    go_wp2_with fail
    refine wp_loop_rounds 3 ?_
    rw [rounds_succ]
    go_wp2_with fail
    refine (hA1.out _).mono ?_
    rintro e w' ⟨rfl, rfl⟩
    go_wp2_with fail
    rw [rounds_succ]
    go_wp2_with fail
    refine (hA2.out _).mono ?_
    rintro e w' ⟨rfl, rfl⟩
    go_wp2_with fail
    rw [rounds_succ]
    go_wp2_with fail
    refine (C01.rsum_calls [F 6, F 13, x2, 1] (some ⟨_, 0, none⟩) 4 _ (by simp) (hin.out 2 (by omega)) ?_).mono ?_
    · exact row4 _ _ _ _ _ (by simp)
    rintro e w' ⟨rfl, rfl⟩
    go_wp2_with fail
    go_ret
    exact ⟨ret_int hv.out, ((Below.refl _ _).alloc (Nat.le_refl _) _).alloc (by simp) _⟩
  · subst hc
    go_enter Try.func15, Try.ntmps15
    go_wp2_with fail
    refine wp_loop_rounds 4 ?_
    rw [rounds_succ]
    go_wp2_with fail
    refine (hA1.out _).mono ?_
    rintro e w' ⟨rfl, rfl⟩
    go_wp2_with fail
    rw [rounds_succ]
    go_wp2_with fail
    refine (hA2.out _).mono ?_
    rintro e w' ⟨rfl, rfl⟩
    go_wp2_with fail
    rw [rounds_succ]
    go_wp2_with fail
    refine (hA3.out _).mono ?_
    rintro e w' ⟨rfl, rfl⟩
    go_wp2_with fail
    rw [rounds_succ]
    go_wp2_with fail
    refine (C01.rsum_calls [F 6, F 13, x3, 1] (some ⟨_, 0, none⟩) 4 _ (by simp) (hin.out 3 (by omega)) ?_).mono ?_
    · exact row4 _ _ _ _ _ (by simp)
    rintro e w' ⟨rfl, rfl⟩
    go_wp2_with fail
    go_ret
    exact ⟨ret_int hv.out, ((Below.refl _ _).alloc (Nat.le_refl _) _).alloc (by simp) _⟩
theorem rbound_calls {F : Nat → Int} (hF : Ok F) (h : chk F = 0) (w : World) :
    Calls Try.prog 15 #[.agg #[.int .i64 (F 0), .int .i64 (F 1), .int .i64 (F 2), .int .i64 (F 3), .int .i64 (F 4), .int .i64 (F 5), .int .u64 (F 6), .int .u64 (F 7), .int .i64 (F 8), .int .i64 (F 9), .int .u64 (F 10), .int .i64 (F 11), .int .u64 (F 12), .int .u64 (F 13), .int .i64 (F 14), .int .i64 (F 15)]] w fun e w' => e = .returned (.int .u64 (bnd F)) ∧ Below w.heap.size w w' := by
  have f5 : 0 ≤ F 5 ∧ F 5 ≤ 3 := fine_of h 5 (by omega)
  have f7 : 1 ≤ wrap64 (F 7) ∧ wrap64 (F 7) ≤ 1099511627776 := fine_of h 7 (by omega)
  obtain ⟨k0, k1, k2, k3, k4, k5, k6, k7, k8, k9, k10, k11, k12, k13, k14, k15⟩ := hF
  have g7 := w64_of k7 (by omega) f7.1 f7.2 (by omega)
  obtain ⟨c, hc⟩ := Int.eq_ofNat_of_zero_le f5.1
  have e1 : Sat.add 0 (F 7) = F 7 := by unfold Sat.add; split <;> omega
  have e2 : Sat.add (F 7) (F 7) = 2 * F 7 := by unfold Sat.add; split <;> omega
  have e3 : Sat.add (2 * F 7) (F 7) = 3 * F 7 := by unfold Sat.add; split <;> omega
  refine rbound_core F c (F 7) (2 * F 7) (3 * F 7) _ w (by omega) hc (hid fun w => ?_) (hid fun w => ?_) (hid fun w => ?_) (hid fun i hi x hx => ?_) (hid ?_)
  · have := C01.radd_calls 0 (F 7) (by omega) (by omega) (by omega) (by omega) w
    rw [e1] at this
    exact this
  · have := C01.radd_calls (F 7) (F 7) (by omega) (by omega) (by omega) (by omega) w
    rw [e2] at this
    exact this
  · have := C01.radd_calls (2 * F 7) (F 7) (by omega) (by omega) (by omega) (by omega) w
    rw [e3] at this
    exact this
  · have hi4 : i = 0 ∨ i = 1 ∨ i = 2 ∨ i = 3 := by omega
    rcases hi4 with rfl | rfl | rfl | rfl <;> (simp at hx; omega)
  · unfold bnd
    have hm : Sat.mx (F 5) 0 = F 5 := by unfold Sat.mx; split <;> omega
    rw [hm, hc]
    have hc4 : c = 0 ∨ c = 1 ∨ c = 2 ∨ c = 3 := by omega
    congr 4
    rcases hc4 with rfl | rfl | rfl | rfl
    all_goals
      show _ = Sat.mul _ (F 7)
      unfold Sat.mul
      simp
      try omega
theorem lits_n {G : Nat → Int} (h : ∀ j, I (G j)) : Opn.LitOk [.int .i64, .int .i64, .int .i64, .int .i64, .int .i64, .int .i64, .int .i64, .int .i64, .int .i64, .int .i64, .int .i64, .int .i64, .int .i64, .int .i64, .int .i64, .int .i64] [.int .i64 (G 0), .int .i64 (G 1), .int .i64 (G 2), .int .i64 (G 3), .int .i64 (G 4), .int .i64 (G 5), .int .i64 (G 6), .int .i64 (G 7), .int .i64 (G 8), .int .i64 (G 9), .int .i64 (G 10), .int .i64 (G 11), .int .i64 (G 12), .int .i64 (G 13), .int .i64 (G 14), .int .i64 (G 15)] [.int .i64 (G 0), .int .i64 (G 1), .int .i64 (G 2), .int .i64 (G 3), .int .i64 (G 4), .int .i64 (G 5), .int .i64 (G 6), .int .i64 (G 7), .int .i64 (G 8), .int .i64 (G 9), .int .i64 (G 10), .int .i64 (G 11), .int .i64 (G 12), .int .i64 (G 13), .int .i64 (G 14), .int .i64 (G 15)] := ⟨_, _, _, _, rfl, rfl, ⟨_, rfl, rfl, wf_i (h 0)⟩, ⟨_, _, _, _, rfl, rfl, ⟨_, rfl, rfl, wf_i (h 1)⟩, ⟨_, _, _, _, rfl, rfl, ⟨_, rfl, rfl, wf_i (h 2)⟩, ⟨_, _, _, _, rfl, rfl, ⟨_, rfl, rfl, wf_i (h 3)⟩, ⟨_, _, _, _, rfl, rfl, ⟨_, rfl, rfl, wf_i (h 4)⟩, ⟨_, _, _, _, rfl, rfl, ⟨_, rfl, rfl, wf_i (h 5)⟩, ⟨_, _, _, _, rfl, rfl, ⟨_, rfl, rfl, wf_i (h 6)⟩, ⟨_, _, _, _, rfl, rfl, ⟨_, rfl, rfl, wf_i (h 7)⟩, ⟨_, _, _, _, rfl, rfl, ⟨_, rfl, rfl, wf_i (h 8)⟩, ⟨_, _, _, _, rfl, rfl, ⟨_, rfl, rfl, wf_i (h 9)⟩, ⟨_, _, _, _, rfl, rfl, ⟨_, rfl, rfl, wf_i (h 10)⟩, ⟨_, _, _, _, rfl, rfl, ⟨_, rfl, rfl, wf_i (h 11)⟩, ⟨_, _, _, _, rfl, rfl, ⟨_, rfl, rfl, wf_i (h 12)⟩, ⟨_, _, _, _, rfl, rfl, ⟨_, rfl, rfl, wf_i (h 13)⟩, ⟨_, _, _, _, rfl, rfl, ⟨_, rfl, rfl, wf_i (h 14)⟩, ⟨_, _, _, _, rfl, rfl, ⟨_, rfl, rfl, wf_i (h 15)⟩, ⟨rfl, rfl⟩⟩⟩⟩⟩⟩⟩⟩⟩⟩⟩⟩⟩⟩⟩⟩⟩
theorem eq_nums {G : Nat → Int} (h : ∀ j, I (G j)) (w : World) : Sem.run Try.prog (Op.equalIn 10000 30 (.agg #[.int .i64 (G 0), .int .i64 (G 1), .int .i64 (G 2), .int .i64 (G 3), .int .i64 (G 4), .int .i64 (G 5), .int .i64 (G 6), .int .i64 (G 7), .int .i64 (G 8), .int .i64 (G 9), .int .i64 (G 10), .int .i64 (G 11), .int .i64 (G 12), .int .i64 (G 13), .int .i64 (G 14), .int .i64 (G 15)]) (.agg #[.int .i64 (G 0), .int .i64 (G 1), .int .i64 (G 2), .int .i64 (G 3), .int .i64 (G 4), .int .i64 (G 5), .int .i64 (G 6), .int .i64 (G 7), .int .i64 (G 8), .int .i64 (G 9), .int .i64 (G 10), .int .i64 (G 11), .int .i64 (G 12), .int .i64 (G 13), .int .i64 (G 14), .int .i64 (G 15)])) w = .ok true w :=
  Opn.eq_run (ls := [.int .i64, .int .i64, .int .i64, .int .i64, .int .i64, .int .i64, .int .i64, .int .i64, .int .i64, .int .i64, .int .i64, .int .i64, .int .i64, .int .i64, .int .i64, .int .i64]) 9994 6 10000 (by rfl) (by kernel_rfl) (by kernel_rfl) (by kernel_rfl) (by kernel_rfl) (lits_n h) (lits_n h) true (by simp) w
set_option maxRecDepth 20000 in
set_option maxHeartbeats 8000000 in
theorem tells_core (F : Nat → Int) (FL GL : List Value) (n m want v : Int) (w : World) (hFL : Hid (FL = [.int .i64 (F 0), .int .i64 (F 1), .int .i64 (F 2), .int .i64 (F 3), .int .i64 (F 4), .int .i64 (F 5), .int .u64 (F 6), .int .u64 (F 7), .int .i64 (F 8), .int .i64 (F 9), .int .u64 (F 10), .int .i64 (F 11), .int .u64 (F 12), .int .u64 (F 13), .int .i64 (F 14), .int .i64 (F 15)]))
    (hC : Hid (∀ w, Calls Try.prog 10 #[.agg #[.int .i64 (F 0), .int .i64 (F 1), .int .i64 (F 2), .int .i64 (F 3), .int .i64 (F 4), .int .i64 (F 5), .int .u64 (F 6), .int .u64 (F 7), .int .i64 (F 8), .int .i64 (F 9), .int .u64 (F 10), .int .i64 (F 11), .int .u64 (F 12), .int .u64 (F 13), .int .i64 (F 14), .int .i64 (F 15)]] w fun e w' => e = .returned (.tuple #[.int .i64 n, .int .i64 m]) ∧ Below w.heap.size w w'))
    (hR : Hid (∀ w, Calls Try.prog 11 #[.agg #[.int .i64 (F 0), .int .i64 (F 1), .int .i64 (F 2), .int .i64 (F 3), .int .i64 (F 4), .int .i64 (F 5), .int .u64 (F 6), .int .u64 (F 7), .int .i64 (F 8), .int .i64 (F 9), .int .u64 (F 10), .int .i64 (F 11), .int .u64 (F 12), .int .u64 (F 13), .int .i64 (F 14), .int .i64 (F 15)]] w fun e w' => e = .returned (.int .i64 want) ∧ Below w.heap.size w w'))
    (hP : Hid (∀ w, Calls Try.prog 12 #[.agg FL.toArray] w fun e w' => e = .returned (.agg GL.toArray) ∧ Below w.heap.size w w'))
    (hP2 : Hid (∀ w, Calls Try.prog 13 #[.agg FL.toArray] w fun e w' => e = .returned (.agg GL.toArray) ∧ Below w.heap.size w w'))
    (heq : ∀ w, Sem.run Try.prog (Op.equalIn 10000 30 (.agg GL.toArray) (.agg GL.toArray)) w = .ok true w)
    (hcase : 0 < want ∧ n = want ∧ m = 1 ∨ want = 0 ∧ n = 0 ∧ m = 0 ∧ Hid (∀ w, Calls Try.prog 14 #[.agg FL.toArray] w fun e w' => e = .returned (.int .u64 v) ∧ Below w.heap.size w w') ∧ Hid (∀ w, Calls Try.prog 15 #[.agg FL.toArray] w fun e w' => e = .returned (.int .u64 v) ∧ Below w.heap.size w w')) :
    Calls Try.prog 3 #[.agg #[.int .i64 (F 0), .int .i64 (F 1), .int .i64 (F 2), .int .i64 (F 3), .int .i64 (F 4), .int .i64 (F 5), .int .u64 (F 6), .int .u64 (F 7), .int .i64 (F 8), .int .i64 (F 9), .int .u64 (F 10), .int .i64 (F 11), .int .u64 (F 12), .int .u64 (F 13), .int .i64 (F 14), .int .i64 (F 15)]] w fun e w' => e = .returned (.bool true) ∧ Below w.heap.size w w' := by
  have i16 : (Try.prog.info? 24).map (·.size) = some 16 := by kernel_rfl
  have hiF : (Try.prog.info? 24).map (·.size) = some FL.length := by rw [i16, hFL.out]; rfl
  clear i16
  go_enter Try.func3, Try.ntmps3
  go_wp2_with fail
  refine (awake_calls _).mono ?_
  rintro e w1 ⟨rfl, hl⟩
  have hb := hid (via ((Below.refl _ _).alloc (Nat.le_refl _) _) hl)
  have RF : Hid (w1.rangeAt w.heap.size 0 FL) := by
    rw [hFL.out]
    exact hid (range_below hl (range_new _ _ rfl))
  have hc : w1.cell? ⟨w.heap.size, 0, none⟩ = some (.int .i64 (F 0)) ∧ w1.cell? ⟨w.heap.size, 1, none⟩ = some (.int .i64 (F 1)) ∧ w1.cell? ⟨w.heap.size, 2, none⟩ = some (.int .i64 (F 2)) ∧ w1.cell? ⟨w.heap.size, 3, none⟩ = some (.int .i64 (F 3)) ∧ w1.cell? ⟨w.heap.size, 4, none⟩ = some (.int .i64 (F 4)) ∧ w1.cell? ⟨w.heap.size, 5, none⟩ = some (.int .i64 (F 5)) ∧ w1.cell? ⟨w.heap.size, 6, none⟩ = some (.int .u64 (F 6)) ∧ w1.cell? ⟨w.heap.size, 7, none⟩ = some (.int .u64 (F 7)) ∧ w1.cell? ⟨w.heap.size, 8, none⟩ = some (.int .i64 (F 8)) ∧ w1.cell? ⟨w.heap.size, 9, none⟩ = some (.int .i64 (F 9)) ∧ w1.cell? ⟨w.heap.size, 10, none⟩ = some (.int .u64 (F 10)) ∧ w1.cell? ⟨w.heap.size, 11, none⟩ = some (.int .i64 (F 11)) ∧ w1.cell? ⟨w.heap.size, 12, none⟩ = some (.int .u64 (F 12)) ∧ w1.cell? ⟨w.heap.size, 13, none⟩ = some (.int .u64 (F 13)) ∧ w1.cell? ⟨w.heap.size, 14, none⟩ = some (.int .i64 (F 14)) ∧ w1.cell? ⟨w.heap.size, 15, none⟩ = some (.int .i64 (F 15)) := by
    (repeat' apply And.intro) <;> exact cell_of hl (by simp [go_sem])
  obtain ⟨c0, c1, c2, c3, c4, c5, c6, c7, c8, c9, c10, c11, c12, c13, c14, c15⟩ := hc
  clear hl
  as_aux_lemma =>
    go_wp2_with fail
    refine (hC.out _).mono ?_
    rintro e w2 ⟨rfl, hl⟩
    replace c0 := cell_of hl c0
    replace c1 := cell_of hl c1
    replace c2 := cell_of hl c2
    replace c3 := cell_of hl c3
    replace c4 := cell_of hl c4
    replace c5 := cell_of hl c5
    replace c6 := cell_of hl c6
    replace c7 := cell_of hl c7
    replace c8 := cell_of hl c8
    replace c9 := cell_of hl c9
    replace c10 := cell_of hl c10
    replace c11 := cell_of hl c11
    replace c12 := cell_of hl c12
    replace c13 := cell_of hl c13
    replace c14 := cell_of hl c14
    replace c15 := cell_of hl c15
    go_wp2_with fail
    refine (hR.out _).mono ?_
    rintro e w3 ⟨rfl, hl2⟩
    have hS1 : Hid (Below w.heap.size w w3 ∧ w3.rangeAt w.heap.size 0 FL) := hid ⟨via (via hb.out hl) hl2, range_below hl2 (range_below hl RF.out)⟩
    clear hl hl2 RF hb c0 c1 c2 c3 c4 c5 c6 c7 c8 c9 c10 c11 c12 c13 c14 c15
    have keepS := hid (fun (u1 u2 : World) (hS : Hid (Below w.heap.size w u1 ∧ u1.rangeAt w.heap.size 0 FL)) (hl : Below u1.heap.size u1 u2) => (show Hid (Below w.heap.size w u2 ∧ u2.rangeAt w.heap.size 0 FL) from hid ⟨via hS.out.1 hl, range_below hl hS.out.2⟩))
    rcases hcase with ⟨h0, rfl, rfl⟩ | ⟨rfl, rfl, rfl, hB, hB2⟩
    · have d0 : decide (0 < n) = true := decide_eq_true h0
      have d1 : (n == 0) = false := by rw [beq_eq_false_iff_ne]; omega
      as_aux_lemma =>
        go_wp2_with fail
        refine Rg.start (S := fun w' => Hid (Below w.heap.size w w' ∧ w'.rangeAt w.heap.size 0 FL)) (by kernel_rfl) (fun _ _ _ _ _ h => h) (keepS.out _ _ hS1 (quiet _)) ?_
        intro Q hp hn wz hH0
        refine Rg.tk (i := 0) rfl hp ?_
        refine ⟨?_, ?_, by kernel_rfl, by kernel_rfl, by kernel_rfl, Or.inl ⟨by rfl, ?_⟩, hH0, ?_, ?_⟩
        rotate_left 2
        · (intro w hSw; clear hSw; go_simp; try with_reducible rfl)
        · ((try simp only [Act.put, List.setIfInBounds_toArray, List.set_cons_zero, List.set_cons_succ]); exact rfl)
        refine Rg.tk (i := 1) rfl hp ?_
        refine ⟨?_, ?_, by kernel_rfl, by kernel_rfl, by kernel_rfl, Or.inl ⟨by rfl, ?_⟩, hH0, ?_, ?_⟩
        rotate_left 2
        · (intro w hSw; clear hSw; go_simp; try with_reducible rfl)
        · ((try simp only [Act.put, List.setIfInBounds_toArray, List.set_cons_zero, List.set_cons_succ]); exact rfl)
        refine Rg.tk (i := 2) rfl hp ?_
        refine ⟨?_, ?_, by kernel_rfl, by kernel_rfl, by kernel_rfl, Or.inl ⟨by rfl, ?_⟩, hH0, ?_, ?_⟩
        rotate_left 2
        · (intro w hSw; clear hSw; go_simp; try with_reducible rfl)
        · ((try simp only [Act.put, List.setIfInBounds_toArray, List.set_cons_zero, List.set_cons_succ]); exact rfl)
        refine Rg.tk (i := 3) rfl hp ?_
        refine ⟨?_, ?_, by kernel_rfl, by kernel_rfl, by kernel_rfl, Or.inl ⟨by rfl, ?_⟩, hH0, ?_, ?_⟩
        rotate_left 2
        · (intro w hSw; clear hSw; go_simp; try with_reducible rfl)
        · ((try simp only [Act.put, List.setIfInBounds_toArray, List.set_cons_zero, List.set_cons_succ]); exact rfl)
        refine Rg.tk (i := 4) rfl hp ?_
        refine ⟨?_, ?_, by kernel_rfl, by kernel_rfl, by kernel_rfl, Or.inl ⟨by rfl, ?_⟩, hH0, ?_, ?_⟩
        rotate_left 2
        · (intro w hSw; clear hSw; go_simp; try with_reducible rfl)
        · ((try simp only [Act.put, List.setIfInBounds_toArray, List.set_cons_zero, List.set_cons_succ]); exact rfl)
        refine Rg.tk (i := 5) rfl hp ?_
        refine ⟨?_, ?_, by kernel_rfl, by kernel_rfl, by kernel_rfl, Or.inl ⟨by rfl, ?_⟩, hH0, ?_, ?_⟩
        rotate_left 2
        · (intro w hSw; clear hSw; go_simp; try with_reducible rfl)
        · ((try simp only [Act.put, List.setIfInBounds_toArray, List.set_cons_zero, List.set_cons_succ]); exact rfl)
        refine Rg.tk (i := 6) rfl hp ?_
        refine ⟨?_, ?_, by kernel_rfl, by kernel_rfl, by kernel_rfl, Or.inl ⟨by rfl, ?_⟩, hH0, ?_, ?_⟩
        rotate_left 2
        · (intro w hSw; clear hSw; go_simp; try with_reducible rfl)
        · ((try simp only [Act.put, List.setIfInBounds_toArray, List.set_cons_zero, List.set_cons_succ]); exact rfl)
        refine Rg.tk (i := 7) rfl hp ?_
        refine ⟨?_, ?_, by kernel_rfl, by kernel_rfl, by kernel_rfl, Or.inl ⟨by rfl, ?_⟩, hH0, ?_, ?_⟩
        rotate_left 2
        · (intro w hSw; clear hSw; go_simp; try with_reducible rfl)
        · ((try simp only [Act.put, List.setIfInBounds_toArray, List.set_cons_zero, List.set_cons_succ]); exact rfl)
        refine Rg.tk (i := 8) rfl hp ?_
        refine ⟨?_, ?_, by kernel_rfl, by kernel_rfl, by kernel_rfl, Or.inl ⟨by rfl, ?_⟩, hH0, ?_, ?_⟩
        rotate_left 2
        · (intro w hSw; clear hSw; go_simp; try with_reducible rfl)
        · ((try simp only [Act.put, List.setIfInBounds_toArray, List.set_cons_zero, List.set_cons_succ]); exact rfl)
        refine Rg.tk (i := 9) rfl hp ?_
        refine ⟨?_, ?_, by kernel_rfl, by kernel_rfl, by kernel_rfl, Or.inl ⟨by rfl, ?_⟩, hH0, ?_, ?_⟩
        rotate_left 2
        · (intro w hSw; clear hSw; go_simp; try with_reducible rfl)
        · ((try simp only [Act.put, List.setIfInBounds_toArray, List.set_cons_zero, List.set_cons_succ]); exact rfl)
        refine Rg.tk (i := 10) rfl hp ?_
        refine ⟨?_, ?_, by kernel_rfl, by kernel_rfl, by kernel_rfl, Or.inl ⟨by rfl, ?_⟩, hH0, ?_, ?_⟩
        rotate_left 2
        · (intro w hSw; clear hSw; go_simp; try with_reducible rfl)
        · ((try simp only [Act.put, List.setIfInBounds_toArray, List.set_cons_zero, List.set_cons_succ]); exact rfl)
        refine Rg.tk (i := 11) rfl hp ?_
        refine ⟨?_, ?_, by kernel_rfl, by kernel_rfl, by kernel_rfl, Or.inl ⟨by rfl, ?_⟩, hH0, ?_, ?_⟩
        rotate_left 2
        · (intro w hSw; clear hSw; go_simp; try with_reducible rfl)
        · ((try simp only [Act.put, List.setIfInBounds_toArray, List.set_cons_zero, List.set_cons_succ]); exact rfl)
        refine Rg.tk (i := 12) rfl hp ?_
        refine ⟨?_, ?_, by kernel_rfl, by kernel_rfl, by kernel_rfl, Or.inl ⟨by rfl, ?_⟩, hH0, ?_, ?_⟩
        rotate_left 2
        · (intro w hSw; clear hSw; go_simp; try with_reducible rfl)
        · ((try simp only [Act.put, List.setIfInBounds_toArray, List.set_cons_zero, List.set_cons_succ]); exact rfl)
        refine Rg.tk (i := 13) rfl hp ?_
        refine ⟨?_, ?_, by kernel_rfl, by kernel_rfl, by kernel_rfl, Or.inl ⟨by rfl, ?_⟩, hH0, ?_, ?_⟩
        rotate_left 2
        · (intro w hSw; clear hSw; go_simp; try with_reducible rfl)
        · ((try simp only [Act.put, List.setIfInBounds_toArray, List.set_cons_zero, List.set_cons_succ]); exact rfl)
        refine Rg.tk (i := 14) rfl hp ?_
        refine ⟨?_, ?_, by kernel_rfl, by kernel_rfl, by kernel_rfl, Or.inl ⟨by rfl, ?_⟩, hH0, ?_, ?_⟩
        rotate_left 2
        · (intro w hSw; clear hSw; go_simp; try with_reducible rfl)
        · ((try simp only [Act.put, List.setIfInBounds_toArray, List.set_cons_zero, List.set_cons_succ]); exact rfl)
        refine Rg.tk (i := 15) rfl hp ?_
        refine ⟨?_, ?_, by kernel_rfl, by kernel_rfl, by kernel_rfl, Or.inl ⟨by rfl, ?_⟩, hH0, ?_, ?_⟩
        rotate_left 2
        · (intro w hSw; clear hSw; go_simp; try with_reducible rfl)
        · ((try simp only [Act.put, List.setIfInBounds_toArray, List.set_cons_zero, List.set_cons_succ]); exact rfl)
        refine Rg.tk (i := 16) rfl hp ?_
        refine ⟨?_, ?_, by kernel_rfl, by kernel_rfl, by kernel_rfl, Or.inl ⟨by rfl, ?_⟩, hH0, ?_, ?_⟩
        rotate_left 2
        · (intro w hSw; clear hSw; go_simp; try with_reducible rfl)
        · ((try simp only [Act.put, List.setIfInBounds_toArray, List.set_cons_zero, List.set_cons_succ]); exact rfl)
        refine Rg.tk (i := 17) rfl hp ?_
        refine ⟨?_, ?_, by kernel_rfl, by kernel_rfl, by kernel_rfl, Or.inl ⟨by rfl, ?_⟩, hH0, ?_, ?_⟩
        rotate_left 2
        · (intro w hSw; clear hSw; go_simp; try with_reducible rfl)
        · ((try simp only [Act.put, List.setIfInBounds_toArray, List.set_cons_zero, List.set_cons_succ]); exact rfl)
        refine Rg.tk (i := 18) rfl hp ?_
        refine ⟨?_, ?_, by kernel_rfl, by kernel_rfl, by kernel_rfl, Or.inl ⟨by rfl, ?_⟩, hH0, ?_, ?_⟩
        rotate_left 2
        · (intro w hSw; clear hSw; go_simp; try with_reducible rfl)
        · ((try simp only [Act.put, List.setIfInBounds_toArray, List.set_cons_zero, List.set_cons_succ]); exact rfl)
        refine Rg.tk (i := 19) rfl hp ?_
        refine ⟨?_, ?_, by kernel_rfl, by kernel_rfl, by kernel_rfl, Or.inl ⟨by rfl, ?_⟩, hH0, ?_, ?_⟩
        rotate_left 2
        · (intro w hSw; clear hSw; go_simp; try with_reducible rfl)
        · ((try simp only [Act.put, List.setIfInBounds_toArray, List.set_cons_zero, List.set_cons_succ]); exact rfl)
        refine Rg.tk (i := 20) rfl hp ?_
        refine ⟨?_, ?_, by kernel_rfl, by kernel_rfl, by kernel_rfl, Or.inl ⟨by rfl, ?_⟩, hH0, ?_, ?_⟩
        rotate_left 2
        · (intro w hSw; clear hSw; go_simp; try with_reducible rfl)
        · ((try simp only [Act.put, List.setIfInBounds_toArray, List.set_cons_zero, List.set_cons_succ]); exact rfl)
        refine Rg.tk (i := 21) rfl hp ?_
        refine ⟨?_, ?_, by kernel_rfl, by kernel_rfl, by kernel_rfl, Or.inl ⟨by rfl, ?_⟩, hH0, ?_, ?_⟩
        rotate_left 2
        · (intro w hSw; clear hSw; go_simp; try with_reducible rfl)
        · ((try simp only [Act.put, List.setIfInBounds_toArray, List.set_cons_zero, List.set_cons_succ]); exact rfl)
        refine Rg.tk (i := 22) rfl hp ?_
        refine ⟨_, ?_, by kernel_rfl, by kernel_rfl, by kernel_rfl, yieldsIf_load_mid (by rfl) 24 _ rfl w.heap.size 0 rfl FL _ (fun w hSw => hSw.out.2) Try.underlying24 rfl hiF, hH0, ?_, ?_⟩
        rotate_left
        · ((try simp only [Act.put, List.setIfInBounds_toArray, List.set_cons_zero, List.set_cons_succ]); exact rfl)
        refine Rg.tk (i := 24) rfl hp ?_
        refine ⟨_, ?_, by kernel_rfl, by kernel_rfl, by kernel_rfl, yieldsIf_load_mid (by rfl) 24 _ rfl w.heap.size 0 rfl FL _ (fun w hSw => hSw.out.2) Try.underlying24 rfl hiF, hH0, ?_, ?_⟩
        rotate_left
        · ((try simp only [Act.put, List.setIfInBounds_toArray, List.set_cons_zero, List.set_cons_succ]); exact rfl)
        refine Rg.one (i := 23) rfl ⟨by kernel_rfl, by rfl, fun K hK => ?_⟩
        go_simp
        refine (hP.out _).mono ?_
        rintro e v0 ⟨rfl, hl0⟩
        refine hK.out _ _ ?_ (keepS.out _ _ hH0 hl0) ?_ (fun hH1 => ?_)
        rotate_left
        · ((try simp only [Act.put, List.setIfInBounds_toArray, List.set_cons_zero, List.set_cons_succ]); exact rfl)
        clear hK K hH0 hl0
        refine Rg.one (i := 25) rfl ⟨by kernel_rfl, by rfl, fun K hK => ?_⟩
        go_simp
        refine (hP2.out _).mono ?_
        rintro e v1 ⟨rfl, hl1⟩
        refine hK.out _ _ ?_ (keepS.out _ _ hH1 hl1) ?_ (fun hH2 => ?_)
        rotate_left
        · ((try simp only [Act.put, List.setIfInBounds_toArray, List.set_cons_zero, List.set_cons_succ]); exact rfl)
        clear hK K hH1 hl1
        as_aux_lemma =>
          refine Rg.tk (i := 26) rfl hp ?_
          refine ⟨?_, ?_, by kernel_rfl, by kernel_rfl, by kernel_rfl, Or.inl ⟨by rfl, ?_⟩, hH2, ?_, ?_⟩
          rotate_left 2
          · (intro w hSw; clear hSw; go_simp; try with_reducible rfl)
          · ((try simp only [Act.put, List.setIfInBounds_toArray, List.set_cons_zero, List.set_cons_succ]); exact rfl)
          refine Rg.tk (i := 27) rfl hp ?_
          refine ⟨?_, ?_, by kernel_rfl, by kernel_rfl, by kernel_rfl, Or.inl ⟨by rfl, ?_⟩, hH2, ?_, ?_⟩
          rotate_left 2
          · (intro w hSw; clear hSw; go_simp; try with_reducible rfl)
          · ((try simp only [Act.put, List.setIfInBounds_toArray, List.set_cons_zero, List.set_cons_succ]); exact rfl)
          refine Rg.tk (i := 28) rfl hp ?_
          refine ⟨?_, ?_, by kernel_rfl, by kernel_rfl, by kernel_rfl, Or.inl ⟨by rfl, ?_⟩, hH2, ?_, ?_⟩
          rotate_left 2
          · (intro w hSw; clear hSw; go_simp; try with_reducible rfl)
          · ((try simp only [Act.put, List.setIfInBounds_toArray, List.set_cons_zero, List.set_cons_succ]); exact rfl)
          refine Rg.tk (i := 29) rfl hp ?_
          refine ⟨?_, ?_, by kernel_rfl, by kernel_rfl, by kernel_rfl, Or.inl ⟨by rfl, ?_⟩, hH2, ?_, ?_⟩
          rotate_left 2
          · (intro w hSw; clear hSw; go_simp; try with_reducible rfl)
          · ((try simp only [Act.put, List.setIfInBounds_toArray, List.set_cons_zero, List.set_cons_succ]); exact rfl)
          refine Rg.tk (i := 30) rfl hp ?_
          refine ⟨?_, ?_, by kernel_rfl, by kernel_rfl, by kernel_rfl, Or.inl ⟨by rfl, ?_⟩, hH2, ?_, ?_⟩
          rotate_left 2
          · (intro w hSw; clear hSw; go_simp; try with_reducible rfl)
          · ((try simp only [Act.put, List.setIfInBounds_toArray, List.set_cons_zero, List.set_cons_succ]); exact rfl)
          refine Rg.tk (i := 31) rfl hp ?_
          refine ⟨?_, ?_, by kernel_rfl, by kernel_rfl, by kernel_rfl, Or.inl ⟨by rfl, ?_⟩, hH2, ?_, ?_⟩
          rotate_left 2
          · (intro w hSw; clear hSw; go_simp; try with_reducible rfl)
          · ((try simp only [Act.put, List.setIfInBounds_toArray, List.set_cons_zero, List.set_cons_succ]); exact rfl)
          refine Rg.tk (i := 32) rfl hp ?_
          refine ⟨undef, ?_, by kernel_rfl, by kernel_rfl, by kernel_rfl, Or.inr ⟨by rfl, rfl⟩, hH2, ?_, ?_⟩
          rotate_left
          · ((try simp only [Act.put, List.setIfInBounds_toArray, List.set_cons_zero, List.set_cons_succ]); exact rfl)
          refine Rg.tk (i := 33) rfl hp ?_
          refine ⟨undef, ?_, by kernel_rfl, by kernel_rfl, by kernel_rfl, Or.inr ⟨by rfl, rfl⟩, hH2, ?_, ?_⟩
          rotate_left
          · ((try simp only [Act.put, List.setIfInBounds_toArray, List.set_cons_zero, List.set_cons_succ]); exact rfl)
          refine Rg.tk (i := 34) rfl hp ?_
          refine ⟨undef, ?_, by kernel_rfl, by kernel_rfl, by kernel_rfl, Or.inr ⟨by rfl, rfl⟩, hH2, ?_, ?_⟩
          rotate_left
          · ((try simp only [Act.put, List.setIfInBounds_toArray, List.set_cons_zero, List.set_cons_succ]); exact rfl)
          refine Rg.tk (i := 35) rfl hp ?_
          refine ⟨undef, ?_, by kernel_rfl, by kernel_rfl, by kernel_rfl, Or.inr ⟨by rfl, rfl⟩, hH2, ?_, ?_⟩
          rotate_left
          · ((try simp only [Act.put, List.setIfInBounds_toArray, List.set_cons_zero, List.set_cons_succ]); exact rfl)
          refine Rg.tk (i := 36) rfl hp ?_
          refine ⟨undef, ?_, by kernel_rfl, by kernel_rfl, by kernel_rfl, Or.inr ⟨by rfl, rfl⟩, hH2, ?_, ?_⟩
          rotate_left
          · ((try simp only [Act.put, List.setIfInBounds_toArray, List.set_cons_zero, List.set_cons_succ]); exact rfl)
          refine Rg.tk (i := 37) rfl hp ?_
          refine ⟨?_, ?_, by kernel_rfl, by kernel_rfl, by kernel_rfl, Or.inl ⟨by rfl, ?_⟩, hH2, ?_, ?_⟩
          rotate_left 2
          · (intro w hSw; clear hSw; go_simp; try with_reducible rfl)
          · ((try simp only [Act.put, List.setIfInBounds_toArray, List.set_cons_zero, List.set_cons_succ]); exact rfl)
          refine Rg.tk (i := 38) rfl hp ?_
          refine ⟨?_, ?_, by kernel_rfl, by kernel_rfl, by kernel_rfl, Or.inl ⟨by rfl, ?_⟩, hH2, ?_, ?_⟩
          rotate_left 2
          · (intro w hSw; clear hSw; go_simp; try with_reducible rfl)
          · ((try simp only [Act.put, List.setIfInBounds_toArray, List.set_cons_zero, List.set_cons_succ]); exact rfl)
          refine Rg.tk (i := 39) rfl hp ?_
          refine ⟨?_, ?_, by kernel_rfl, by kernel_rfl, by kernel_rfl, Or.inl ⟨by rfl, ?_⟩, hH2, ?_, ?_⟩
          rotate_left 2
          · (intro w hSw; clear hSw; go_simp; try with_reducible rfl)
          · ((try simp only [Act.put, List.setIfInBounds_toArray, List.set_cons_zero, List.set_cons_succ]); exact rfl)
          refine wpAnyH_done (by kernel_rfl) ?_ _
          refine hn.out _ _ ?_
          go_wp2_with fail
          go_ret
          exact ⟨ret_bool (by simp), hH2.out.1⟩
    · as_aux_lemma =>
        go_wp2_with fail
        refine Rg.start (S := fun w' => Hid (Below w.heap.size w w' ∧ w'.rangeAt w.heap.size 0 FL)) (by kernel_rfl) (fun _ _ _ _ _ h => h) (keepS.out _ _ hS1 (quiet _)) ?_
        intro Q hp hn wz hH0
        refine Rg.tk (i := 0) rfl hp ?_
        refine ⟨?_, ?_, by kernel_rfl, by kernel_rfl, by kernel_rfl, Or.inl ⟨by rfl, ?_⟩, hH0, ?_, ?_⟩
        rotate_left 2
        · (intro w hSw; clear hSw; go_simp; try with_reducible rfl)
        · ((try simp only [Act.put, List.setIfInBounds_toArray, List.set_cons_zero, List.set_cons_succ]); exact rfl)
        refine Rg.tk (i := 1) rfl hp ?_
        refine ⟨?_, ?_, by kernel_rfl, by kernel_rfl, by kernel_rfl, Or.inl ⟨by rfl, ?_⟩, hH0, ?_, ?_⟩
        rotate_left 2
        · (intro w hSw; clear hSw; go_simp; try with_reducible rfl)
        · ((try simp only [Act.put, List.setIfInBounds_toArray, List.set_cons_zero, List.set_cons_succ]); exact rfl)
        refine Rg.tk (i := 2) rfl hp ?_
        refine ⟨?_, ?_, by kernel_rfl, by kernel_rfl, by kernel_rfl, Or.inl ⟨by rfl, ?_⟩, hH0, ?_, ?_⟩
        rotate_left 2
        · (intro w hSw; clear hSw; go_simp; try with_reducible rfl)
        · ((try simp only [Act.put, List.setIfInBounds_toArray, List.set_cons_zero, List.set_cons_succ]); exact rfl)
        refine Rg.tk (i := 3) rfl hp ?_
        refine ⟨?_, ?_, by kernel_rfl, by kernel_rfl, by kernel_rfl, Or.inl ⟨by rfl, ?_⟩, hH0, ?_, ?_⟩
        rotate_left 2
        · (intro w hSw; clear hSw; go_simp; try with_reducible rfl)
        · ((try simp only [Act.put, List.setIfInBounds_toArray, List.set_cons_zero, List.set_cons_succ]); exact rfl)
        refine Rg.tk (i := 4) rfl hp ?_
        refine ⟨?_, ?_, by kernel_rfl, by kernel_rfl, by kernel_rfl, Or.inl ⟨by rfl, ?_⟩, hH0, ?_, ?_⟩
        rotate_left 2
        · (intro w hSw; clear hSw; go_simp; try with_reducible rfl)
        · ((try simp only [Act.put, List.setIfInBounds_toArray, List.set_cons_zero, List.set_cons_succ]); exact rfl)
        refine Rg.tk (i := 5) rfl hp ?_
        refine ⟨?_, ?_, by kernel_rfl, by kernel_rfl, by kernel_rfl, Or.inl ⟨by rfl, ?_⟩, hH0, ?_, ?_⟩
        rotate_left 2
        · (intro w hSw; clear hSw; go_simp; try with_reducible rfl)
        · ((try simp only [Act.put, List.setIfInBounds_toArray, List.set_cons_zero, List.set_cons_succ]); exact rfl)
        refine Rg.tk (i := 6) rfl hp ?_
        refine ⟨?_, ?_, by kernel_rfl, by kernel_rfl, by kernel_rfl, Or.inl ⟨by rfl, ?_⟩, hH0, ?_, ?_⟩
        rotate_left 2
        · (intro w hSw; clear hSw; go_simp; try with_reducible rfl)
        · ((try simp only [Act.put, List.setIfInBounds_toArray, List.set_cons_zero, List.set_cons_succ]); exact rfl)
        refine Rg.tk (i := 7) rfl hp ?_
        refine ⟨?_, ?_, by kernel_rfl, by kernel_rfl, by kernel_rfl, Or.inl ⟨by rfl, ?_⟩, hH0, ?_, ?_⟩
        rotate_left 2
        · (intro w hSw; clear hSw; go_simp; try with_reducible rfl)
        · ((try simp only [Act.put, List.setIfInBounds_toArray, List.set_cons_zero, List.set_cons_succ]); exact rfl)
        refine Rg.tk (i := 8) rfl hp ?_
        refine ⟨?_, ?_, by kernel_rfl, by kernel_rfl, by kernel_rfl, Or.inl ⟨by rfl, ?_⟩, hH0, ?_, ?_⟩
        rotate_left 2
        · (intro w hSw; clear hSw; go_simp; try with_reducible rfl)
        · ((try simp only [Act.put, List.setIfInBounds_toArray, List.set_cons_zero, List.set_cons_succ]); exact rfl)
        refine Rg.tk (i := 9) rfl hp ?_
        refine ⟨?_, ?_, by kernel_rfl, by kernel_rfl, by kernel_rfl, Or.inl ⟨by rfl, ?_⟩, hH0, ?_, ?_⟩
        rotate_left 2
        · (intro w hSw; clear hSw; go_simp; try with_reducible rfl)
        · ((try simp only [Act.put, List.setIfInBounds_toArray, List.set_cons_zero, List.set_cons_succ]); exact rfl)
        refine Rg.tk (i := 10) rfl hp ?_
        refine ⟨?_, ?_, by kernel_rfl, by kernel_rfl, by kernel_rfl, Or.inl ⟨by rfl, ?_⟩, hH0, ?_, ?_⟩
        rotate_left 2
        · (intro w hSw; clear hSw; go_simp; try with_reducible rfl)
        · ((try simp only [Act.put, List.setIfInBounds_toArray, List.set_cons_zero, List.set_cons_succ]); exact rfl)
        refine Rg.tk (i := 11) rfl hp ?_
        refine ⟨?_, ?_, by kernel_rfl, by kernel_rfl, by kernel_rfl, Or.inl ⟨by rfl, ?_⟩, hH0, ?_, ?_⟩
        rotate_left 2
        · (intro w hSw; clear hSw; go_simp; try with_reducible rfl)
        · ((try simp only [Act.put, List.setIfInBounds_toArray, List.set_cons_zero, List.set_cons_succ]); exact rfl)
        refine Rg.tk (i := 12) rfl hp ?_
        refine ⟨?_, ?_, by kernel_rfl, by kernel_rfl, by kernel_rfl, Or.inl ⟨by rfl, ?_⟩, hH0, ?_, ?_⟩
        rotate_left 2
        · (intro w hSw; clear hSw; go_simp; try with_reducible rfl)
        · ((try simp only [Act.put, List.setIfInBounds_toArray, List.set_cons_zero, List.set_cons_succ]); exact rfl)
        refine Rg.tk (i := 13) rfl hp ?_
        refine ⟨?_, ?_, by kernel_rfl, by kernel_rfl, by kernel_rfl, Or.inl ⟨by rfl, ?_⟩, hH0, ?_, ?_⟩
        rotate_left 2
        · (intro w hSw; clear hSw; go_simp; try with_reducible rfl)
        · ((try simp only [Act.put, List.setIfInBounds_toArray, List.set_cons_zero, List.set_cons_succ]); exact rfl)
        refine Rg.tk (i := 14) rfl hp ?_
        refine ⟨?_, ?_, by kernel_rfl, by kernel_rfl, by kernel_rfl, Or.inl ⟨by rfl, ?_⟩, hH0, ?_, ?_⟩
        rotate_left 2
        · (intro w hSw; clear hSw; go_simp; try with_reducible rfl)
        · ((try simp only [Act.put, List.setIfInBounds_toArray, List.set_cons_zero, List.set_cons_succ]); exact rfl)
        refine Rg.tk (i := 15) rfl hp ?_
        refine ⟨?_, ?_, by kernel_rfl, by kernel_rfl, by kernel_rfl, Or.inl ⟨by rfl, ?_⟩, hH0, ?_, ?_⟩
        rotate_left 2
        · (intro w hSw; clear hSw; go_simp; try with_reducible rfl)
        · ((try simp only [Act.put, List.setIfInBounds_toArray, List.set_cons_zero, List.set_cons_succ]); exact rfl)
        refine Rg.tk (i := 16) rfl hp ?_
        refine ⟨?_, ?_, by kernel_rfl, by kernel_rfl, by kernel_rfl, Or.inl ⟨by rfl, ?_⟩, hH0, ?_, ?_⟩
        rotate_left 2
        · (intro w hSw; clear hSw; go_simp; try with_reducible rfl)
        · ((try simp only [Act.put, List.setIfInBounds_toArray, List.set_cons_zero, List.set_cons_succ]); exact rfl)
        refine Rg.tk (i := 17) rfl hp ?_
        refine ⟨undef, ?_, by kernel_rfl, by kernel_rfl, by kernel_rfl, Or.inr ⟨by rfl, rfl⟩, hH0, ?_, ?_⟩
        rotate_left
        · ((try simp only [Act.put, List.setIfInBounds_toArray, List.set_cons_zero, List.set_cons_succ]); exact rfl)
        refine Rg.tk (i := 18) rfl hp ?_
        refine ⟨undef, ?_, by kernel_rfl, by kernel_rfl, by kernel_rfl, Or.inr ⟨by rfl, rfl⟩, hH0, ?_, ?_⟩
        rotate_left
        · ((try simp only [Act.put, List.setIfInBounds_toArray, List.set_cons_zero, List.set_cons_succ]); exact rfl)
        refine Rg.tk (i := 19) rfl hp ?_
        refine ⟨?_, ?_, by kernel_rfl, by kernel_rfl, by kernel_rfl, Or.inl ⟨by rfl, ?_⟩, hH0, ?_, ?_⟩
        rotate_left 2
        · (intro w hSw; clear hSw; go_simp; try with_reducible rfl)
        · ((try simp only [Act.put, List.setIfInBounds_toArray, List.set_cons_zero, List.set_cons_succ]); exact rfl)
        refine Rg.tk (i := 20) rfl hp ?_
        refine ⟨?_, ?_, by kernel_rfl, by kernel_rfl, by kernel_rfl, Or.inl ⟨by rfl, ?_⟩, hH0, ?_, ?_⟩
        rotate_left 2
        · (intro w hSw; clear hSw; go_simp; try with_reducible rfl)
        · ((try simp only [Act.put, List.setIfInBounds_toArray, List.set_cons_zero, List.set_cons_succ]); exact rfl)
        refine Rg.tk (i := 21) rfl hp ?_
        refine ⟨?_, ?_, by kernel_rfl, by kernel_rfl, by kernel_rfl, Or.inl ⟨by rfl, ?_⟩, hH0, ?_, ?_⟩
        rotate_left 2
        · (intro w hSw; clear hSw; go_simp; try with_reducible rfl)
        · ((try simp only [Act.put, List.setIfInBounds_toArray, List.set_cons_zero, List.set_cons_succ]); exact rfl)
        refine Rg.tk (i := 22) rfl hp ?_
        refine ⟨_, ?_, by kernel_rfl, by kernel_rfl, by kernel_rfl, yieldsIf_load_mid (by rfl) 24 _ rfl w.heap.size 0 rfl FL _ (fun w hSw => hSw.out.2) Try.underlying24 rfl hiF, hH0, ?_, ?_⟩
        rotate_left
        · ((try simp only [Act.put, List.setIfInBounds_toArray, List.set_cons_zero, List.set_cons_succ]); exact rfl)
        refine Rg.tk (i := 24) rfl hp ?_
        refine ⟨_, ?_, by kernel_rfl, by kernel_rfl, by kernel_rfl, yieldsIf_load_mid (by rfl) 24 _ rfl w.heap.size 0 rfl FL _ (fun w hSw => hSw.out.2) Try.underlying24 rfl hiF, hH0, ?_, ?_⟩
        rotate_left
        · ((try simp only [Act.put, List.setIfInBounds_toArray, List.set_cons_zero, List.set_cons_succ]); exact rfl)
        refine Rg.one (i := 23) rfl ⟨by kernel_rfl, by rfl, fun K hK => ?_⟩
        go_simp
        refine (hP.out _).mono ?_
        rintro e v0 ⟨rfl, hl0⟩
        refine hK.out _ _ ?_ (keepS.out _ _ hH0 hl0) ?_ (fun hH1 => ?_)
        rotate_left
        · ((try simp only [Act.put, List.setIfInBounds_toArray, List.set_cons_zero, List.set_cons_succ]); exact rfl)
        clear hK K hH0 hl0
        refine Rg.one (i := 25) rfl ⟨by kernel_rfl, by rfl, fun K hK => ?_⟩
        go_simp
        refine (hP2.out _).mono ?_
        rintro e v1 ⟨rfl, hl1⟩
        refine hK.out _ _ ?_ (keepS.out _ _ hH1 hl1) ?_ (fun hH2 => ?_)
        rotate_left
        · ((try simp only [Act.put, List.setIfInBounds_toArray, List.set_cons_zero, List.set_cons_succ]); exact rfl)
        clear hK K hH1 hl1
        as_aux_lemma =>
          refine Rg.tk (i := 26) rfl hp ?_
          refine ⟨?_, ?_, by kernel_rfl, by kernel_rfl, by kernel_rfl, Or.inl ⟨by rfl, ?_⟩, hH2, ?_, ?_⟩
          rotate_left 2
          · (intro w hSw; clear hSw; go_simp; try with_reducible rfl)
          · ((try simp only [Act.put, List.setIfInBounds_toArray, List.set_cons_zero, List.set_cons_succ]); exact rfl)
          refine Rg.tk (i := 27) rfl hp ?_
          refine ⟨?_, ?_, by kernel_rfl, by kernel_rfl, by kernel_rfl, Or.inl ⟨by rfl, ?_⟩, hH2, ?_, ?_⟩
          rotate_left 2
          · (intro w hSw; clear hSw; go_simp; try with_reducible rfl)
          · ((try simp only [Act.put, List.setIfInBounds_toArray, List.set_cons_zero, List.set_cons_succ]); exact rfl)
          refine Rg.tk (i := 28) rfl hp ?_
          refine ⟨?_, ?_, by kernel_rfl, by kernel_rfl, by kernel_rfl, Or.inl ⟨by rfl, ?_⟩, hH2, ?_, ?_⟩
          rotate_left 2
          · (intro w hSw; clear hSw; go_simp; try with_reducible rfl)
          · ((try simp only [Act.put, List.setIfInBounds_toArray, List.set_cons_zero, List.set_cons_succ]); exact rfl)
          refine Rg.tk (i := 29) rfl hp ?_
          refine ⟨?_, ?_, by kernel_rfl, by kernel_rfl, by kernel_rfl, Or.inl ⟨by rfl, ?_⟩, hH2, ?_, ?_⟩
          rotate_left 2
          · (intro w hSw; clear hSw; go_simp; try with_reducible rfl)
          · ((try simp only [Act.put, List.setIfInBounds_toArray, List.set_cons_zero, List.set_cons_succ]); exact rfl)
          refine Rg.tk (i := 30) rfl hp ?_
          refine ⟨?_, ?_, by kernel_rfl, by kernel_rfl, by kernel_rfl, Or.inl ⟨by rfl, ?_⟩, hH2, ?_, ?_⟩
          rotate_left 2
          · (intro w hSw; clear hSw; go_simp; try with_reducible rfl)
          · ((try simp only [Act.put, List.setIfInBounds_toArray, List.set_cons_zero, List.set_cons_succ]); exact rfl)
          refine Rg.tk (i := 31) rfl hp ?_
          refine ⟨?_, ?_, by kernel_rfl, by kernel_rfl, by kernel_rfl, Or.inl ⟨by rfl, ?_⟩, hH2, ?_, ?_⟩
          rotate_left 2
          · (intro w hSw; clear hSw; go_simp; try with_reducible rfl)
          · ((try simp only [Act.put, List.setIfInBounds_toArray, List.set_cons_zero, List.set_cons_succ]); exact rfl)
          refine Rg.tk (i := 32) rfl hp ?_
          refine ⟨_, ?_, by kernel_rfl, by kernel_rfl, by kernel_rfl, yieldsIf_load_mid (by rfl) 24 _ rfl w.heap.size 0 rfl FL _ (fun w hSw => hSw.out.2) Try.underlying24 rfl hiF, hH2, ?_, ?_⟩
          rotate_left
          · ((try simp only [Act.put, List.setIfInBounds_toArray, List.set_cons_zero, List.set_cons_succ]); exact rfl)
          refine Rg.tk (i := 34) rfl hp ?_
          refine ⟨_, ?_, by kernel_rfl, by kernel_rfl, by kernel_rfl, yieldsIf_load_mid (by rfl) 24 _ rfl w.heap.size 0 rfl FL _ (fun w hSw => hSw.out.2) Try.underlying24 rfl hiF, hH2, ?_, ?_⟩
          rotate_left
          · ((try simp only [Act.put, List.setIfInBounds_toArray, List.set_cons_zero, List.set_cons_succ]); exact rfl)
          refine Rg.one (i := 33) rfl ⟨by kernel_rfl, by rfl, fun K hK => ?_⟩
          go_simp
          refine (hB.out _).mono ?_
          rintro e v2 ⟨rfl, hl2⟩
          refine hK.out _ _ ?_ (keepS.out _ _ hH2 hl2) ?_ (fun hH3 => ?_)
          rotate_left
          · ((try simp only [Act.put, List.setIfInBounds_toArray, List.set_cons_zero, List.set_cons_succ]); exact rfl)
          clear hK K hH2 hl2
          refine Rg.one (i := 35) rfl ⟨by kernel_rfl, by rfl, fun K hK => ?_⟩
          go_simp
          refine (hB2.out _).mono ?_
          rintro e v3 ⟨rfl, hl3⟩
          refine hK.out _ _ ?_ (keepS.out _ _ hH3 hl3) ?_ (fun hH4 => ?_)
          rotate_left
          · ((try simp only [Act.put, List.setIfInBounds_toArray, List.set_cons_zero, List.set_cons_succ]); exact rfl)
          clear hK K hH3 hl3
          refine Rg.tk (i := 36) rfl hp ?_
          refine ⟨?_, ?_, by kernel_rfl, by kernel_rfl, by kernel_rfl, Or.inl ⟨by rfl, ?_⟩, hH4, ?_, ?_⟩
          rotate_left 2
          · (intro w hSw; clear hSw; go_simp; try with_reducible rfl)
          · ((try simp only [Act.put, List.setIfInBounds_toArray, List.set_cons_zero, List.set_cons_succ]); exact rfl)
          refine Rg.tk (i := 37) rfl hp ?_
          refine ⟨?_, ?_, by kernel_rfl, by kernel_rfl, by kernel_rfl, Or.inl ⟨by rfl, ?_⟩, hH4, ?_, ?_⟩
          rotate_left 2
          · (intro w hSw; clear hSw; go_simp; try with_reducible rfl)
          · ((try simp only [Act.put, List.setIfInBounds_toArray, List.set_cons_zero, List.set_cons_succ]); exact rfl)
          refine Rg.tk (i := 38) rfl hp ?_
          refine ⟨?_, ?_, by kernel_rfl, by kernel_rfl, by kernel_rfl, Or.inl ⟨by rfl, ?_⟩, hH4, ?_, ?_⟩
          rotate_left 2
          · (intro w hSw; clear hSw; go_simp; try with_reducible rfl)
          · ((try simp only [Act.put, List.setIfInBounds_toArray, List.set_cons_zero, List.set_cons_succ]); exact rfl)
          refine Rg.tk (i := 39) rfl hp ?_
          refine ⟨?_, ?_, by kernel_rfl, by kernel_rfl, by kernel_rfl, Or.inl ⟨by rfl, ?_⟩, hH4, ?_, ?_⟩
          rotate_left 2
          · (intro w hSw; clear hSw; go_simp; try with_reducible rfl)
          · ((try simp only [Act.put, List.setIfInBounds_toArray, List.set_cons_zero, List.set_cons_succ]); exact rfl)
          refine wpAnyH_done (by kernel_rfl) ?_ _
          refine hn.out _ _ ?_
          go_wp2_with fail
          go_ret
          exact ⟨ret_bool (by simp), hH4.out.1⟩
set_option maxRecDepth 20000 in
set_option maxHeartbeats 8000000 in
theorem confTells_walk {H : Type} {enc : TypeId × Value → H} (W : World) (a0_0 : Int) (a0_1 : Int) (a0_2 : Int) (a0_3 : Int) (a0_4 : Int) (a0_5 : Int) (a0_6 : Int) (a0_7 : Int) (a0_8 : Int) (a0_9 : Int) (a0_10 : Int) (a0_11 : Int) (a0_12 : Int) (a0_13 : Int) (a0_14 : Int) (a0_15 : Int) (w0_0 : (Lit.int .i64 a0_0).wf = true) (w0_1 : (Lit.int .i64 a0_1).wf = true) (w0_2 : (Lit.int .i64 a0_2).wf = true) (w0_3 : (Lit.int .i64 a0_3).wf = true) (w0_4 : (Lit.int .i64 a0_4).wf = true) (w0_5 : (Lit.int .i64 a0_5).wf = true) (w0_6 : (Lit.int .u64 a0_6).wf = true) (w0_7 : (Lit.int .u64 a0_7).wf = true) (w0_8 : (Lit.int .i64 a0_8).wf = true) (w0_9 : (Lit.int .i64 a0_9).wf = true) (w0_10 : (Lit.int .u64 a0_10).wf = true) (w0_11 : (Lit.int .i64 a0_11).wf = true) (w0_12 : (Lit.int .u64 a0_12).wf = true) (w0_13 : (Lit.int .u64 a0_13).wf = true) (w0_14 : (Lit.int .i64 a0_14).wf = true) (w0_15 : (Lit.int .i64 a0_15).wf = true) :
    Calls Try.prog 3 #[.agg #[.int .i64 a0_0, .int .i64 a0_1, .int .i64 a0_2, .int .i64 a0_3, .int .i64 a0_4, .int .i64 a0_5, .int .u64 a0_6, .int .u64 a0_7, .int .i64 a0_8, .int .i64 a0_9, .int .u64 a0_10, .int .i64 a0_11, .int .u64 a0_12, .int .u64 a0_13, .int .i64 a0_14, .int .i64 a0_15]] W fun e w' => e = .returned (.bool true) ∧ Below W.heap.size W w' := by
  have hF : Ok (pick a0_0 a0_1 a0_2 a0_3 a0_4 a0_5 a0_6 a0_7 a0_8 a0_9 a0_10 a0_11 a0_12 a0_13 a0_14 a0_15) := ⟨i_of w0_0, i_of w0_1, i_of w0_2, i_of w0_3, i_of w0_4, i_of w0_5, u_of w0_6, u_of w0_7, i_of w0_8, i_of w0_9, u_of w0_10, i_of w0_11, u_of w0_12, u_of w0_13, i_of w0_14, i_of w0_15⟩
  have hT : Tail (pick a0_0 a0_1 a0_2 a0_3 a0_4 a0_5 a0_6 a0_7 a0_8 a0_9 a0_10 a0_11 a0_12 a0_13 a0_14 a0_15) := fun n => rfl
  have hC := check_calls _ (in_put hF hT)
  have hR := fun w => rcheck_calls hF w
  rcases errno_or (pick a0_0 a0_1 a0_2 a0_3 a0_4 a0_5 a0_6 a0_7 a0_8 a0_9 a0_10 a0_11 a0_12 a0_13 a0_14 a0_15) with ⟨h, h2⟩ | ⟨h, h2⟩
  · rw [h] at hC
    exact tells_core (pick a0_0 a0_1 a0_2 a0_3 a0_4 a0_5 a0_6 a0_7 a0_8 a0_9 a0_10 a0_11 a0_12 a0_13 a0_14 a0_15) _ _ _ 1 _ 0 W (hid rfl) (hid hC) (hid hR) (hid (put_calls _)) (hid (rput_calls _)) (eq_nums (in_put hF hT)) (.inl ⟨by omega, rfl, rfl⟩)
  · have hB := bound_calls (pick a0_0 a0_1 a0_2 a0_3 a0_4 a0_5 a0_6 a0_7 a0_8 a0_9 a0_10 a0_11 a0_12 a0_13 a0_14 a0_15) (i_of w0_5) (u_of w0_6) (u_of w0_7) (u_of w0_13)
    have hB2 := fun w => rbound_calls hF h2 w
    rw [h, h2] at hC
    rw [h2] at hR
    exact tells_core (pick a0_0 a0_1 a0_2 a0_3 a0_4 a0_5 a0_6 a0_7 a0_8 a0_9 a0_10 a0_11 a0_12 a0_13 a0_14 a0_15) _ _ 0 0 0 _ W (hid rfl) (hid hC) (hid hR) (hid (put_calls _)) (hid (rput_calls _)) (eq_nums (in_put hF hT)) (.inr ⟨rfl, rfl, rfl, hid hB, hid hB2⟩)
end Go.Proofs.Ytnednhdbghkcnaa.C08
