/- The walk of the law ConfBound. -/
import Derived.Test.YtnednhdbghkcnaaC08H
import Derived.Test.YtnednhdbghkcnaaReg2
namespace Go.Proofs.Ytnednhdbghkcnaa.C08
open Go.RowKit Go.Proofs.Ytnednhdbghkcnaa
set_option linter.unusedVariables false
set_option linter.unusedSimpArgs false
set_option linter.unnecessarySimpa false
attribute [local go_sem] C01.max2_mx C01.min2_mn C01.max_two C01.min_two
theorem grow2 (w : World) (o o2 : Obj) : Below w.heap.size w ((w.alloc o).alloc o2) := (grow' w o).trans ((grow' _ _).mono (by simp))
set_option maxRecDepth 20000 in
set_option maxHeartbeats 16000000 in
theorem bnd_core (F : Nat → Int) (c : Nat) (DL NL : List Value) (n m e v : Int) (w : World) (e0 : 0 ≤ e) (e1 : e ≤ 4294967295) (hDL : Hid (DL = [.int .i64 (F 0), .int .i64 (F 1), .int .i64 (F 2), .int .i64 (F 3), .int .i64 (F 4), .int .i64 (F 5), .int .u64 (F 6 + e), .int .u64 (F 7), .int .i64 (F 8), .int .i64 (F 9), .int .u64 (F 10), .int .i64 (F 11), .int .u64 (F 12), .int .u64 (F 13), .int .i64 (F 14), .int .i64 (F 15)])) (hNL : Hid (NL = [.int .i64 (F 0), .int .i64 (F 1), .int .i64 (F 2), .int .i64 (F 3), .int .i64 (F 4), .int .i64 0, .int .u64 (F 6), .int .u64 (F 7), .int .i64 (F 8), .int .i64 (F 9), .int .u64 (F 10), .int .i64 (F 11), .int .u64 (F 12), .int .u64 (F 13), .int .i64 (F 14), .int .i64 (F 15)]))
    (hC : Hid (∀ w, Calls Try.prog 10 #[.agg #[.int .i64 (F 0), .int .i64 (F 1), .int .i64 (F 2), .int .i64 (F 3), .int .i64 (F 4), .int .i64 (F 5), .int .u64 (F 6), .int .u64 (F 7), .int .i64 (F 8), .int .i64 (F 9), .int .u64 (F 10), .int .i64 (F 11), .int .u64 (F 12), .int .u64 (F 13), .int .i64 (F 14), .int .i64 (F 15)]] w fun e w' => e = .returned (.tuple #[.int .i64 n, .int .i64 m]) ∧ Below w.heap.size w w'))
    (hB : Hid (∀ w, Calls Try.prog 14 #[.agg #[.int .i64 (F 0), .int .i64 (F 1), .int .i64 (F 2), .int .i64 (F 3), .int .i64 (F 4), .int .i64 (F 5), .int .u64 (F 6), .int .u64 (F 7), .int .i64 (F 8), .int .i64 (F 9), .int .u64 (F 10), .int .i64 (F 11), .int .u64 (F 12), .int .u64 (F 13), .int .i64 (F 14), .int .i64 (F 15)]] w fun e w' => e = .returned (.int .u64 v) ∧ Below w.heap.size w w'))
    (hcase : m = 1 ∨ m = 0 ∧ (c ≤ 3 ∧ Hid (F 5 = c)) ∧ (1 ≤ F 6 ∧ F 6 ≤ 1099511627776) ∧ (1 ≤ F 7 ∧ F 7 ≤ 1099511627776) ∧ (0 ≤ F 13 ∧ F 13 ≤ 1099511627776) ∧ Hid (v = F 6 + F 13 + c * F 7 + 1) ∧
      Hid (∀ w, Calls Try.prog 14 #[.agg DL.toArray] w fun x w' => x = .returned (.int .u64 (v + e)) ∧ Below w.heap.size w w') ∧ Hid (∀ w, Calls Try.prog 14 #[.agg NL.toArray] w fun e w' => e = .returned (.int .u64 (F 6 + F 13 + 1)) ∧ Below w.heap.size w w')) :
    Calls Try.prog 7 #[.agg #[.int .i64 (F 0), .int .i64 (F 1), .int .i64 (F 2), .int .i64 (F 3), .int .i64 (F 4), .int .i64 (F 5), .int .u64 (F 6), .int .u64 (F 7), .int .i64 (F 8), .int .i64 (F 9), .int .u64 (F 10), .int .i64 (F 11), .int .u64 (F 12), .int .u64 (F 13), .int .i64 (F 14), .int .i64 (F 15)], .int .u32 e] w fun e w' => e = .returned (.bool true) ∧ Below w.heap.size w w' := by
  have i16 : (Try.prog.info? 24).map (·.size) = some 16 := by kernel_rfl
  have hiD : (Try.prog.info? 24).map (·.size) = some DL.length := by rw [i16, hDL.out]; rfl
  have hiN : (Try.prog.info? 24).map (·.size) = some NL.length := by rw [i16, hNL.out]; rfl
  clear i16
  have we : IntKind.u64.wrap e = e := Sat.u64_in (by omega) (by omega)
  go_enter Try.func7, Try.ntmps7
  go_wp2_with fail
  refine (awake_calls _).mono ?_
  rintro x w1 ⟨rfl, hl⟩
  have hb := hid (via ((Below.refl _ _).alloc (Nat.le_refl _) _) hl)
  have hc : w1.cell? ⟨w.heap.size, 0, none⟩ = some (.int .i64 (F 0)) ∧ w1.cell? ⟨w.heap.size, 1, none⟩ = some (.int .i64 (F 1)) ∧ w1.cell? ⟨w.heap.size, 2, none⟩ = some (.int .i64 (F 2)) ∧ w1.cell? ⟨w.heap.size, 3, none⟩ = some (.int .i64 (F 3)) ∧ w1.cell? ⟨w.heap.size, 4, none⟩ = some (.int .i64 (F 4)) ∧ w1.cell? ⟨w.heap.size, 5, none⟩ = some (.int .i64 (F 5)) ∧ w1.cell? ⟨w.heap.size, 6, none⟩ = some (.int .u64 (F 6)) ∧ w1.cell? ⟨w.heap.size, 7, none⟩ = some (.int .u64 (F 7)) ∧ w1.cell? ⟨w.heap.size, 8, none⟩ = some (.int .i64 (F 8)) ∧ w1.cell? ⟨w.heap.size, 9, none⟩ = some (.int .i64 (F 9)) ∧ w1.cell? ⟨w.heap.size, 10, none⟩ = some (.int .u64 (F 10)) ∧ w1.cell? ⟨w.heap.size, 11, none⟩ = some (.int .i64 (F 11)) ∧ w1.cell? ⟨w.heap.size, 12, none⟩ = some (.int .u64 (F 12)) ∧ w1.cell? ⟨w.heap.size, 13, none⟩ = some (.int .u64 (F 13)) ∧ w1.cell? ⟨w.heap.size, 14, none⟩ = some (.int .i64 (F 14)) ∧ w1.cell? ⟨w.heap.size, 15, none⟩ = some (.int .i64 (F 15)) := by
    (repeat' apply And.intro) <;> exact cell_of hl (by simp [go_sem])
  obtain ⟨c0, c1, c2, c3, c4, c5, c6, c7, c8, c9, c10, c11, c12, c13, c14, c15⟩ := hc
  clear hl
  as_aux_lemma =>
    go_wp2_with fail
    refine (hC.out _).mono ?_
    rintro x w2 ⟨rfl, hl⟩
    have hb2 := hid (via hb.out hl)
    replace c0 := cell_of hl c0
    replace c1 := cell_of hl c1
    replace c2 := cell_of hl c2
    replace c3 := cell_of hl c3
    replace c4 := cell_of hl c4
    replace c5 := cell_of hl c5
    replace c6 := cell_of hl c6
    replace c7 := cell_of hl c7
    replace c8 := cell_of hl c8
    replace c9 := cell_of hl c9
    replace c10 := cell_of hl c10
    replace c11 := cell_of hl c11
    replace c12 := cell_of hl c12
    replace c13 := cell_of hl c13
    replace c14 := cell_of hl c14
    replace c15 := cell_of hl c15
    clear hl hb
    rcases hcase with rfl | ⟨rfl, ⟨hc3, H5⟩, ⟨h60, h61⟩, ⟨h70, h71⟩, ⟨h130, h131⟩, hv, hBd, hBn⟩
    · go_wp2_with fail
      go_ret
      exact ⟨ret_bool (by simp), hb2.out⟩
    go_wp2_with fail
    refine (hB.out _).mono ?_
    rintro x w3 ⟨rfl, hl⟩
    have hb3 := hid (via hb2.out hl)
    have h5 := H5.out
    replace c0 := cell_of hl c0
    replace c1 := cell_of hl c1
    replace c2 := cell_of hl c2
    replace c3 := cell_of hl c3
    replace c4 := cell_of hl c4
    replace c5 := cell_of hl c5
    replace c6 := cell_of hl c6
    replace c7 := cell_of hl c7
    replace c8 := cell_of hl c8
    replace c9 := cell_of hl c9
    replace c10 := cell_of hl c10
    replace c11 := cell_of hl c11
    replace c12 := cell_of hl c12
    replace c13 := cell_of hl c13
    replace c14 := cell_of hl c14
    replace c15 := cell_of hl c15
    have k5 := hid c5
    have k6 := hid c6
    have k7 := hid c7
    have k13 := hid c13
    have d0 := fun o o2 => cell_of (grow2 w3 o o2) c0
    have d1 := fun o o2 => cell_of (grow2 w3 o o2) c1
    have d2 := fun o o2 => cell_of (grow2 w3 o o2) c2
    have d3 := fun o o2 => cell_of (grow2 w3 o o2) c3
    have d4 := fun o o2 => cell_of (grow2 w3 o o2) c4
    have d5 := fun o o2 => cell_of (grow2 w3 o o2) c5
    have d6 := fun o o2 => cell_of (grow2 w3 o o2) c6
    have d7 := fun o o2 => cell_of (grow2 w3 o o2) c7
    have d8 := fun o o2 => cell_of (grow2 w3 o o2) c8
    have d9 := fun o o2 => cell_of (grow2 w3 o o2) c9
    have d10 := fun o o2 => cell_of (grow2 w3 o o2) c10
    have d11 := fun o o2 => cell_of (grow2 w3 o o2) c11
    have d12 := fun o o2 => cell_of (grow2 w3 o o2) c12
    have d13 := fun o o2 => cell_of (grow2 w3 o o2) c13
    have d14 := fun o o2 => cell_of (grow2 w3 o o2) c14
    have d15 := fun o o2 => cell_of (grow2 w3 o o2) c15
    have g0 := fun o => cell_of (grow' w3 o) c0
    have g1 := fun o => cell_of (grow' w3 o) c1
    have g2 := fun o => cell_of (grow' w3 o) c2
    have g3 := fun o => cell_of (grow' w3 o) c3
    have g4 := fun o => cell_of (grow' w3 o) c4
    have g5 := fun o => cell_of (grow' w3 o) c5
    have g6 := fun o => cell_of (grow' w3 o) c6
    have g7 := fun o => cell_of (grow' w3 o) c7
    have g8 := fun o => cell_of (grow' w3 o) c8
    have g9 := fun o => cell_of (grow' w3 o) c9
    have g10 := fun o => cell_of (grow' w3 o) c10
    have g11 := fun o => cell_of (grow' w3 o) c11
    have g12 := fun o => cell_of (grow' w3 o) c12
    have g13 := fun o => cell_of (grow' w3 o) c13
    have g14 := fun o => cell_of (grow' w3 o) c14
    have g15 := fun o => cell_of (grow' w3 o) c15
    have keepS := hid (fun (u1 u2 : World) (hS : Hid (Below w.heap.size w u1 ∧ u1.rangeAt w3.heap.size 0 DL ∧ u1.rangeAt (w3.heap.size + 1) 0 NL ∧ u1.cell? ⟨w.heap.size, 5, none⟩ = some (.int .i64 (F 5)) ∧ u1.cell? ⟨w.heap.size, 6, none⟩ = some (.int .u64 (F 6)) ∧ u1.cell? ⟨w.heap.size, 7, none⟩ = some (.int .u64 (F 7)) ∧ u1.cell? ⟨w.heap.size, 13, none⟩ = some (.int .u64 (F 13)))) (hl : Below u1.heap.size u1 u2) => (show Hid (Below w.heap.size w u2 ∧ u2.rangeAt w3.heap.size 0 DL ∧ u2.rangeAt (w3.heap.size + 1) 0 NL ∧ u2.cell? ⟨w.heap.size, 5, none⟩ = some (.int .i64 (F 5)) ∧ u2.cell? ⟨w.heap.size, 6, none⟩ = some (.int .u64 (F 6)) ∧ u2.cell? ⟨w.heap.size, 7, none⟩ = some (.int .u64 (F 7)) ∧ u2.cell? ⟨w.heap.size, 13, none⟩ = some (.int .u64 (F 13))) from hid ⟨via hS.out.1 hl, range_below hl hS.out.2.1, range_below hl hS.out.2.2.1, cell_of hl hS.out.2.2.2.1, cell_of hl hS.out.2.2.2.2.1, cell_of hl hS.out.2.2.2.2.2.1, cell_of hl hS.out.2.2.2.2.2.2⟩))
    clear hl hb2
    have hc4 : c = 0 ∨ c = 1 ∨ c = 2 ∨ c = 3 := by omega
    have v0 : 0 ≤ v ∧ v ≤ 8796093022208 := by
      rw [hv.out]
      rcases hc4 with rfl | rfl | rfl | rfl <;> omega
    have lt6 : F 6 < v := by rw [hv.out]; rcases hc4 with rfl | rfl | rfl | rfl <;> omega
    have lt13 : F 13 < v := by rw [hv.out]; rcases hc4 with rfl | rfl | rfl | rfl <;> omega
    have w1 : IntKind.u64.wrap (v + e) = v + e := Sat.u64_in (by omega) (by omega)
    have w2 : IntKind.u64.wrap (F 6 + F 13) = F 6 + F 13 := Sat.u64_in (by omega) (by omega)
    have w3' : IntKind.u64.wrap (F 6 + F 13 + 1) = F 6 + F 13 + 1 := Sat.u64_in (by omega) (by omega)
    have W4 : Hid (IntKind.u64.wrap (v - (F 6 + F 13 + 1)) = (c : Int) * F 7) := by
      show _ = _
      rw [hv.out, show F 6 + F 13 + (c : Int) * F 7 + 1 - (F 6 + F 13 + 1) = (c : Int) * F 7 from by omega]
      exact Sat.u64_in (Int.mul_nonneg (by omega) (by omega)) (by rcases hc4 with rfl | rfl | rfl | rfl <;> omega)
    have LT7 : Hid (c ≠ 0 → F 7 < v) := by
      intro h
      rw [hv.out]
      rcases hc4 with rfl | rfl | rfl | rfl <;> omega
    have hBC4 := hid hc4
    clear hc4
    as_aux_lemma =>
      go_wp2_with fail
      go_loop [11, 12] (fun f i => ∃ k : Nat, k ≤ c ∧ i = .int .i64 k ∧ f = .int .u64 ((k : Int) * F 7)) (fun _ i => c - (intOf i).toNat)
      case atStart => exact ⟨0, Nat.zero_le _, rfl, by simp⟩
      case round =>
        obtain ⟨k, hk, rfl, rfl⟩ := hrel
        by_cases hlt : k < c
        · have l1 : (k : Int) < c := by omega
          have l2 : (k : Int) < 3 := by omega
          have m1 : 0 ≤ (k : Int) * F 7 := Int.mul_nonneg (by omega) (by omega)
          have m2 : (k : Int) * F 7 ≤ 3 * F 7 := Int.mul_le_mul_of_nonneg_right (by omega) (by omega)
          have m3 : (k : Int) * F 7 + F 7 ≤ 18446744073709551615 := by omega
          have ms : Hid ((k : Int) * F 7 + F 7 = ((k + 1 : Nat) : Int) * F 7) := by show _ = _; rw [Int.natCast_add, Int.add_mul]; simp
          go_wp2_with fail
          go_round
          case rel => exact ⟨k + 1, by omega, by go_num, by rw [← ms.out]⟩
          case measure => simp [intOf]; omega
        · obtain rfl : k = c := by omega
          have w4 := W4.out
          generalize (k : Int) * F 7 = fl at *
          go_wp2_with fail
          have hS1 : (fun wz : World => Hid (Below w.heap.size w wz ∧ wz.rangeAt w3.heap.size 0 DL ∧ wz.rangeAt (w3.heap.size + 1) 0 NL ∧ wz.cell? ⟨w.heap.size, 5, none⟩ = some (.int .i64 (F 5)) ∧ wz.cell? ⟨w.heap.size, 6, none⟩ = some (.int .u64 (F 6)) ∧ wz.cell? ⟨w.heap.size, 7, none⟩ = some (.int .u64 (F 7)) ∧ wz.cell? ⟨w.heap.size, 13, none⟩ = some (.int .u64 (F 13)))) ((w3.alloc (.cells #[.int .i64 (F 0), .int .i64 (F 1), .int .i64 (F 2), .int .i64 (F 3), .int .i64 (F 4), .int .i64 (k : Int), .int .u64 (F 6 + e), .int .u64 (F 7), .int .i64 (F 8), .int .i64 (F 9), .int .u64 (F 10), .int .i64 (F 11), .int .u64 (F 12), .int .u64 (F 13), .int .i64 (F 14), .int .i64 (F 15)] 24 (0, 0))).alloc (.cells #[.int .i64 (F 0), .int .i64 (F 1), .int .i64 (F 2), .int .i64 (F 3), .int .i64 (F 4), .int .i64 0, .int .u64 (F 6), .int .u64 (F 7), .int .i64 (F 8), .int .i64 (F 9), .int .u64 (F 10), .int .i64 (F 11), .int .u64 (F 12), .int .u64 (F 13), .int .i64 (F 14), .int .i64 (F 15)] 24 (0, 0))) := by
            refine hid ⟨(hb3.out.alloc hb3.out.size _).alloc (by have := hb3.out.size; simp; omega) _, ?_, ?_, cell_of (grow2 _ _ _) k5.out, cell_of (grow2 _ _ _) k6.out, cell_of (grow2 _ _ _) k7.out, cell_of (grow2 _ _ _) k13.out⟩
            · rw [hDL.out, h5]
              exact range_below (grow' _ _) (range_new _ _ rfl)
            · rw [hNL.out]
              exact range_new _ _ (by simp)
          clear c0 c1 c2 c3 c4 c5 c6 c7 c8 c9 c10 c11 c12 c13 c14 c15 g0 g1 g2 g3 g4 g5 g6 g7 g8 g9 g10 g11 g12 g13 g14 g15 d0 d1 d2 d3 d4 d5 d6 d7 d8 d9 d10 d11 d12 d13 d14 d15
          by_cases hk0 : k = 0
          · have hc0 : ((k : Int) == 0) = true := by rw [beq_iff_eq]; omega
            clear LT7 W4 hk0 hlt hk hv hBC4
            as_aux_lemma =>
              refine Rg.start (S := fun w' => Hid (Below w.heap.size w w' ∧ w'.rangeAt w3.heap.size 0 DL ∧ w'.rangeAt (w3.heap.size + 1) 0 NL ∧ w'.cell? ⟨w.heap.size, 5, none⟩ = some (.int .i64 (F 5)) ∧ w'.cell? ⟨w.heap.size, 6, none⟩ = some (.int .u64 (F 6)) ∧ w'.cell? ⟨w.heap.size, 7, none⟩ = some (.int .u64 (F 7)) ∧ w'.cell? ⟨w.heap.size, 13, none⟩ = some (.int .u64 (F 13)))) (by kernel_rfl) (fun _ _ _ _ _ h => h) (keepS.out _ _ hS1 (quiet _)) ?_
              intro Q hp hn wz hH0
              refine Rg.tk (i := 0) rfl hp ?_
              refine ⟨?_, ?_, by kernel_rfl, by kernel_rfl, by kernel_rfl, Or.inl ⟨by rfl, ?_⟩, hH0, ?_, ?_⟩
              rotate_left 2
              · (intro w hSw; clear hSw; go_simp; try with_reducible rfl)
              · ((try simp only [Act.put, List.setIfInBounds_toArray, List.set_cons_zero, List.set_cons_succ]); exact rfl)
              refine Rg.tk (i := 1) rfl hp ?_
              refine ⟨?_, ?_, by kernel_rfl, by kernel_rfl, by kernel_rfl, Or.inl ⟨by rfl, ?_⟩, hH0, ?_, ?_⟩
              rotate_left 2
              · (intro w hSw; clear hSw; go_simp; try with_reducible rfl)
              · ((try simp only [Act.put, List.setIfInBounds_toArray, List.set_cons_zero, List.set_cons_succ]); exact rfl)
              refine Rg.tk (i := 2) rfl hp ?_
              refine ⟨?_, ?_, by kernel_rfl, by kernel_rfl, by kernel_rfl, Or.inl ⟨by rfl, ?_⟩, hH0, ?_, ?_⟩
              rotate_left 2
              · (intro w hSw; clear hSw; go_simp; try with_reducible rfl)
              · ((try simp only [Act.put, List.setIfInBounds_toArray, List.set_cons_zero, List.set_cons_succ]); exact rfl)
              refine Rg.tk (i := 3) rfl hp ?_
              refine ⟨?_, ?_, by kernel_rfl, by kernel_rfl, by kernel_rfl, Or.inl ⟨by rfl, ?_⟩, hH0, ?_, ?_⟩
              rotate_left 2
              · (intro w hSw; clear hSw; go_simp; try with_reducible rfl)
              · ((try simp only [Act.put, List.setIfInBounds_toArray, List.set_cons_zero, List.set_cons_succ]); exact rfl)
              refine Rg.tk (i := 4) rfl hp ?_
              refine ⟨?_, ?_, by kernel_rfl, by kernel_rfl, by kernel_rfl, Or.inl ⟨by rfl, ?_⟩, hH0, ?_, ?_⟩
              rotate_left 2
              · (intro w hSw; have hc := hSw.out.2.2.2.2.1; clear hSw; go_simp; try with_reducible rfl)
              · ((try simp only [Act.put, List.setIfInBounds_toArray, List.set_cons_zero, List.set_cons_succ]); exact rfl)
              refine Rg.tk (i := 5) rfl hp ?_
              refine ⟨?_, ?_, by kernel_rfl, by kernel_rfl, by kernel_rfl, Or.inl ⟨by rfl, ?_⟩, hH0, ?_, ?_⟩
              rotate_left 2
              · (intro w hSw; clear hSw; go_simp; try with_reducible rfl)
              · ((try simp only [Act.put, List.setIfInBounds_toArray, List.set_cons_zero, List.set_cons_succ]); exact rfl)
              refine Rg.tk (i := 6) rfl hp ?_
              refine ⟨?_, ?_, by kernel_rfl, by kernel_rfl, by kernel_rfl, Or.inl ⟨by rfl, ?_⟩, hH0, ?_, ?_⟩
              rotate_left 2
              · (intro w hSw; clear hSw; go_simp; try with_reducible rfl)
              · ((try simp only [Act.put, List.setIfInBounds_toArray, List.set_cons_zero, List.set_cons_succ]); exact rfl)
              refine Rg.tk (i := 7) rfl hp ?_
              refine ⟨?_, ?_, by kernel_rfl, by kernel_rfl, by kernel_rfl, Or.inl ⟨by rfl, ?_⟩, hH0, ?_, ?_⟩
              rotate_left 2
              · (intro w hSw; clear hSw; go_simp; try with_reducible rfl)
              · ((try simp only [Act.put, List.setIfInBounds_toArray, List.set_cons_zero, List.set_cons_succ]); exact rfl)
              refine Rg.tk (i := 8) rfl hp ?_
              refine ⟨?_, ?_, by kernel_rfl, by kernel_rfl, by kernel_rfl, Or.inl ⟨by rfl, ?_⟩, hH0, ?_, ?_⟩
              rotate_left 2
              · (intro w hSw; clear hSw; go_simp; try with_reducible rfl)
              · ((try simp only [Act.put, List.setIfInBounds_toArray, List.set_cons_zero, List.set_cons_succ]); exact rfl)
              refine Rg.tk (i := 9) rfl hp ?_
              refine ⟨?_, ?_, by kernel_rfl, by kernel_rfl, by kernel_rfl, Or.inl ⟨by rfl, ?_⟩, hH0, ?_, ?_⟩
              rotate_left 2
              · (intro w hSw; clear hSw; go_simp; try with_reducible rfl)
              · ((try simp only [Act.put, List.setIfInBounds_toArray, List.set_cons_zero, List.set_cons_succ]); exact rfl)
              refine Rg.tk (i := 10) rfl hp ?_
              refine ⟨?_, ?_, by kernel_rfl, by kernel_rfl, by kernel_rfl, Or.inl ⟨by rfl, ?_⟩, hH0, ?_, ?_⟩
              rotate_left 2
              · (intro w hSw; have hc := hSw.out.2.2.2.2.2.2; clear hSw; go_simp; try with_reducible rfl)
              · ((try simp only [Act.put, List.setIfInBounds_toArray, List.set_cons_zero, List.set_cons_succ]); exact rfl)
              refine Rg.tk (i := 11) rfl hp ?_
              refine ⟨?_, ?_, by kernel_rfl, by kernel_rfl, by kernel_rfl, Or.inl ⟨by rfl, ?_⟩, hH0, ?_, ?_⟩
              rotate_left 2
              · (intro w hSw; clear hSw; go_simp; try with_reducible rfl)
              · ((try simp only [Act.put, List.setIfInBounds_toArray, List.set_cons_zero, List.set_cons_succ]); exact rfl)
              refine Rg.tk (i := 12) rfl hp ?_
              refine ⟨?_, ?_, by kernel_rfl, by kernel_rfl, by kernel_rfl, Or.inl ⟨by rfl, ?_⟩, hH0, ?_, ?_⟩
              rotate_left 2
              · (intro w hSw; clear hSw; go_simp; try with_reducible rfl)
              · ((try simp only [Act.put, List.setIfInBounds_toArray, List.set_cons_zero, List.set_cons_succ]); exact rfl)
              refine Rg.tk (i := 13) rfl hp ?_
              refine ⟨?_, ?_, by kernel_rfl, by kernel_rfl, by kernel_rfl, Or.inl ⟨by rfl, ?_⟩, hH0, ?_, ?_⟩
              rotate_left 2
              · (intro w hSw; clear hSw; go_simp; try with_reducible rfl)
              · ((try simp only [Act.put, List.setIfInBounds_toArray, List.set_cons_zero, List.set_cons_succ]); exact rfl)
              refine Rg.tk (i := 14) rfl hp ?_
              refine ⟨?_, ?_, by kernel_rfl, by kernel_rfl, by kernel_rfl, Or.inl ⟨by rfl, ?_⟩, hH0, ?_, ?_⟩
              rotate_left 2
              · (intro w hSw; clear hSw; go_simp; try with_reducible rfl)
              · ((try simp only [Act.put, List.setIfInBounds_toArray, List.set_cons_zero, List.set_cons_succ]); exact rfl)
              refine Rg.tk (i := 15) rfl hp ?_
              refine ⟨?_, ?_, by kernel_rfl, by kernel_rfl, by kernel_rfl, Or.inl ⟨by rfl, ?_⟩, hH0, ?_, ?_⟩
              rotate_left 2
              · (intro w hSw; have hc := hSw.out.2.2.2.1; clear hSw; go_simp; try with_reducible rfl)
              · ((try simp only [Act.put, List.setIfInBounds_toArray, List.set_cons_zero, List.set_cons_succ]); exact rfl)
              refine Rg.tk (i := 16) rfl hp ?_
              refine ⟨?_, ?_, by kernel_rfl, by kernel_rfl, by kernel_rfl, Or.inl ⟨by rfl, ?_⟩, hH0, ?_, ?_⟩
              rotate_left 2
              · (intro w hSw; clear hSw; go_simp; try with_reducible rfl)
              · ((try simp only [Act.put, List.setIfInBounds_toArray, List.set_cons_zero, List.set_cons_succ]); exact rfl)
              refine Rg.tk (i := 17) rfl hp ?_
              refine ⟨?_, ?_, by kernel_rfl, by kernel_rfl, by kernel_rfl, Or.inl ⟨by rfl, ?_⟩, hH0, ?_, ?_⟩
              rotate_left 2
              · (intro w hSw; clear hSw; go_simp; try with_reducible rfl)
              · ((try simp only [Act.put, List.setIfInBounds_toArray, List.set_cons_zero, List.set_cons_succ]); exact rfl)
              refine Rg.tk (i := 18) rfl hp ?_
              refine ⟨undef, ?_, by kernel_rfl, by kernel_rfl, by kernel_rfl, Or.inr ⟨by rfl, rfl⟩, hH0, ?_, ?_⟩
              rotate_left
              · ((try simp only [Act.put, List.setIfInBounds_toArray, List.set_cons_zero, List.set_cons_succ]); exact rfl)
              refine Rg.tk (i := 19) rfl hp ?_
              refine ⟨undef, ?_, by kernel_rfl, by kernel_rfl, by kernel_rfl, Or.inr ⟨by rfl, rfl⟩, hH0, ?_, ?_⟩
              rotate_left
              · ((try simp only [Act.put, List.setIfInBounds_toArray, List.set_cons_zero, List.set_cons_succ]); exact rfl)
              refine Rg.tk (i := 20) rfl hp ?_
              refine ⟨undef, ?_, by kernel_rfl, by kernel_rfl, by kernel_rfl, Or.inr ⟨by rfl, rfl⟩, hH0, ?_, ?_⟩
              rotate_left
              · ((try simp only [Act.put, List.setIfInBounds_toArray, List.set_cons_zero, List.set_cons_succ]); exact rfl)
              refine Rg.tk (i := 21) rfl hp ?_
              refine ⟨undef, ?_, by kernel_rfl, by kernel_rfl, by kernel_rfl, Or.inr ⟨by rfl, rfl⟩, hH0, ?_, ?_⟩
              rotate_left
              · ((try simp only [Act.put, List.setIfInBounds_toArray, List.set_cons_zero, List.set_cons_succ]); exact rfl)
              refine Rg.tk (i := 22) rfl hp ?_
              refine ⟨?_, ?_, by kernel_rfl, by kernel_rfl, by kernel_rfl, Or.inl ⟨by rfl, ?_⟩, hH0, ?_, ?_⟩
              rotate_left 2
              · (intro w hSw; clear hSw; go_simp; try with_reducible rfl)
              · ((try simp only [Act.put, List.setIfInBounds_toArray, List.set_cons_zero, List.set_cons_succ]); exact rfl)
              refine Rg.tk (i := 23) rfl hp ?_
              refine ⟨?_, ?_, by kernel_rfl, by kernel_rfl, by kernel_rfl, Or.inl ⟨by rfl, ?_⟩, hH0, ?_, ?_⟩
              rotate_left 2
              · (intro w hSw; clear hSw; go_simp; try with_reducible rfl)
              · ((try simp only [Act.put, List.setIfInBounds_toArray, List.set_cons_zero, List.set_cons_succ]); exact rfl)
              refine Rg.tk (i := 24) rfl hp ?_
              refine ⟨?_, ?_, by kernel_rfl, by kernel_rfl, by kernel_rfl, Or.inl ⟨by rfl, ?_⟩, hH0, ?_, ?_⟩
              rotate_left 2
              · (intro w hSw; clear hSw; go_simp; try with_reducible rfl)
              · ((try simp only [Act.put, List.setIfInBounds_toArray, List.set_cons_zero, List.set_cons_succ]); exact rfl)
              refine Rg.tk (i := 25) rfl hp ?_
              refine ⟨_, ?_, by kernel_rfl, by kernel_rfl, by kernel_rfl, yieldsIf_load_mid (by rfl) 24 _ rfl w3.heap.size 0 rfl DL _ (fun w hSw => hSw.out.2.1) Try.underlying24 rfl hiD, hH0, ?_, ?_⟩
              rotate_left
              · ((try simp only [Act.put, List.setIfInBounds_toArray, List.set_cons_zero, List.set_cons_succ]); exact rfl)
              refine Rg.tk (i := 27) rfl hp ?_
              refine ⟨?_, ?_, by kernel_rfl, by kernel_rfl, by kernel_rfl, Or.inl ⟨by rfl, ?_⟩, hH0, ?_, ?_⟩
              rotate_left 2
              · (intro w hSw; clear hSw; go_simp; try with_reducible rfl)
              · ((try simp only [Act.put, List.setIfInBounds_toArray, List.set_cons_zero, List.set_cons_succ]); exact rfl)
              refine Rg.tk (i := 28) rfl hp ?_
              refine ⟨?_, ?_, by kernel_rfl, by kernel_rfl, by kernel_rfl, Or.inl ⟨by rfl, ?_⟩, hH0, ?_, ?_⟩
              rotate_left 2
              · (intro w hSw; clear hSw; go_simp; try with_reducible rfl)
              · ((try simp only [Act.put, List.setIfInBounds_toArray, List.set_cons_zero, List.set_cons_succ]); exact rfl)
              refine Rg.tk (i := 29) rfl hp ?_
              refine ⟨?_, ?_, by kernel_rfl, by kernel_rfl, by kernel_rfl, Or.inl ⟨by rfl, ?_⟩, hH0, ?_, ?_⟩
              rotate_left 2
              · (intro w hSw; clear hSw; go_simp; try with_reducible rfl)
              · ((try simp only [Act.put, List.setIfInBounds_toArray, List.set_cons_zero, List.set_cons_succ]); exact rfl)
              refine Rg.tk (i := 30) rfl hp ?_
              refine ⟨?_, ?_, by kernel_rfl, by kernel_rfl, by kernel_rfl, Or.inl ⟨by rfl, ?_⟩, hH0, ?_, ?_⟩
              rotate_left 2
              · (intro w hSw; clear hSw; go_simp; try with_reducible rfl)
              · ((try simp only [Act.put, List.setIfInBounds_toArray, List.set_cons_zero, List.set_cons_succ]); exact rfl)
              refine Rg.one (i := 26) rfl ⟨by kernel_rfl, by rfl, fun K hK => ?_⟩
              go_simp
              refine (hBd.out _).mono ?_
              rintro e v0 ⟨rfl, hl0⟩
              refine hK.out _ _ ?_ (keepS.out _ _ hH0 hl0) ?_ (fun hH1 => ?_)
              rotate_left
              · ((try simp only [Act.put, List.setIfInBounds_toArray, List.set_cons_zero, List.set_cons_succ]); exact rfl)
              clear hK K hH0 hl0
              as_aux_lemma =>
                refine Rg.tk (i := 31) rfl hp ?_
                refine ⟨?_, ?_, by kernel_rfl, by kernel_rfl, by kernel_rfl, Or.inl ⟨by rfl, ?_⟩, hH1, ?_, ?_⟩
                rotate_left 2
                · (intro w hSw; clear hSw; go_simp; try with_reducible rfl)
                · ((try simp only [Act.put, List.setIfInBounds_toArray, List.set_cons_zero, List.set_cons_succ]); exact rfl)
                refine Rg.tk (i := 32) rfl hp ?_
                refine ⟨?_, ?_, by kernel_rfl, by kernel_rfl, by kernel_rfl, Or.inl ⟨by rfl, ?_⟩, hH1, ?_, ?_⟩
                rotate_left 2
                · (intro w hSw; clear hSw; go_simp; try with_reducible rfl)
                · ((try simp only [Act.put, List.setIfInBounds_toArray, List.set_cons_zero, List.set_cons_succ]); exact rfl)
                refine Rg.tk (i := 33) rfl hp ?_
                refine ⟨?_, ?_, by kernel_rfl, by kernel_rfl, by kernel_rfl, Or.inl ⟨by rfl, ?_⟩, hH1, ?_, ?_⟩
                rotate_left 2
                · (intro w hSw; clear hSw; go_simp; try with_reducible rfl)
                · ((try simp only [Act.put, List.setIfInBounds_toArray, List.set_cons_zero, List.set_cons_succ]); exact rfl)
                refine Rg.tk (i := 34) rfl hp ?_
                refine ⟨_, ?_, by kernel_rfl, by kernel_rfl, by kernel_rfl, yieldsIf_load_mid (by rfl) 24 _ rfl (w3.heap.size + 1) 0 rfl NL _ (fun w hSw => hSw.out.2.2.1) Try.underlying24 rfl hiN, hH1, ?_, ?_⟩
                rotate_left
                · ((try simp only [Act.put, List.setIfInBounds_toArray, List.set_cons_zero, List.set_cons_succ]); exact rfl)
                refine Rg.tk (i := 36) rfl hp ?_
                refine ⟨?_, ?_, by kernel_rfl, by kernel_rfl, by kernel_rfl, Or.inl ⟨by rfl, ?_⟩, hH1, ?_, ?_⟩
                rotate_left 2
                · (intro w hSw; clear hSw; go_simp; try with_reducible rfl)
                · ((try simp only [Act.put, List.setIfInBounds_toArray, List.set_cons_zero, List.set_cons_succ]); exact rfl)
                refine Rg.tk (i := 37) rfl hp ?_
                refine ⟨?_, ?_, by kernel_rfl, by kernel_rfl, by kernel_rfl, Or.inl ⟨by rfl, ?_⟩, hH1, ?_, ?_⟩
                rotate_left 2
                · (intro w hSw; have hc := hSw.out.2.2.2.2.1; clear hSw; go_simp; try with_reducible rfl)
                · ((try simp only [Act.put, List.setIfInBounds_toArray, List.set_cons_zero, List.set_cons_succ]); exact rfl)
                refine Rg.tk (i := 38) rfl hp ?_
                refine ⟨?_, ?_, by kernel_rfl, by kernel_rfl, by kernel_rfl, Or.inl ⟨by rfl, ?_⟩, hH1, ?_, ?_⟩
                rotate_left 2
                · (intro w hSw; clear hSw; go_simp; try with_reducible rfl)
                · ((try simp only [Act.put, List.setIfInBounds_toArray, List.set_cons_zero, List.set_cons_succ]); exact rfl)
                refine Rg.tk (i := 39) rfl hp ?_
                refine ⟨?_, ?_, by kernel_rfl, by kernel_rfl, by kernel_rfl, Or.inl ⟨by rfl, ?_⟩, hH1, ?_, ?_⟩
                rotate_left 2
                · (intro w hSw; have hc := hSw.out.2.2.2.2.2.2; clear hSw; go_simp; try with_reducible rfl)
                · ((try simp only [Act.put, List.setIfInBounds_toArray, List.set_cons_zero, List.set_cons_succ]); exact rfl)
                refine Rg.tk (i := 40) rfl hp ?_
                refine ⟨?_, ?_, by kernel_rfl, by kernel_rfl, by kernel_rfl, Or.inl ⟨by rfl, ?_⟩, hH1, ?_, ?_⟩
                rotate_left 2
                · (intro w hSw; clear hSw; go_simp; try with_reducible rfl)
                · ((try simp only [Act.put, List.setIfInBounds_toArray, List.set_cons_zero, List.set_cons_succ]); exact rfl)
                refine Rg.tk (i := 41) rfl hp ?_
                refine ⟨?_, ?_, by kernel_rfl, by kernel_rfl, by kernel_rfl, Or.inl ⟨by rfl, ?_⟩, hH1, ?_, ?_⟩
                rotate_left 2
                · (intro w hSw; clear hSw; go_simp; try with_reducible rfl)
                · ((try simp only [Act.put, List.setIfInBounds_toArray, List.set_cons_zero, List.set_cons_succ]); exact rfl)
                refine Rg.one (i := 35) rfl ⟨by kernel_rfl, by rfl, fun K hK => ?_⟩
                go_simp
                refine (hBn.out _).mono ?_
                rintro e v1 ⟨rfl, hl1⟩
                refine hK.out _ _ ?_ (keepS.out _ _ hH1 hl1) ?_ (fun hH2 => ?_)
                rotate_left
                · ((try simp only [Act.put, List.setIfInBounds_toArray, List.set_cons_zero, List.set_cons_succ]); exact rfl)
                clear hK K hH1 hl1
                refine Rg.tk (i := 42) rfl hp ?_
                refine ⟨?_, ?_, by kernel_rfl, by kernel_rfl, by kernel_rfl, Or.inl ⟨by rfl, ?_⟩, hH2, ?_, ?_⟩
                rotate_left 2
                · (intro w hSw; clear hSw; go_simp; try with_reducible rfl)
                · ((try simp only [Act.put, List.setIfInBounds_toArray, List.set_cons_zero, List.set_cons_succ]); exact rfl)
                refine Rg.tk (i := 43) rfl hp ?_
                refine ⟨?_, ?_, by kernel_rfl, by kernel_rfl, by kernel_rfl, Or.inl ⟨by rfl, ?_⟩, hH2, ?_, ?_⟩
                rotate_left 2
                · (intro w hSw; clear hSw; go_simp; try with_reducible rfl)
                · ((try simp only [Act.put, List.setIfInBounds_toArray, List.set_cons_zero, List.set_cons_succ]); exact rfl)
                refine Rg.tk (i := 44) rfl hp ?_
                refine ⟨?_, ?_, by kernel_rfl, by kernel_rfl, by kernel_rfl, Or.inl ⟨by rfl, ?_⟩, hH2, ?_, ?_⟩
                rotate_left 2
                · (intro w hSw; clear hSw; go_simp; try with_reducible rfl)
                · ((try simp only [Act.put, List.setIfInBounds_toArray, List.set_cons_zero, List.set_cons_succ]); exact rfl)
                refine Rg.tk (i := 45) rfl hp ?_
                refine ⟨?_, ?_, by kernel_rfl, by kernel_rfl, by kernel_rfl, Or.inl ⟨by rfl, ?_⟩, hH2, ?_, ?_⟩
                rotate_left 2
                · (intro w hSw; clear hSw; go_simp; try with_reducible rfl)
                · ((try simp only [Act.put, List.setIfInBounds_toArray, List.set_cons_zero, List.set_cons_succ]); exact rfl)
                refine Rg.tk (i := 46) rfl hp ?_
                refine ⟨_, ?_, by kernel_rfl, by kernel_rfl, by kernel_rfl, yieldsIf_load_mid (by rfl) 24 _ rfl (w3.heap.size + 1) 0 rfl NL _ (fun w hSw => hSw.out.2.2.1) Try.underlying24 rfl hiN, hH2, ?_, ?_⟩
                rotate_left
                · ((try simp only [Act.put, List.setIfInBounds_toArray, List.set_cons_zero, List.set_cons_succ]); exact rfl)
                refine Rg.tk (i := 49) rfl hp ?_
                refine ⟨?_, ?_, by kernel_rfl, by kernel_rfl, by kernel_rfl, Or.inl ⟨by rfl, ?_⟩, hH2, ?_, ?_⟩
                rotate_left 2
                · (intro w hSw; clear hSw; go_simp; try with_reducible rfl)
                · ((try simp only [Act.put, List.setIfInBounds_toArray, List.set_cons_zero, List.set_cons_succ]); exact rfl)
                refine Rg.one (i := 47) rfl ⟨by kernel_rfl, by rfl, fun K hK => ?_⟩
                go_simp
                refine (hBn.out _).mono ?_
                rintro e v2 ⟨rfl, hl2⟩
                refine hK.out _ _ ?_ (keepS.out _ _ hH2 hl2) ?_ (fun hH3 => ?_)
                rotate_left
                · ((try simp only [Act.put, List.setIfInBounds_toArray, List.set_cons_zero, List.set_cons_succ]); exact rfl)
                clear hK K hH2 hl2
                refine Rg.tk (i := 48) rfl hp ?_
                refine ⟨?_, ?_, by kernel_rfl, by kernel_rfl, by kernel_rfl, Or.inl ⟨by rfl, ?_⟩, hH3, ?_, ?_⟩
                rotate_left 2
                · (intro w hSw; clear hSw; go_simp; try with_reducible rfl)
                · ((try simp only [Act.put, List.setIfInBounds_toArray, List.set_cons_zero, List.set_cons_succ]); exact rfl)
                refine Rg.tk (i := 50) rfl hp ?_
                refine ⟨?_, ?_, by kernel_rfl, by kernel_rfl, by kernel_rfl, Or.inl ⟨by rfl, ?_⟩, hH3, ?_, ?_⟩
                rotate_left 2
                · (intro w hSw; clear hSw; go_simp; try with_reducible rfl)
                · ((try simp only [Act.put, List.setIfInBounds_toArray, List.set_cons_zero, List.set_cons_succ]); exact rfl)
                refine Rg.tk (i := 51) rfl hp ?_
                refine ⟨?_, ?_, by kernel_rfl, by kernel_rfl, by kernel_rfl, Or.inl ⟨by rfl, ?_⟩, hH3, ?_, ?_⟩
                rotate_left 2
                · (intro w hSw; clear hSw; go_simp; try with_reducible rfl)
                · ((try simp only [Act.put, List.setIfInBounds_toArray, List.set_cons_zero, List.set_cons_succ]); exact rfl)
                refine Rg.tk (i := 52) rfl hp ?_
                refine ⟨?_, ?_, by kernel_rfl, by kernel_rfl, by kernel_rfl, Or.inl ⟨by rfl, ?_⟩, hH3, ?_, ?_⟩
                rotate_left 2
                · (intro w hSw; clear hSw; go_simp; try with_reducible rfl)
                · ((try simp only [Act.put, List.setIfInBounds_toArray, List.set_cons_zero, List.set_cons_succ]); exact rfl)
                refine wpAnyH_done (by kernel_rfl) ?_ _
                refine hn.out _ _ ?_
                go_wp2_with fail
                go_ret
                exact ⟨ret_bool (by simp; try omega), hH3.out.1⟩
          · have hc0 : ((k : Int) == 0) = false := by rw [beq_eq_false_iff_ne]; omega
            have lt7 := LT7.out hk0
            clear LT7 W4 hk0 hlt hk hv hBC4
            as_aux_lemma =>
              refine Rg.start (S := fun w' => Hid (Below w.heap.size w w' ∧ w'.rangeAt w3.heap.size 0 DL ∧ w'.rangeAt (w3.heap.size + 1) 0 NL ∧ w'.cell? ⟨w.heap.size, 5, none⟩ = some (.int .i64 (F 5)) ∧ w'.cell? ⟨w.heap.size, 6, none⟩ = some (.int .u64 (F 6)) ∧ w'.cell? ⟨w.heap.size, 7, none⟩ = some (.int .u64 (F 7)) ∧ w'.cell? ⟨w.heap.size, 13, none⟩ = some (.int .u64 (F 13)))) (by kernel_rfl) (fun _ _ _ _ _ h => h) (keepS.out _ _ hS1 (quiet _)) ?_
              intro Q hp hn wz hH0
              refine Rg.tk (i := 0) rfl hp ?_
              refine ⟨?_, ?_, by kernel_rfl, by kernel_rfl, by kernel_rfl, Or.inl ⟨by rfl, ?_⟩, hH0, ?_, ?_⟩
              rotate_left 2
              · (intro w hSw; clear hSw; go_simp; try with_reducible rfl)
              · ((try simp only [Act.put, List.setIfInBounds_toArray, List.set_cons_zero, List.set_cons_succ]); exact rfl)
              refine Rg.tk (i := 1) rfl hp ?_
              refine ⟨?_, ?_, by kernel_rfl, by kernel_rfl, by kernel_rfl, Or.inl ⟨by rfl, ?_⟩, hH0, ?_, ?_⟩
              rotate_left 2
              · (intro w hSw; clear hSw; go_simp; try with_reducible rfl)
              · ((try simp only [Act.put, List.setIfInBounds_toArray, List.set_cons_zero, List.set_cons_succ]); exact rfl)
              refine Rg.tk (i := 2) rfl hp ?_
              refine ⟨?_, ?_, by kernel_rfl, by kernel_rfl, by kernel_rfl, Or.inl ⟨by rfl, ?_⟩, hH0, ?_, ?_⟩
              rotate_left 2
              · (intro w hSw; clear hSw; go_simp; try with_reducible rfl)
              · ((try simp only [Act.put, List.setIfInBounds_toArray, List.set_cons_zero, List.set_cons_succ]); exact rfl)
              refine Rg.tk (i := 3) rfl hp ?_
              refine ⟨?_, ?_, by kernel_rfl, by kernel_rfl, by kernel_rfl, Or.inl ⟨by rfl, ?_⟩, hH0, ?_, ?_⟩
              rotate_left 2
              · (intro w hSw; clear hSw; go_simp; try with_reducible rfl)
              · ((try simp only [Act.put, List.setIfInBounds_toArray, List.set_cons_zero, List.set_cons_succ]); exact rfl)
              refine Rg.tk (i := 4) rfl hp ?_
              refine ⟨?_, ?_, by kernel_rfl, by kernel_rfl, by kernel_rfl, Or.inl ⟨by rfl, ?_⟩, hH0, ?_, ?_⟩
              rotate_left 2
              · (intro w hSw; have hc := hSw.out.2.2.2.2.1; clear hSw; go_simp; try with_reducible rfl)
              · ((try simp only [Act.put, List.setIfInBounds_toArray, List.set_cons_zero, List.set_cons_succ]); exact rfl)
              refine Rg.tk (i := 5) rfl hp ?_
              refine ⟨?_, ?_, by kernel_rfl, by kernel_rfl, by kernel_rfl, Or.inl ⟨by rfl, ?_⟩, hH0, ?_, ?_⟩
              rotate_left 2
              · (intro w hSw; clear hSw; go_simp; try with_reducible rfl)
              · ((try simp only [Act.put, List.setIfInBounds_toArray, List.set_cons_zero, List.set_cons_succ]); exact rfl)
              refine Rg.tk (i := 6) rfl hp ?_
              refine ⟨?_, ?_, by kernel_rfl, by kernel_rfl, by kernel_rfl, Or.inl ⟨by rfl, ?_⟩, hH0, ?_, ?_⟩
              rotate_left 2
              · (intro w hSw; clear hSw; go_simp; try with_reducible rfl)
              · ((try simp only [Act.put, List.setIfInBounds_toArray, List.set_cons_zero, List.set_cons_succ]); exact rfl)
              refine Rg.tk (i := 7) rfl hp ?_
              refine ⟨?_, ?_, by kernel_rfl, by kernel_rfl, by kernel_rfl, Or.inl ⟨by rfl, ?_⟩, hH0, ?_, ?_⟩
              rotate_left 2
              · (intro w hSw; clear hSw; go_simp; try with_reducible rfl)
              · ((try simp only [Act.put, List.setIfInBounds_toArray, List.set_cons_zero, List.set_cons_succ]); exact rfl)
              refine Rg.tk (i := 8) rfl hp ?_
              refine ⟨?_, ?_, by kernel_rfl, by kernel_rfl, by kernel_rfl, Or.inl ⟨by rfl, ?_⟩, hH0, ?_, ?_⟩
              rotate_left 2
              · (intro w hSw; clear hSw; go_simp; try with_reducible rfl)
              · ((try simp only [Act.put, List.setIfInBounds_toArray, List.set_cons_zero, List.set_cons_succ]); exact rfl)
              refine Rg.tk (i := 9) rfl hp ?_
              refine ⟨?_, ?_, by kernel_rfl, by kernel_rfl, by kernel_rfl, Or.inl ⟨by rfl, ?_⟩, hH0, ?_, ?_⟩
              rotate_left 2
              · (intro w hSw; clear hSw; go_simp; try with_reducible rfl)
              · ((try simp only [Act.put, List.setIfInBounds_toArray, List.set_cons_zero, List.set_cons_succ]); exact rfl)
              refine Rg.tk (i := 10) rfl hp ?_
              refine ⟨?_, ?_, by kernel_rfl, by kernel_rfl, by kernel_rfl, Or.inl ⟨by rfl, ?_⟩, hH0, ?_, ?_⟩
              rotate_left 2
              · (intro w hSw; have hc := hSw.out.2.2.2.2.2.2; clear hSw; go_simp; try with_reducible rfl)
              · ((try simp only [Act.put, List.setIfInBounds_toArray, List.set_cons_zero, List.set_cons_succ]); exact rfl)
              refine Rg.tk (i := 11) rfl hp ?_
              refine ⟨?_, ?_, by kernel_rfl, by kernel_rfl, by kernel_rfl, Or.inl ⟨by rfl, ?_⟩, hH0, ?_, ?_⟩
              rotate_left 2
              · (intro w hSw; clear hSw; go_simp; try with_reducible rfl)
              · ((try simp only [Act.put, List.setIfInBounds_toArray, List.set_cons_zero, List.set_cons_succ]); exact rfl)
              refine Rg.tk (i := 12) rfl hp ?_
              refine ⟨?_, ?_, by kernel_rfl, by kernel_rfl, by kernel_rfl, Or.inl ⟨by rfl, ?_⟩, hH0, ?_, ?_⟩
              rotate_left 2
              · (intro w hSw; clear hSw; go_simp; try with_reducible rfl)
              · ((try simp only [Act.put, List.setIfInBounds_toArray, List.set_cons_zero, List.set_cons_succ]); exact rfl)
              refine Rg.tk (i := 13) rfl hp ?_
              refine ⟨?_, ?_, by kernel_rfl, by kernel_rfl, by kernel_rfl, Or.inl ⟨by rfl, ?_⟩, hH0, ?_, ?_⟩
              rotate_left 2
              · (intro w hSw; clear hSw; go_simp; try with_reducible rfl)
              · ((try simp only [Act.put, List.setIfInBounds_toArray, List.set_cons_zero, List.set_cons_succ]); exact rfl)
              refine Rg.tk (i := 14) rfl hp ?_
              refine ⟨?_, ?_, by kernel_rfl, by kernel_rfl, by kernel_rfl, Or.inl ⟨by rfl, ?_⟩, hH0, ?_, ?_⟩
              rotate_left 2
              · (intro w hSw; clear hSw; go_simp; try with_reducible rfl)
              · ((try simp only [Act.put, List.setIfInBounds_toArray, List.set_cons_zero, List.set_cons_succ]); exact rfl)
              refine Rg.tk (i := 15) rfl hp ?_
              refine ⟨?_, ?_, by kernel_rfl, by kernel_rfl, by kernel_rfl, Or.inl ⟨by rfl, ?_⟩, hH0, ?_, ?_⟩
              rotate_left 2
              · (intro w hSw; have hc := hSw.out.2.2.2.1; clear hSw; go_simp; try with_reducible rfl)
              · ((try simp only [Act.put, List.setIfInBounds_toArray, List.set_cons_zero, List.set_cons_succ]); exact rfl)
              refine Rg.tk (i := 16) rfl hp ?_
              refine ⟨?_, ?_, by kernel_rfl, by kernel_rfl, by kernel_rfl, Or.inl ⟨by rfl, ?_⟩, hH0, ?_, ?_⟩
              rotate_left 2
              · (intro w hSw; clear hSw; go_simp; try with_reducible rfl)
              · ((try simp only [Act.put, List.setIfInBounds_toArray, List.set_cons_zero, List.set_cons_succ]); exact rfl)
              refine Rg.tk (i := 17) rfl hp ?_
              refine ⟨?_, ?_, by kernel_rfl, by kernel_rfl, by kernel_rfl, Or.inl ⟨by rfl, ?_⟩, hH0, ?_, ?_⟩
              rotate_left 2
              · (intro w hSw; clear hSw; go_simp; try with_reducible rfl)
              · ((try simp only [Act.put, List.setIfInBounds_toArray, List.set_cons_zero, List.set_cons_succ]); exact rfl)
              refine Rg.tk (i := 18) rfl hp ?_
              refine ⟨?_, ?_, by kernel_rfl, by kernel_rfl, by kernel_rfl, Or.inl ⟨by rfl, ?_⟩, hH0, ?_, ?_⟩
              rotate_left 2
              · (intro w hSw; clear hSw; go_simp; try with_reducible rfl)
              · ((try simp only [Act.put, List.setIfInBounds_toArray, List.set_cons_zero, List.set_cons_succ]); exact rfl)
              refine Rg.tk (i := 19) rfl hp ?_
              refine ⟨?_, ?_, by kernel_rfl, by kernel_rfl, by kernel_rfl, Or.inl ⟨by rfl, ?_⟩, hH0, ?_, ?_⟩
              rotate_left 2
              · (intro w hSw; clear hSw; go_simp; try with_reducible rfl)
              · ((try simp only [Act.put, List.setIfInBounds_toArray, List.set_cons_zero, List.set_cons_succ]); exact rfl)
              refine Rg.tk (i := 20) rfl hp ?_
              refine ⟨?_, ?_, by kernel_rfl, by kernel_rfl, by kernel_rfl, Or.inl ⟨by rfl, ?_⟩, hH0, ?_, ?_⟩
              rotate_left 2
              · (intro w hSw; have hc := hSw.out.2.2.2.2.2.1; clear hSw; go_simp; try with_reducible rfl)
              · ((try simp only [Act.put, List.setIfInBounds_toArray, List.set_cons_zero, List.set_cons_succ]); exact rfl)
              refine Rg.tk (i := 21) rfl hp ?_
              refine ⟨?_, ?_, by kernel_rfl, by kernel_rfl, by kernel_rfl, Or.inl ⟨by rfl, ?_⟩, hH0, ?_, ?_⟩
              rotate_left 2
              · (intro w hSw; clear hSw; go_simp; try with_reducible rfl)
              · ((try simp only [Act.put, List.setIfInBounds_toArray, List.set_cons_zero, List.set_cons_succ]); exact rfl)
              refine Rg.tk (i := 22) rfl hp ?_
              refine ⟨?_, ?_, by kernel_rfl, by kernel_rfl, by kernel_rfl, Or.inl ⟨by rfl, ?_⟩, hH0, ?_, ?_⟩
              rotate_left 2
              · (intro w hSw; clear hSw; go_simp; try with_reducible rfl)
              · ((try simp only [Act.put, List.setIfInBounds_toArray, List.set_cons_zero, List.set_cons_succ]); exact rfl)
              refine Rg.tk (i := 23) rfl hp ?_
              refine ⟨?_, ?_, by kernel_rfl, by kernel_rfl, by kernel_rfl, Or.inl ⟨by rfl, ?_⟩, hH0, ?_, ?_⟩
              rotate_left 2
              · (intro w hSw; clear hSw; go_simp; try with_reducible rfl)
              · ((try simp only [Act.put, List.setIfInBounds_toArray, List.set_cons_zero, List.set_cons_succ]); exact rfl)
              refine Rg.tk (i := 24) rfl hp ?_
              refine ⟨?_, ?_, by kernel_rfl, by kernel_rfl, by kernel_rfl, Or.inl ⟨by rfl, ?_⟩, hH0, ?_, ?_⟩
              rotate_left 2
              · (intro w hSw; clear hSw; go_simp; try with_reducible rfl)
              · ((try simp only [Act.put, List.setIfInBounds_toArray, List.set_cons_zero, List.set_cons_succ]); exact rfl)
              refine Rg.tk (i := 25) rfl hp ?_
              refine ⟨_, ?_, by kernel_rfl, by kernel_rfl, by kernel_rfl, yieldsIf_load_mid (by rfl) 24 _ rfl w3.heap.size 0 rfl DL _ (fun w hSw => hSw.out.2.1) Try.underlying24 rfl hiD, hH0, ?_, ?_⟩
              rotate_left
              · ((try simp only [Act.put, List.setIfInBounds_toArray, List.set_cons_zero, List.set_cons_succ]); exact rfl)
              refine Rg.tk (i := 27) rfl hp ?_
              refine ⟨?_, ?_, by kernel_rfl, by kernel_rfl, by kernel_rfl, Or.inl ⟨by rfl, ?_⟩, hH0, ?_, ?_⟩
              rotate_left 2
              · (intro w hSw; clear hSw; go_simp; try with_reducible rfl)
              · ((try simp only [Act.put, List.setIfInBounds_toArray, List.set_cons_zero, List.set_cons_succ]); exact rfl)
              refine Rg.tk (i := 28) rfl hp ?_
              refine ⟨?_, ?_, by kernel_rfl, by kernel_rfl, by kernel_rfl, Or.inl ⟨by rfl, ?_⟩, hH0, ?_, ?_⟩
              rotate_left 2
              · (intro w hSw; clear hSw; go_simp; try with_reducible rfl)
              · ((try simp only [Act.put, List.setIfInBounds_toArray, List.set_cons_zero, List.set_cons_succ]); exact rfl)
              refine Rg.tk (i := 29) rfl hp ?_
              refine ⟨?_, ?_, by kernel_rfl, by kernel_rfl, by kernel_rfl, Or.inl ⟨by rfl, ?_⟩, hH0, ?_, ?_⟩
              rotate_left 2
              · (intro w hSw; clear hSw; go_simp; try with_reducible rfl)
              · ((try simp only [Act.put, List.setIfInBounds_toArray, List.set_cons_zero, List.set_cons_succ]); exact rfl)
              refine Rg.tk (i := 30) rfl hp ?_
              refine ⟨?_, ?_, by kernel_rfl, by kernel_rfl, by kernel_rfl, Or.inl ⟨by rfl, ?_⟩, hH0, ?_, ?_⟩
              rotate_left 2
              · (intro w hSw; clear hSw; go_simp; try with_reducible rfl)
              · ((try simp only [Act.put, List.setIfInBounds_toArray, List.set_cons_zero, List.set_cons_succ]); exact rfl)
              refine Rg.one (i := 26) rfl ⟨by kernel_rfl, by rfl, fun K hK => ?_⟩
              go_simp
              refine (hBd.out _).mono ?_
              rintro e v0 ⟨rfl, hl0⟩
              refine hK.out _ _ ?_ (keepS.out _ _ hH0 hl0) ?_ (fun hH1 => ?_)
              rotate_left
              · ((try simp only [Act.put, List.setIfInBounds_toArray, List.set_cons_zero, List.set_cons_succ]); exact rfl)
              clear hK K hH0 hl0
              as_aux_lemma =>
                refine Rg.tk (i := 31) rfl hp ?_
                refine ⟨?_, ?_, by kernel_rfl, by kernel_rfl, by kernel_rfl, Or.inl ⟨by rfl, ?_⟩, hH1, ?_, ?_⟩
                rotate_left 2
                · (intro w hSw; clear hSw; go_simp; try with_reducible rfl)
                · ((try simp only [Act.put, List.setIfInBounds_toArray, List.set_cons_zero, List.set_cons_succ]); exact rfl)
                refine Rg.tk (i := 32) rfl hp ?_
                refine ⟨?_, ?_, by kernel_rfl, by kernel_rfl, by kernel_rfl, Or.inl ⟨by rfl, ?_⟩, hH1, ?_, ?_⟩
                rotate_left 2
                · (intro w hSw; clear hSw; go_simp; try with_reducible rfl)
                · ((try simp only [Act.put, List.setIfInBounds_toArray, List.set_cons_zero, List.set_cons_succ]); exact rfl)
                refine Rg.tk (i := 33) rfl hp ?_
                refine ⟨?_, ?_, by kernel_rfl, by kernel_rfl, by kernel_rfl, Or.inl ⟨by rfl, ?_⟩, hH1, ?_, ?_⟩
                rotate_left 2
                · (intro w hSw; clear hSw; go_simp; try with_reducible rfl)
                · ((try simp only [Act.put, List.setIfInBounds_toArray, List.set_cons_zero, List.set_cons_succ]); exact rfl)
                refine Rg.tk (i := 34) rfl hp ?_
                refine ⟨_, ?_, by kernel_rfl, by kernel_rfl, by kernel_rfl, yieldsIf_load_mid (by rfl) 24 _ rfl (w3.heap.size + 1) 0 rfl NL _ (fun w hSw => hSw.out.2.2.1) Try.underlying24 rfl hiN, hH1, ?_, ?_⟩
                rotate_left
                · ((try simp only [Act.put, List.setIfInBounds_toArray, List.set_cons_zero, List.set_cons_succ]); exact rfl)
                refine Rg.tk (i := 36) rfl hp ?_
                refine ⟨?_, ?_, by kernel_rfl, by kernel_rfl, by kernel_rfl, Or.inl ⟨by rfl, ?_⟩, hH1, ?_, ?_⟩
                rotate_left 2
                · (intro w hSw; clear hSw; go_simp; try with_reducible rfl)
                · ((try simp only [Act.put, List.setIfInBounds_toArray, List.set_cons_zero, List.set_cons_succ]); exact rfl)
                refine Rg.tk (i := 37) rfl hp ?_
                refine ⟨?_, ?_, by kernel_rfl, by kernel_rfl, by kernel_rfl, Or.inl ⟨by rfl, ?_⟩, hH1, ?_, ?_⟩
                rotate_left 2
                · (intro w hSw; have hc := hSw.out.2.2.2.2.1; clear hSw; go_simp; try with_reducible rfl)
                · ((try simp only [Act.put, List.setIfInBounds_toArray, List.set_cons_zero, List.set_cons_succ]); exact rfl)
                refine Rg.tk (i := 38) rfl hp ?_
                refine ⟨?_, ?_, by kernel_rfl, by kernel_rfl, by kernel_rfl, Or.inl ⟨by rfl, ?_⟩, hH1, ?_, ?_⟩
                rotate_left 2
                · (intro w hSw; clear hSw; go_simp; try with_reducible rfl)
                · ((try simp only [Act.put, List.setIfInBounds_toArray, List.set_cons_zero, List.set_cons_succ]); exact rfl)
                refine Rg.tk (i := 39) rfl hp ?_
                refine ⟨?_, ?_, by kernel_rfl, by kernel_rfl, by kernel_rfl, Or.inl ⟨by rfl, ?_⟩, hH1, ?_, ?_⟩
                rotate_left 2
                · (intro w hSw; have hc := hSw.out.2.2.2.2.2.2; clear hSw; go_simp; try with_reducible rfl)
                · ((try simp only [Act.put, List.setIfInBounds_toArray, List.set_cons_zero, List.set_cons_succ]); exact rfl)
                refine Rg.tk (i := 40) rfl hp ?_
                refine ⟨?_, ?_, by kernel_rfl, by kernel_rfl, by kernel_rfl, Or.inl ⟨by rfl, ?_⟩, hH1, ?_, ?_⟩
                rotate_left 2
                · (intro w hSw; clear hSw; go_simp; try with_reducible rfl)
                · ((try simp only [Act.put, List.setIfInBounds_toArray, List.set_cons_zero, List.set_cons_succ]); exact rfl)
                refine Rg.tk (i := 41) rfl hp ?_
                refine ⟨?_, ?_, by kernel_rfl, by kernel_rfl, by kernel_rfl, Or.inl ⟨by rfl, ?_⟩, hH1, ?_, ?_⟩
                rotate_left 2
                · (intro w hSw; clear hSw; go_simp; try with_reducible rfl)
                · ((try simp only [Act.put, List.setIfInBounds_toArray, List.set_cons_zero, List.set_cons_succ]); exact rfl)
                refine Rg.one (i := 35) rfl ⟨by kernel_rfl, by rfl, fun K hK => ?_⟩
                go_simp
                refine (hBn.out _).mono ?_
                rintro e v1 ⟨rfl, hl1⟩
                refine hK.out _ _ ?_ (keepS.out _ _ hH1 hl1) ?_ (fun hH2 => ?_)
                rotate_left
                · ((try simp only [Act.put, List.setIfInBounds_toArray, List.set_cons_zero, List.set_cons_succ]); exact rfl)
                clear hK K hH1 hl1
                refine Rg.tk (i := 42) rfl hp ?_
                refine ⟨?_, ?_, by kernel_rfl, by kernel_rfl, by kernel_rfl, Or.inl ⟨by rfl, ?_⟩, hH2, ?_, ?_⟩
                rotate_left 2
                · (intro w hSw; clear hSw; go_simp; try with_reducible rfl)
                · ((try simp only [Act.put, List.setIfInBounds_toArray, List.set_cons_zero, List.set_cons_succ]); exact rfl)
                refine Rg.tk (i := 43) rfl hp ?_
                refine ⟨?_, ?_, by kernel_rfl, by kernel_rfl, by kernel_rfl, Or.inl ⟨by rfl, ?_⟩, hH2, ?_, ?_⟩
                rotate_left 2
                · (intro w hSw; clear hSw; go_simp; try with_reducible rfl)
                · ((try simp only [Act.put, List.setIfInBounds_toArray, List.set_cons_zero, List.set_cons_succ]); exact rfl)
                refine Rg.tk (i := 44) rfl hp ?_
                refine ⟨?_, ?_, by kernel_rfl, by kernel_rfl, by kernel_rfl, Or.inl ⟨by rfl, ?_⟩, hH2, ?_, ?_⟩
                rotate_left 2
                · (intro w hSw; clear hSw; go_simp; try with_reducible rfl)
                · ((try simp only [Act.put, List.setIfInBounds_toArray, List.set_cons_zero, List.set_cons_succ]); exact rfl)
                refine Rg.tk (i := 45) rfl hp ?_
                refine ⟨?_, ?_, by kernel_rfl, by kernel_rfl, by kernel_rfl, Or.inl ⟨by rfl, ?_⟩, hH2, ?_, ?_⟩
                rotate_left 2
                · (intro w hSw; clear hSw; go_simp; try with_reducible rfl)
                · ((try simp only [Act.put, List.setIfInBounds_toArray, List.set_cons_zero, List.set_cons_succ]); exact rfl)
                refine Rg.tk (i := 46) rfl hp ?_
                refine ⟨_, ?_, by kernel_rfl, by kernel_rfl, by kernel_rfl, yieldsIf_load_mid (by rfl) 24 _ rfl (w3.heap.size + 1) 0 rfl NL _ (fun w hSw => hSw.out.2.2.1) Try.underlying24 rfl hiN, hH2, ?_, ?_⟩
                rotate_left
                · ((try simp only [Act.put, List.setIfInBounds_toArray, List.set_cons_zero, List.set_cons_succ]); exact rfl)
                refine Rg.tk (i := 49) rfl hp ?_
                refine ⟨?_, ?_, by kernel_rfl, by kernel_rfl, by kernel_rfl, Or.inl ⟨by rfl, ?_⟩, hH2, ?_, ?_⟩
                rotate_left 2
                · (intro w hSw; clear hSw; go_simp; try with_reducible rfl)
                · ((try simp only [Act.put, List.setIfInBounds_toArray, List.set_cons_zero, List.set_cons_succ]); exact rfl)
                refine Rg.one (i := 47) rfl ⟨by kernel_rfl, by rfl, fun K hK => ?_⟩
                go_simp
                refine (hBn.out _).mono ?_
                rintro e v2 ⟨rfl, hl2⟩
                refine hK.out _ _ ?_ (keepS.out _ _ hH2 hl2) ?_ (fun hH3 => ?_)
                rotate_left
                · ((try simp only [Act.put, List.setIfInBounds_toArray, List.set_cons_zero, List.set_cons_succ]); exact rfl)
                clear hK K hH2 hl2
                refine Rg.tk (i := 48) rfl hp ?_
                refine ⟨?_, ?_, by kernel_rfl, by kernel_rfl, by kernel_rfl, Or.inl ⟨by rfl, ?_⟩, hH3, ?_, ?_⟩
                rotate_left 2
                · (intro w hSw; clear hSw; go_simp; try with_reducible rfl)
                · ((try simp only [Act.put, List.setIfInBounds_toArray, List.set_cons_zero, List.set_cons_succ]); exact rfl)
                refine Rg.tk (i := 50) rfl hp ?_
                refine ⟨?_, ?_, by kernel_rfl, by kernel_rfl, by kernel_rfl, Or.inl ⟨by rfl, ?_⟩, hH3, ?_, ?_⟩
                rotate_left 2
                · (intro w hSw; clear hSw; go_simp; try with_reducible rfl)
                · ((try simp only [Act.put, List.setIfInBounds_toArray, List.set_cons_zero, List.set_cons_succ]); exact rfl)
                refine Rg.tk (i := 51) rfl hp ?_
                refine ⟨?_, ?_, by kernel_rfl, by kernel_rfl, by kernel_rfl, Or.inl ⟨by rfl, ?_⟩, hH3, ?_, ?_⟩
                rotate_left 2
                · (intro w hSw; clear hSw; go_simp; try with_reducible rfl)
                · ((try simp only [Act.put, List.setIfInBounds_toArray, List.set_cons_zero, List.set_cons_succ]); exact rfl)
                refine Rg.tk (i := 52) rfl hp ?_
                refine ⟨?_, ?_, by kernel_rfl, by kernel_rfl, by kernel_rfl, Or.inl ⟨by rfl, ?_⟩, hH3, ?_, ?_⟩
                rotate_left 2
                · (intro w hSw; clear hSw; go_simp; try with_reducible rfl)
                · ((try simp only [Act.put, List.setIfInBounds_toArray, List.set_cons_zero, List.set_cons_succ]); exact rfl)
                refine wpAnyH_done (by kernel_rfl) ?_ _
                refine hn.out _ _ ?_
                go_wp2_with fail
                go_ret
                exact ⟨ret_bool (by simp; try omega), hH3.out.1⟩
theorem bnd_val {F : Nat → Int} (c : Nat) (hc : c ≤ 3) (h5 : F 5 = c) (h6 : 0 ≤ F 6 ∧ F 6 ≤ 2199023255552) (h7 : 0 ≤ F 7 ∧ F 7 ≤ 1099511627776) (h13 : 0 ≤ F 13 ∧ F 13 ≤ 1099511627776) : bnd F = F 6 + F 13 + c * F 7 + 1 := by
  unfold bnd
  have hm : Sat.mx (F 5) 0 = c := by unfold Sat.mx; split <;> omega
  have hc4 : c = 0 ∨ c = 1 ∨ c = 2 ∨ c = 3 := by omega
  have hu : Sat.mul c (F 7) = c * F 7 := by
    unfold Sat.mul
    rcases hc4 with rfl | rfl | rfl | rfl <;> (split <;> omega)
  rw [hm, hu]
  rcases hc4 with rfl | rfl | rfl | rfl
  all_goals
    rw [Sat.sum_cap (by intro x hx; simp at hx; omega)]
    simp
    unfold Sat.cap
    split <;> omega
def plus (F : Nat → Int) (e : Int) : Nat → Int
  | 6 => F 6 + e | n => F n
def nochain (F : Nat → Int) : Nat → Int
  | 5 => 0 | n => F n
theorem confBound_walk {H : Type} {enc : TypeId × Value → H} (W : World) (a0_0 : Int) (a0_1 : Int) (a0_2 : Int) (a0_3 : Int) (a0_4 : Int) (a0_5 : Int) (a0_6 : Int) (a0_7 : Int) (a0_8 : Int) (a0_9 : Int) (a0_10 : Int) (a0_11 : Int) (a0_12 : Int) (a0_13 : Int) (a0_14 : Int) (a0_15 : Int) (w0_0 : (Lit.int .i64 a0_0).wf = true) (w0_1 : (Lit.int .i64 a0_1).wf = true) (w0_2 : (Lit.int .i64 a0_2).wf = true) (w0_3 : (Lit.int .i64 a0_3).wf = true) (w0_4 : (Lit.int .i64 a0_4).wf = true) (w0_5 : (Lit.int .i64 a0_5).wf = true) (w0_6 : (Lit.int .u64 a0_6).wf = true) (w0_7 : (Lit.int .u64 a0_7).wf = true) (w0_8 : (Lit.int .i64 a0_8).wf = true) (w0_9 : (Lit.int .i64 a0_9).wf = true) (w0_10 : (Lit.int .u64 a0_10).wf = true) (w0_11 : (Lit.int .i64 a0_11).wf = true) (w0_12 : (Lit.int .u64 a0_12).wf = true) (w0_13 : (Lit.int .u64 a0_13).wf = true) (w0_14 : (Lit.int .i64 a0_14).wf = true) (w0_15 : (Lit.int .i64 a0_15).wf = true) (a1 : Int) (w1 : (Lit.int .u32 a1).wf = true) :
    Calls Try.prog 7 #[.agg #[.int .i64 a0_0, .int .i64 a0_1, .int .i64 a0_2, .int .i64 a0_3, .int .i64 a0_4, .int .i64 a0_5, .int .u64 a0_6, .int .u64 a0_7, .int .i64 a0_8, .int .i64 a0_9, .int .u64 a0_10, .int .i64 a0_11, .int .u64 a0_12, .int .u64 a0_13, .int .i64 a0_14, .int .i64 a0_15], .int .u32 a1] W fun e w' => e = .returned (.bool true) ∧ Below W.heap.size W w' := by
  have hF : Ok (pick a0_0 a0_1 a0_2 a0_3 a0_4 a0_5 a0_6 a0_7 a0_8 a0_9 a0_10 a0_11 a0_12 a0_13 a0_14 a0_15) := ⟨i_of w0_0, i_of w0_1, i_of w0_2, i_of w0_3, i_of w0_4, i_of w0_5, u_of w0_6, u_of w0_7, i_of w0_8, i_of w0_9, u_of w0_10, i_of w0_11, u_of w0_12, u_of w0_13, i_of w0_14, i_of w0_15⟩
  have hT : Tail (pick a0_0 a0_1 a0_2 a0_3 a0_4 a0_5 a0_6 a0_7 a0_8 a0_9 a0_10 a0_11 a0_12 a0_13 a0_14 a0_15) := fun n => rfl
  have hw2 : 0 ≤ a1 ∧ a1 ≤ 4294967295 := by
    have h2 : IntKind.u32.min ≤ a1 ∧ a1 ≤ IntKind.u32.max := by simpa [Lit.wf] using w1
    have e1 : IntKind.u32.min = 0 := by decide
    have e2 : IntKind.u32.max = 4294967295 := by decide
    rw [e1, e2] at h2
    exact h2
  have hC := check_calls _ (in_put hF hT)
  have hB := bound_calls (pick a0_0 a0_1 a0_2 a0_3 a0_4 a0_5 a0_6 a0_7 a0_8 a0_9 a0_10 a0_11 a0_12 a0_13 a0_14 a0_15) (i_of w0_5) (u_of w0_6) (u_of w0_7) (u_of w0_13)
  rcases errno_or (pick a0_0 a0_1 a0_2 a0_3 a0_4 a0_5 a0_6 a0_7 a0_8 a0_9 a0_10 a0_11 a0_12 a0_13 a0_14 a0_15) with ⟨h, _⟩ | ⟨h, h2⟩
  · rw [h] at hC
    exact bnd_core (pick a0_0 a0_1 a0_2 a0_3 a0_4 a0_5 a0_6 a0_7 a0_8 a0_9 a0_10 a0_11 a0_12 a0_13 a0_14 a0_15) 0 _ _ _ 1 a1 _ W hw2.1 hw2.2 (hid rfl) (hid rfl) (hid hC) (hid hB) (.inl rfl)
  · rw [h] at hC
    have f5 : 0 ≤ a0_5 ∧ a0_5 ≤ 3 := fine_of h2 5 (by omega)
    have f6 : 1 ≤ wrap64 a0_6 ∧ wrap64 a0_6 ≤ 1099511627776 := fine_of h2 6 (by omega)
    have f7 : 1 ≤ wrap64 a0_7 ∧ wrap64 a0_7 ≤ 1099511627776 := fine_of h2 7 (by omega)
    have f13 : 0 ≤ wrap64 a0_13 ∧ wrap64 a0_13 ≤ 1099511627776 := fine_of h2 13 (by omega)
    have g6 := w64_of (u_of w0_6) (by omega) f6.1 f6.2 (by omega)
    have g7 := w64_of (u_of w0_7) (by omega) f7.1 f7.2 (by omega)
    have g13 := w64_of (u_of w0_13) (by omega) f13.1 f13.2 (by omega)
    obtain ⟨c, hc⟩ := Int.eq_ofNat_of_zero_le f5.1
    have v1 := bnd_val (F := pick a0_0 a0_1 a0_2 a0_3 a0_4 a0_5 a0_6 a0_7 a0_8 a0_9 a0_10 a0_11 a0_12 a0_13 a0_14 a0_15) c (by omega) hc ⟨by show 0 ≤ a0_6; omega, by show a0_6 ≤ _; omega⟩ ⟨by show 0 ≤ a0_7; omega, by show a0_7 ≤ _; omega⟩ ⟨by show 0 ≤ a0_13; omega, by show a0_13 ≤ _; omega⟩
    have v2 := bnd_val (F := plus (pick a0_0 a0_1 a0_2 a0_3 a0_4 a0_5 a0_6 a0_7 a0_8 a0_9 a0_10 a0_11 a0_12 a0_13 a0_14 a0_15) a1) c (by omega) hc ⟨by show 0 ≤ a0_6 + a1; omega, by show a0_6 + a1 ≤ _; omega⟩ ⟨by show 0 ≤ a0_7; omega, by show a0_7 ≤ _; omega⟩ ⟨by show 0 ≤ a0_13; omega, by show a0_13 ≤ _; omega⟩
    have v3 := bnd_val (F := nochain (pick a0_0 a0_1 a0_2 a0_3 a0_4 a0_5 a0_6 a0_7 a0_8 a0_9 a0_10 a0_11 a0_12 a0_13 a0_14 a0_15)) 0 (by omega) rfl ⟨by show 0 ≤ a0_6; omega, by show a0_6 ≤ _; omega⟩ ⟨by show 0 ≤ a0_7; omega, by show a0_7 ≤ _; omega⟩ ⟨by show 0 ≤ a0_13; omega, by show a0_13 ≤ _; omega⟩
    have hB2 := bound_calls (plus (pick a0_0 a0_1 a0_2 a0_3 a0_4 a0_5 a0_6 a0_7 a0_8 a0_9 a0_10 a0_11 a0_12 a0_13 a0_14 a0_15) a1) (i_of w0_5) ⟨by show 0 ≤ a0_6 + a1; omega, by show a0_6 + a1 ≤ _; omega⟩ (u_of w0_7) (u_of w0_13)
    have hB3 := bound_calls (nochain (pick a0_0 a0_1 a0_2 a0_3 a0_4 a0_5 a0_6 a0_7 a0_8 a0_9 a0_10 a0_11 a0_12 a0_13 a0_14 a0_15)) (by show I 0; omega) (u_of w0_6) (u_of w0_7) (u_of w0_13)
    rw [v1] at hB
    rw [v2, show plus (pick a0_0 a0_1 a0_2 a0_3 a0_4 a0_5 a0_6 a0_7 a0_8 a0_9 a0_10 a0_11 a0_12 a0_13 a0_14 a0_15) a1 6 + plus (pick a0_0 a0_1 a0_2 a0_3 a0_4 a0_5 a0_6 a0_7 a0_8 a0_9 a0_10 a0_11 a0_12 a0_13 a0_14 a0_15) a1 13 + c * plus (pick a0_0 a0_1 a0_2 a0_3 a0_4 a0_5 a0_6 a0_7 a0_8 a0_9 a0_10 a0_11 a0_12 a0_13 a0_14 a0_15) a1 7 + 1 = a0_6 + a0_13 + c * a0_7 + 1 + a1 from by show a0_6 + a1 + a0_13 + c * a0_7 + 1 = _; omega] at hB2
    rw [v3, show nochain (pick a0_0 a0_1 a0_2 a0_3 a0_4 a0_5 a0_6 a0_7 a0_8 a0_9 a0_10 a0_11 a0_12 a0_13 a0_14 a0_15) 6 + nochain (pick a0_0 a0_1 a0_2 a0_3 a0_4 a0_5 a0_6 a0_7 a0_8 a0_9 a0_10 a0_11 a0_12 a0_13 a0_14 a0_15) 13 + ((0 : Nat) : Int) * nochain (pick a0_0 a0_1 a0_2 a0_3 a0_4 a0_5 a0_6 a0_7 a0_8 a0_9 a0_10 a0_11 a0_12 a0_13 a0_14 a0_15) 7 + 1 = a0_6 + a0_13 + 1 from by show a0_6 + a0_13 + ((0 : Nat) : Int) * a0_7 + 1 = _; simp] at hB3
    exact bnd_core (pick a0_0 a0_1 a0_2 a0_3 a0_4 a0_5 a0_6 a0_7 a0_8 a0_9 a0_10 a0_11 a0_12 a0_13 a0_14 a0_15) c _ _ _ 0 a1 _ W hw2.1 hw2.2 (hid rfl) (hid rfl) (hid hC) (hid hB) (.inr ⟨rfl, ⟨by omega, hid hc⟩, g6, g7, g13, hid rfl, hid hB2, hid hB3⟩)
end Go.Proofs.Ytnednhdbghkcnaa.C08
