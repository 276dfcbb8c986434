/- The walk of the law HealthMore. -/
import Derived.Test.YtiplgihdgckbaaaC16T
namespace Go.Proofs.Ytiplgihdgckbaaa.C16
open Go.RowKit Go.Proofs.Ytiplgihdgckbaaa
set_option linter.unusedVariables false
set_option linter.unusedSimpArgs false
set_option linter.unnecessarySimpa false
attribute [local go_sem] C01.max2_mx C01.min2_mn C01.max_two C01.min_two
set_option maxRecDepth 20000 in
set_option maxHeartbeats 4000000 in
theorem more_core (a b c d e0 b' c' d' x q : Int) (o : Bool) (F : Nat → Int) (w : World) (AL BL FL : List Value) (hAL : Hid (AL = [.int .u64 a, .int .u64 b, .int .u64 c, .int .u64 d, .int .u64 e0])) (hBL : Hid (BL = [.int .u64 a, .int .u64 b', .int .u64 c', .int .u64 d', .int .u64 e0])) (hFL : Hid (FL = [.int .i64 (F 0), .int .i64 (F 1), .int .i64 (F 2), .int .i64 (F 3), .int .i64 (F 4), .int .i64 (F 5), .int .u64 (F 6), .int .u64 (F 7), .int .i64 (F 8), .int .i64 (F 9), .int .u64 (F 10), .int .i64 (F 11), .int .u64 (F 12), .int .u64 (F 13), .int .i64 (F 14), .int .i64 (F 15)])) (a0 : 0 ≤ a) (a1 : a ≤ 4294967295) (b0 : 0 ≤ b) (b1 : b ≤ 4294967295) (c0 : 0 ≤ c) (c1 : c ≤ 4294967295) (d0 : 0 ≤ d) (d1 : d ≤ 4294967295) (z0 : 0 ≤ e0) (z1 : e0 ≤ 4294967295) (q0 : 0 ≤ q) (q1 : q ≤ 255) (x0 : 0 ≤ x) (x1 : x ≤ 12884901885)
    (hk : q % 3 = 0 ∧ b + 1 = b' ∧ c = c' ∧ d = d' ∨ q % 3 = 1 ∧ b = b' ∧ c + 1 = c' ∧ d = d' ∨ q % 3 = 2 ∧ b = b' ∧ c = c' ∧ d + 1 = d')
    (hcase : o = false ∨ o = true ∧ 100 < F 9 ∨ o = true ∧ F 9 ≤ 100 ∧ Hid (∀ w, Calls Try.prog 16 #[.agg BL.toArray, .agg FL.toArray] w fun e w' => e = .returned (.bool true) ∧ Below w.heap.size w w'))
    (hO : Hid (∀ w, Calls Try.prog 16 #[.agg #[.int .u64 a, .int .u64 b, .int .u64 c, .int .u64 d, .int .u64 e0], .agg #[.int .i64 (F 0), .int .i64 (F 1), .int .i64 (F 2), .int .i64 (F 3), .int .i64 (F 4), .int .i64 (F 5), .int .u64 (F 6), .int .u64 (F 7), .int .i64 (F 8), .int .i64 (F 9), .int .u64 (F 10), .int .i64 (F 11), .int .u64 (F 12), .int .u64 (F 13), .int .i64 (F 14), .int .i64 (F 15)]] w fun e w' => e = .returned (.bool o) ∧ Below w.heap.size w w'))
    (hE : Hid (∀ w, Calls Try.prog 12 #[.agg AL.toArray] w fun e w' => e = .returned (.int .u64 x) ∧ Below w.heap.size w w'))
    (hEb : Hid (∀ w, Calls Try.prog 12 #[.agg BL.toArray] w fun e w' => e = .returned (.int .u64 (x + 1)) ∧ Below w.heap.size w w')) :
    Calls Try.prog 5 #[.agg #[.int .u32 a, .int .u32 b, .int .u32 c, .int .u32 d, .int .u32 e0], .agg #[.int .i64 (F 0), .int .i64 (F 1), .int .i64 (F 2), .int .i64 (F 3), .int .i64 (F 4), .int .i64 (F 5), .int .u64 (F 6), .int .u64 (F 7), .int .i64 (F 8), .int .i64 (F 9), .int .u64 (F 10), .int .i64 (F 11), .int .u64 (F 12), .int .u64 (F 13), .int .i64 (F 14), .int .i64 (F 15)], .int .u8 q] w fun e w' => e = .returned (.bool true) ∧ Below w.heap.size w w' := by
  have i5 : (Try.prog.info? 23).map (·.size) = some 5 := by kernel_rfl
  have i16 : (Try.prog.info? 25).map (·.size) = some 16 := by kernel_rfl
  have hiA : (Try.prog.info? 23).map (·.size) = some AL.length := by rw [i5, hAL.out]; rfl
  have hiB : (Try.prog.info? 23).map (·.size) = some BL.length := by rw [i5, hBL.out]; rfl
  have hiF : (Try.prog.info? 25).map (·.size) = some FL.length := by rw [i16, hFL.out]; rfl
  clear i5 i16
  have wa : IntKind.u64.wrap a = a := Sat.u64_in (by omega) (by omega)
  have wb : IntKind.u64.wrap b = b := Sat.u64_in (by omega) (by omega)
  have wc : IntKind.u64.wrap c = c := Sat.u64_in (by omega) (by omega)
  have wd : IntKind.u64.wrap d = d := Sat.u64_in (by omega) (by omega)
  have wx : IntKind.u64.wrap (x + 1) = x + 1 := Sat.u64_in (by omega) (by omega)
  have we : IntKind.u64.wrap e0 = e0 := Sat.u64_in (by omega) (by omega)
  rcases hk with ⟨hk, rfl, rfl, rfl⟩ | ⟨hk, rfl, rfl, rfl⟩ | ⟨hk, rfl, rfl, rfl⟩
  · as_aux_lemma =>
    go_enter Try.func5, Try.ntmps5
    go_wp2_with fail
    refine (awake_calls _).mono ?_
    rintro e w1 ⟨rfl, hl⟩
    have hb := hid (via (((Below.refl _ _).alloc (Nat.le_refl _) _).alloc (by simp) _) hl)
    have hc : w1.cell? ⟨w.heap.size, 0, none⟩ = some (.int .u32 a) ∧ w1.cell? ⟨w.heap.size, 1, none⟩ = some (.int .u32 b) ∧ w1.cell? ⟨w.heap.size, 2, none⟩ = some (.int .u32 c) ∧ w1.cell? ⟨w.heap.size, 3, none⟩ = some (.int .u32 d) ∧ w1.cell? ⟨w.heap.size, 4, none⟩ = some (.int .u32 e0) := by
      (repeat' apply And.intro) <;> exact cell_of hl (by simp [go_sem])
    have hf : w1.cell? ⟨w.heap.size + 1, 0, none⟩ = some (.int .i64 (F 0)) ∧ w1.cell? ⟨w.heap.size + 1, 1, none⟩ = some (.int .i64 (F 1)) ∧ w1.cell? ⟨w.heap.size + 1, 2, none⟩ = some (.int .i64 (F 2)) ∧ w1.cell? ⟨w.heap.size + 1, 3, none⟩ = some (.int .i64 (F 3)) ∧ w1.cell? ⟨w.heap.size + 1, 4, none⟩ = some (.int .i64 (F 4)) ∧ w1.cell? ⟨w.heap.size + 1, 5, none⟩ = some (.int .i64 (F 5)) ∧ w1.cell? ⟨w.heap.size + 1, 6, none⟩ = some (.int .u64 (F 6)) ∧ w1.cell? ⟨w.heap.size + 1, 7, none⟩ = some (.int .u64 (F 7)) ∧ w1.cell? ⟨w.heap.size + 1, 8, none⟩ = some (.int .i64 (F 8)) ∧ w1.cell? ⟨w.heap.size + 1, 9, none⟩ = some (.int .i64 (F 9)) ∧ w1.cell? ⟨w.heap.size + 1, 10, none⟩ = some (.int .u64 (F 10)) ∧ w1.cell? ⟨w.heap.size + 1, 11, none⟩ = some (.int .i64 (F 11)) ∧ w1.cell? ⟨w.heap.size + 1, 12, none⟩ = some (.int .u64 (F 12)) ∧ w1.cell? ⟨w.heap.size + 1, 13, none⟩ = some (.int .u64 (F 13)) ∧ w1.cell? ⟨w.heap.size + 1, 14, none⟩ = some (.int .i64 (F 14)) ∧ w1.cell? ⟨w.heap.size + 1, 15, none⟩ = some (.int .i64 (F 15)) := by
      (repeat' apply And.intro) <;> exact cell_of hl (by simp [go_sem])
    have RF : Hid (w1.rangeAt (w.heap.size + 1) 0 FL) := by
      rw [hFL.out]
      exact hid (range_below hl (range_new _ _ (by simp)))
    clear hl
    obtain ⟨k0, k1, k2, k3, k4⟩ := hc
    obtain ⟨f0, f1, f2, f3, f4, f5, f6, f7, f8, f9, f10, f11, f12, f13, f14, f15⟩ := hf
    have K9 := hid f9
    have k0 := fun o => cell_of (grow w1 o) k0
    have k1 := fun o => cell_of (grow w1 o) k1
    have k2 := fun o => cell_of (grow w1 o) k2
    have k3 := fun o => cell_of (grow w1 o) k3
    have k4 := fun o => cell_of (grow w1 o) k4
    have f0 := fun o o2 => cell_of (grow2 w1 o o2) f0
    have f1 := fun o o2 => cell_of (grow2 w1 o o2) f1
    have f2 := fun o o2 => cell_of (grow2 w1 o o2) f2
    have f3 := fun o o2 => cell_of (grow2 w1 o o2) f3
    have f4 := fun o o2 => cell_of (grow2 w1 o o2) f4
    have f5 := fun o o2 => cell_of (grow2 w1 o o2) f5
    have f6 := fun o o2 => cell_of (grow2 w1 o o2) f6
    have f7 := fun o o2 => cell_of (grow2 w1 o o2) f7
    have f8 := fun o o2 => cell_of (grow2 w1 o o2) f8
    have f9 := fun o o2 => cell_of (grow2 w1 o o2) f9
    have f10 := fun o o2 => cell_of (grow2 w1 o o2) f10
    have f11 := fun o o2 => cell_of (grow2 w1 o o2) f11
    have f12 := fun o o2 => cell_of (grow2 w1 o o2) f12
    have f13 := fun o o2 => cell_of (grow2 w1 o o2) f13
    have f14 := fun o o2 => cell_of (grow2 w1 o o2) f14
    have f15 := fun o o2 => cell_of (grow2 w1 o o2) f15
    go_wp2_with fail
    refine wp_loop_rounds 6 ?_
    iterate 6 (rw [rounds_succ]; go_wp2_with fail)
    refine (hO.out _).mono ?_
    rintro e w2 ⟨rfl, hl⟩
    have hS1 : Below w.heap.size w w2 ∧ w2.rangeAt w1.heap.size 0 AL ∧ w2.rangeAt (w.heap.size + 1) 0 FL ∧ w2.rangeAt (w1.heap.size + 1) 0 BL := by
      refine ⟨via ((hb.out.alloc hb.out.size _).alloc (by have := hb.out.size; simp; omega) _) hl, ?_, range_below hl (range_below (grow2 _ _ _) RF.out), ?_⟩
      · rw [hAL.out]
        exact range_below hl (range_below (grow _ _) (range_new _ _ rfl))
      · rw [hBL.out]
        exact range_below hl (range_new _ _ (by simp))
    clear k0 k1 k2 k3 k4 f0 f1 f2 f3 f4 f5 f6 f7 f8 f9 f10 f11 f12 f13 f14 f15
    have f9 := cell_of hl (cell_of (grow2 _ _ _) K9.out)
    clear hl
    rcases hcase with rfl | ⟨rfl, hP⟩ | ⟨rfl, hP, hOb⟩
    · go_wp2_with fail
      go_ret
      exact ⟨rfl, hS1.1⟩
    · go_wp2_with fail
      go_ret
      exact ⟨rfl, hS1.1⟩
    · have keepS := hid (fun (w2 w3 : World) (hS : Below w.heap.size w w2 ∧ w2.rangeAt w1.heap.size 0 AL ∧ w2.rangeAt (w.heap.size + 1) 0 FL ∧ w2.rangeAt (w1.heap.size + 1) 0 BL) (hl : Below w2.heap.size w2 w3) =>
        (show Below w.heap.size w w3 ∧ w3.rangeAt w1.heap.size 0 AL ∧ w3.rangeAt (w.heap.size + 1) 0 FL ∧ w3.rangeAt (w1.heap.size + 1) 0 BL from ⟨via hS.1 hl, range_below hl hS.2.1, range_below hl hS.2.2.1, range_below hl hS.2.2.2⟩))
      go_wp2_with fail
      clear f9
      refine wp_region_held_drew (S := fun w' => Below w.heap.size w w' ∧ w'.rangeAt w1.heap.size 0 AL ∧ w'.rangeAt (w.heap.size + 1) 0 FL ∧ w'.rangeAt (w1.heap.size + 1) 0 BL) (by kernel_rfl) ?_ (fun hH0 => ?_)
      · exact keepS.out _ _ hS1 (quiet _)
      refine Reg.tk (i := 0) (oi := ?_) ?_ ?_
      rotate_left
      · (simp only [List.getElem?_toArray, List.getElem?_cons_succ, List.getElem?_cons_zero]; exact rfl)
      refine ⟨?_, by kernel_rfl, by kernel_rfl, by kernel_rfl, fun _ _ _ h => h, Or.inl ⟨by rfl, ?_⟩, hH0, ?_⟩
      rotate_left
      · (intro w hSw; clear hSw; go_simp; try with_reducible rfl)
      try simp only [Act.put, List.setIfInBounds_toArray, List.set_cons_zero, List.set_cons_succ]
      refine Reg.tk (i := 1) (oi := ?_) ?_ ?_
      rotate_left
      · (simp only [List.getElem?_toArray, List.getElem?_cons_succ, List.getElem?_cons_zero]; exact rfl)
      refine ⟨?_, by kernel_rfl, by kernel_rfl, by kernel_rfl, fun _ _ _ h => h, Or.inl ⟨by rfl, ?_⟩, hH0, ?_⟩
      rotate_left
      · (intro w hSw; clear hSw; go_simp; try with_reducible rfl)
      try simp only [Act.put, List.setIfInBounds_toArray, List.set_cons_zero, List.set_cons_succ]
      refine Reg.tk (i := 2) (oi := ?_) ?_ ?_
      rotate_left
      · (simp only [List.getElem?_toArray, List.getElem?_cons_succ, List.getElem?_cons_zero]; exact rfl)
      refine ⟨_, by kernel_rfl, by kernel_rfl, by kernel_rfl, fun _ _ _ h => h, yieldsIf_load_mid (by rfl) 23 _ rfl (w1.heap.size + 1) 0 rfl BL _ (fun w hSw => hSw.2.2.2) Try.underlying23 rfl hiB, hH0, ?_⟩
      try simp only [Act.put, List.setIfInBounds_toArray, List.set_cons_zero, List.set_cons_succ]
      refine Reg.tk (i := 3) (oi := ?_) ?_ ?_
      rotate_left
      · (simp only [List.getElem?_toArray, List.getElem?_cons_succ, List.getElem?_cons_zero]; exact rfl)
      refine ⟨_, by kernel_rfl, by kernel_rfl, by kernel_rfl, fun _ _ _ h => h, yieldsIf_load_mid (by rfl) 25 _ rfl (w.heap.size + 1) 0 rfl FL _ (fun w hSw => hSw.2.2.1) Try.underlying25 rfl hiF, hH0, ?_⟩
      try simp only [Act.put, List.setIfInBounds_toArray, List.set_cons_zero, List.set_cons_succ]
      refine Reg.one (i := 4) (oi := ?_) ?_ ?_
      rotate_left
      · (simp only [List.getElem?_toArray, List.getElem?_cons_succ, List.getElem?_cons_zero]; exact rfl)
      refine ⟨by kernel_rfl, fun K hK => ?_⟩
      go_simp
      refine (hOb.out _).mono ?_
      rintro e v0 ⟨rfl, hl0⟩
      refine hK.out _ _ (keepS.out _ _ hH0 hl0) (fun hH1 => ?_)
      clear hK K hH0 hl0
      try simp only [Act.put, List.setIfInBounds_toArray, List.set_cons_zero, List.set_cons_succ]
      refine Reg.tk (i := 5) (oi := ?_) ?_ ?_
      rotate_left
      · (simp only [List.getElem?_toArray, List.getElem?_cons_succ, List.getElem?_cons_zero]; exact rfl)
      refine ⟨?_, by kernel_rfl, by kernel_rfl, by kernel_rfl, fun _ _ _ h => h, Or.inl ⟨by rfl, ?_⟩, hH1, ?_⟩
      rotate_left
      · (intro w hSw; clear hSw; go_simp; try with_reducible rfl)
      try simp only [Act.put, List.setIfInBounds_toArray, List.set_cons_zero, List.set_cons_succ]
      refine Reg.tk (i := 6) (oi := ?_) ?_ ?_
      rotate_left
      · (simp only [List.getElem?_toArray, List.getElem?_cons_succ, List.getElem?_cons_zero]; exact rfl)
      refine ⟨?_, by kernel_rfl, by kernel_rfl, by kernel_rfl, fun _ _ _ h => h, Or.inl ⟨by rfl, ?_⟩, hH1, ?_⟩
      rotate_left
      · (intro w hSw; clear hSw; go_simp; try with_reducible rfl)
      try simp only [Act.put, List.setIfInBounds_toArray, List.set_cons_zero, List.set_cons_succ]
      refine Reg.tk (i := 7) (oi := ?_) ?_ ?_
      rotate_left
      · (simp only [List.getElem?_toArray, List.getElem?_cons_succ, List.getElem?_cons_zero]; exact rfl)
      refine ⟨_, by kernel_rfl, by kernel_rfl, by kernel_rfl, fun _ _ _ h => h, yieldsIf_load_mid (by rfl) 23 _ rfl (w1.heap.size + 1) 0 rfl BL _ (fun w hSw => hSw.2.2.2) Try.underlying23 rfl hiB, hH1, ?_⟩
      try simp only [Act.put, List.setIfInBounds_toArray, List.set_cons_zero, List.set_cons_succ]
      refine Reg.tk (i := 9) (oi := ?_) ?_ ?_
      rotate_left
      · (simp only [List.getElem?_toArray, List.getElem?_cons_succ, List.getElem?_cons_zero]; exact rfl)
      refine ⟨_, by kernel_rfl, by kernel_rfl, by kernel_rfl, fun _ _ _ h => h, yieldsIf_load_mid (by rfl) 23 _ rfl w1.heap.size 0 rfl AL _ (fun w hSw => hSw.2.1) Try.underlying23 rfl hiA, hH1, ?_⟩
      try simp only [Act.put, List.setIfInBounds_toArray, List.set_cons_zero, List.set_cons_succ]
      refine Reg.one (i := 8) (oi := ?_) ?_ ?_
      rotate_left
      · (simp only [List.getElem?_toArray, List.getElem?_cons_succ, List.getElem?_cons_zero]; exact rfl)
      refine ⟨by kernel_rfl, fun K hK => ?_⟩
      go_simp
      refine (hEb.out _).mono ?_
      rintro e v1 ⟨rfl, hl1⟩
      refine hK.out _ _ (keepS.out _ _ hH1 hl1) (fun hH2 => ?_)
      clear hK K hH1 hl1
      try simp only [Act.put, List.setIfInBounds_toArray, List.set_cons_zero, List.set_cons_succ]
      refine Reg.one (i := 10) (oi := ?_) ?_ ?_
      rotate_left
      · (simp only [List.getElem?_toArray, List.getElem?_cons_succ, List.getElem?_cons_zero]; exact rfl)
      refine ⟨by kernel_rfl, fun K hK => ?_⟩
      go_simp
      refine (hE.out _).mono ?_
      rintro e v2 ⟨rfl, hl2⟩
      refine hK.out _ _ (keepS.out _ _ hH2 hl2) (fun hH3 => ?_)
      clear hK K hH2 hl2
      try simp only [Act.put, List.setIfInBounds_toArray, List.set_cons_zero, List.set_cons_succ]
      refine Reg.tk (i := 11) (oi := ?_) ?_ ?_
      rotate_left
      · (simp only [List.getElem?_toArray, List.getElem?_cons_succ, List.getElem?_cons_zero]; exact rfl)
      refine ⟨?_, by kernel_rfl, by kernel_rfl, by kernel_rfl, fun _ _ _ h => h, Or.inl ⟨by rfl, ?_⟩, hH3, ?_⟩
      rotate_left
      · (intro w hSw; clear hSw; go_simp; try with_reducible rfl)
      try simp only [Act.put, List.setIfInBounds_toArray, List.set_cons_zero, List.set_cons_succ]
      refine Reg.tk (i := 12) (oi := ?_) ?_ ?_
      rotate_left
      · (simp only [List.getElem?_toArray, List.getElem?_cons_succ, List.getElem?_cons_zero]; exact rfl)
      refine ⟨?_, by kernel_rfl, by kernel_rfl, by kernel_rfl, fun _ _ _ h => h, Or.inl ⟨by rfl, ?_⟩, hH3, ?_⟩
      rotate_left
      · (intro w hSw; clear hSw; go_simp; try with_reducible rfl)
      try simp only [Act.put, List.setIfInBounds_toArray, List.set_cons_zero, List.set_cons_succ]
      refine Reg.tk (i := 13) (oi := ?_) ?_ ?_
      rotate_left
      · (simp only [List.getElem?_toArray, List.getElem?_cons_succ, List.getElem?_cons_zero]; exact rfl)
      refine ⟨?_, by kernel_rfl, by kernel_rfl, by kernel_rfl, fun _ _ _ h => h, Or.inl ⟨by rfl, ?_⟩, hH3, ?_⟩
      rotate_left
      · (intro w hSw; clear hSw; go_simp; try with_reducible rfl)
      try simp only [Act.put, List.setIfInBounds_toArray, List.set_cons_zero, List.set_cons_succ]
      refine Reg.tk (i := 14) (oi := ?_) ?_ ?_
      rotate_left
      · (simp only [List.getElem?_toArray, List.getElem?_cons_succ, List.getElem?_cons_zero]; exact rfl)
      refine ⟨?_, by kernel_rfl, by kernel_rfl, by kernel_rfl, fun _ _ _ h => h, Or.inl ⟨by rfl, ?_⟩, hH3, ?_⟩
      rotate_left
      · (intro w hSw; clear hSw; go_simp; try with_reducible rfl)
      try simp only [Act.put, List.setIfInBounds_toArray, List.set_cons_zero, List.set_cons_succ]
      refine wpAnyH_done (by kernel_rfl) ?_ _
      go_wp2_with fail
      go_ret
      exact ⟨ret_bool (by simp), hH3.1⟩
  · as_aux_lemma =>
    go_enter Try.func5, Try.ntmps5
    go_wp2_with fail
    refine (awake_calls _).mono ?_
    rintro e w1 ⟨rfl, hl⟩
    have hb := hid (via (((Below.refl _ _).alloc (Nat.le_refl _) _).alloc (by simp) _) hl)
    have hc : w1.cell? ⟨w.heap.size, 0, none⟩ = some (.int .u32 a) ∧ w1.cell? ⟨w.heap.size, 1, none⟩ = some (.int .u32 b) ∧ w1.cell? ⟨w.heap.size, 2, none⟩ = some (.int .u32 c) ∧ w1.cell? ⟨w.heap.size, 3, none⟩ = some (.int .u32 d) ∧ w1.cell? ⟨w.heap.size, 4, none⟩ = some (.int .u32 e0) := by
      (repeat' apply And.intro) <;> exact cell_of hl (by simp [go_sem])
    have hf : w1.cell? ⟨w.heap.size + 1, 0, none⟩ = some (.int .i64 (F 0)) ∧ w1.cell? ⟨w.heap.size + 1, 1, none⟩ = some (.int .i64 (F 1)) ∧ w1.cell? ⟨w.heap.size + 1, 2, none⟩ = some (.int .i64 (F 2)) ∧ w1.cell? ⟨w.heap.size + 1, 3, none⟩ = some (.int .i64 (F 3)) ∧ w1.cell? ⟨w.heap.size + 1, 4, none⟩ = some (.int .i64 (F 4)) ∧ w1.cell? ⟨w.heap.size + 1, 5, none⟩ = some (.int .i64 (F 5)) ∧ w1.cell? ⟨w.heap.size + 1, 6, none⟩ = some (.int .u64 (F 6)) ∧ w1.cell? ⟨w.heap.size + 1, 7, none⟩ = some (.int .u64 (F 7)) ∧ w1.cell? ⟨w.heap.size + 1, 8, none⟩ = some (.int .i64 (F 8)) ∧ w1.cell? ⟨w.heap.size + 1, 9, none⟩ = some (.int .i64 (F 9)) ∧ w1.cell? ⟨w.heap.size + 1, 10, none⟩ = some (.int .u64 (F 10)) ∧ w1.cell? ⟨w.heap.size + 1, 11, none⟩ = some (.int .i64 (F 11)) ∧ w1.cell? ⟨w.heap.size + 1, 12, none⟩ = some (.int .u64 (F 12)) ∧ w1.cell? ⟨w.heap.size + 1, 13, none⟩ = some (.int .u64 (F 13)) ∧ w1.cell? ⟨w.heap.size + 1, 14, none⟩ = some (.int .i64 (F 14)) ∧ w1.cell? ⟨w.heap.size + 1, 15, none⟩ = some (.int .i64 (F 15)) := by
      (repeat' apply And.intro) <;> exact cell_of hl (by simp [go_sem])
    have RF : Hid (w1.rangeAt (w.heap.size + 1) 0 FL) := by
      rw [hFL.out]
      exact hid (range_below hl (range_new _ _ (by simp)))
    clear hl
    obtain ⟨k0, k1, k2, k3, k4⟩ := hc
    obtain ⟨f0, f1, f2, f3, f4, f5, f6, f7, f8, f9, f10, f11, f12, f13, f14, f15⟩ := hf
    have K9 := hid f9
    have k0 := fun o => cell_of (grow w1 o) k0
    have k1 := fun o => cell_of (grow w1 o) k1
    have k2 := fun o => cell_of (grow w1 o) k2
    have k3 := fun o => cell_of (grow w1 o) k3
    have k4 := fun o => cell_of (grow w1 o) k4
    have f0 := fun o o2 => cell_of (grow2 w1 o o2) f0
    have f1 := fun o o2 => cell_of (grow2 w1 o o2) f1
    have f2 := fun o o2 => cell_of (grow2 w1 o o2) f2
    have f3 := fun o o2 => cell_of (grow2 w1 o o2) f3
    have f4 := fun o o2 => cell_of (grow2 w1 o o2) f4
    have f5 := fun o o2 => cell_of (grow2 w1 o o2) f5
    have f6 := fun o o2 => cell_of (grow2 w1 o o2) f6
    have f7 := fun o o2 => cell_of (grow2 w1 o o2) f7
    have f8 := fun o o2 => cell_of (grow2 w1 o o2) f8
    have f9 := fun o o2 => cell_of (grow2 w1 o o2) f9
    have f10 := fun o o2 => cell_of (grow2 w1 o o2) f10
    have f11 := fun o o2 => cell_of (grow2 w1 o o2) f11
    have f12 := fun o o2 => cell_of (grow2 w1 o o2) f12
    have f13 := fun o o2 => cell_of (grow2 w1 o o2) f13
    have f14 := fun o o2 => cell_of (grow2 w1 o o2) f14
    have f15 := fun o o2 => cell_of (grow2 w1 o o2) f15
    go_wp2_with fail
    refine wp_loop_rounds 6 ?_
    iterate 6 (rw [rounds_succ]; go_wp2_with fail)
    refine (hO.out _).mono ?_
    rintro e w2 ⟨rfl, hl⟩
    have hS1 : Below w.heap.size w w2 ∧ w2.rangeAt w1.heap.size 0 AL ∧ w2.rangeAt (w.heap.size + 1) 0 FL ∧ w2.rangeAt (w1.heap.size + 1) 0 BL := by
      refine ⟨via ((hb.out.alloc hb.out.size _).alloc (by have := hb.out.size; simp; omega) _) hl, ?_, range_below hl (range_below (grow2 _ _ _) RF.out), ?_⟩
      · rw [hAL.out]
        exact range_below hl (range_below (grow _ _) (range_new _ _ rfl))
      · rw [hBL.out]
        exact range_below hl (range_new _ _ (by simp))
    clear k0 k1 k2 k3 k4 f0 f1 f2 f3 f4 f5 f6 f7 f8 f9 f10 f11 f12 f13 f14 f15
    have f9 := cell_of hl (cell_of (grow2 _ _ _) K9.out)
    clear hl
    rcases hcase with rfl | ⟨rfl, hP⟩ | ⟨rfl, hP, hOb⟩
    · go_wp2_with fail
      go_ret
      exact ⟨rfl, hS1.1⟩
    · go_wp2_with fail
      go_ret
      exact ⟨rfl, hS1.1⟩
    · have keepS := hid (fun (w2 w3 : World) (hS : Below w.heap.size w w2 ∧ w2.rangeAt w1.heap.size 0 AL ∧ w2.rangeAt (w.heap.size + 1) 0 FL ∧ w2.rangeAt (w1.heap.size + 1) 0 BL) (hl : Below w2.heap.size w2 w3) =>
        (show Below w.heap.size w w3 ∧ w3.rangeAt w1.heap.size 0 AL ∧ w3.rangeAt (w.heap.size + 1) 0 FL ∧ w3.rangeAt (w1.heap.size + 1) 0 BL from ⟨via hS.1 hl, range_below hl hS.2.1, range_below hl hS.2.2.1, range_below hl hS.2.2.2⟩))
      go_wp2_with fail
      clear f9
      refine wp_region_held_drew (S := fun w' => Below w.heap.size w w' ∧ w'.rangeAt w1.heap.size 0 AL ∧ w'.rangeAt (w.heap.size + 1) 0 FL ∧ w'.rangeAt (w1.heap.size + 1) 0 BL) (by kernel_rfl) ?_ (fun hH0 => ?_)
      · exact keepS.out _ _ hS1 (quiet _)
      refine Reg.tk (i := 0) (oi := ?_) ?_ ?_
      rotate_left
      · (simp only [List.getElem?_toArray, List.getElem?_cons_succ, List.getElem?_cons_zero]; exact rfl)
      refine ⟨?_, by kernel_rfl, by kernel_rfl, by kernel_rfl, fun _ _ _ h => h, Or.inl ⟨by rfl, ?_⟩, hH0, ?_⟩
      rotate_left
      · (intro w hSw; clear hSw; go_simp; try with_reducible rfl)
      try simp only [Act.put, List.setIfInBounds_toArray, List.set_cons_zero, List.set_cons_succ]
      refine Reg.tk (i := 1) (oi := ?_) ?_ ?_
      rotate_left
      · (simp only [List.getElem?_toArray, List.getElem?_cons_succ, List.getElem?_cons_zero]; exact rfl)
      refine ⟨?_, by kernel_rfl, by kernel_rfl, by kernel_rfl, fun _ _ _ h => h, Or.inl ⟨by rfl, ?_⟩, hH0, ?_⟩
      rotate_left
      · (intro w hSw; clear hSw; go_simp; try with_reducible rfl)
      try simp only [Act.put, List.setIfInBounds_toArray, List.set_cons_zero, List.set_cons_succ]
      refine Reg.tk (i := 2) (oi := ?_) ?_ ?_
      rotate_left
      · (simp only [List.getElem?_toArray, List.getElem?_cons_succ, List.getElem?_cons_zero]; exact rfl)
      refine ⟨_, by kernel_rfl, by kernel_rfl, by kernel_rfl, fun _ _ _ h => h, yieldsIf_load_mid (by rfl) 23 _ rfl (w1.heap.size + 1) 0 rfl BL _ (fun w hSw => hSw.2.2.2) Try.underlying23 rfl hiB, hH0, ?_⟩
      try simp only [Act.put, List.setIfInBounds_toArray, List.set_cons_zero, List.set_cons_succ]
      refine Reg.tk (i := 3) (oi := ?_) ?_ ?_
      rotate_left
      · (simp only [List.getElem?_toArray, List.getElem?_cons_succ, List.getElem?_cons_zero]; exact rfl)
      refine ⟨_, by kernel_rfl, by kernel_rfl, by kernel_rfl, fun _ _ _ h => h, yieldsIf_load_mid (by rfl) 25 _ rfl (w.heap.size + 1) 0 rfl FL _ (fun w hSw => hSw.2.2.1) Try.underlying25 rfl hiF, hH0, ?_⟩
      try simp only [Act.put, List.setIfInBounds_toArray, List.set_cons_zero, List.set_cons_succ]
      refine Reg.one (i := 4) (oi := ?_) ?_ ?_
      rotate_left
      · (simp only [List.getElem?_toArray, List.getElem?_cons_succ, List.getElem?_cons_zero]; exact rfl)
      refine ⟨by kernel_rfl, fun K hK => ?_⟩
      go_simp
      refine (hOb.out _).mono ?_
      rintro e v0 ⟨rfl, hl0⟩
      refine hK.out _ _ (keepS.out _ _ hH0 hl0) (fun hH1 => ?_)
      clear hK K hH0 hl0
      try simp only [Act.put, List.setIfInBounds_toArray, List.set_cons_zero, List.set_cons_succ]
      refine Reg.tk (i := 5) (oi := ?_) ?_ ?_
      rotate_left
      · (simp only [List.getElem?_toArray, List.getElem?_cons_succ, List.getElem?_cons_zero]; exact rfl)
      refine ⟨?_, by kernel_rfl, by kernel_rfl, by kernel_rfl, fun _ _ _ h => h, Or.inl ⟨by rfl, ?_⟩, hH1, ?_⟩
      rotate_left
      · (intro w hSw; clear hSw; go_simp; try with_reducible rfl)
      try simp only [Act.put, List.setIfInBounds_toArray, List.set_cons_zero, List.set_cons_succ]
      refine Reg.tk (i := 6) (oi := ?_) ?_ ?_
      rotate_left
      · (simp only [List.getElem?_toArray, List.getElem?_cons_succ, List.getElem?_cons_zero]; exact rfl)
      refine ⟨?_, by kernel_rfl, by kernel_rfl, by kernel_rfl, fun _ _ _ h => h, Or.inl ⟨by rfl, ?_⟩, hH1, ?_⟩
      rotate_left
      · (intro w hSw; clear hSw; go_simp; try with_reducible rfl)
      try simp only [Act.put, List.setIfInBounds_toArray, List.set_cons_zero, List.set_cons_succ]
      refine Reg.tk (i := 7) (oi := ?_) ?_ ?_
      rotate_left
      · (simp only [List.getElem?_toArray, List.getElem?_cons_succ, List.getElem?_cons_zero]; exact rfl)
      refine ⟨_, by kernel_rfl, by kernel_rfl, by kernel_rfl, fun _ _ _ h => h, yieldsIf_load_mid (by rfl) 23 _ rfl (w1.heap.size + 1) 0 rfl BL _ (fun w hSw => hSw.2.2.2) Try.underlying23 rfl hiB, hH1, ?_⟩
      try simp only [Act.put, List.setIfInBounds_toArray, List.set_cons_zero, List.set_cons_succ]
      refine Reg.tk (i := 9) (oi := ?_) ?_ ?_
      rotate_left
      · (simp only [List.getElem?_toArray, List.getElem?_cons_succ, List.getElem?_cons_zero]; exact rfl)
      refine ⟨_, by kernel_rfl, by kernel_rfl, by kernel_rfl, fun _ _ _ h => h, yieldsIf_load_mid (by rfl) 23 _ rfl w1.heap.size 0 rfl AL _ (fun w hSw => hSw.2.1) Try.underlying23 rfl hiA, hH1, ?_⟩
      try simp only [Act.put, List.setIfInBounds_toArray, List.set_cons_zero, List.set_cons_succ]
      refine Reg.one (i := 8) (oi := ?_) ?_ ?_
      rotate_left
      · (simp only [List.getElem?_toArray, List.getElem?_cons_succ, List.getElem?_cons_zero]; exact rfl)
      refine ⟨by kernel_rfl, fun K hK => ?_⟩
      go_simp
      refine (hEb.out _).mono ?_
      rintro e v1 ⟨rfl, hl1⟩
      refine hK.out _ _ (keepS.out _ _ hH1 hl1) (fun hH2 => ?_)
      clear hK K hH1 hl1
      try simp only [Act.put, List.setIfInBounds_toArray, List.set_cons_zero, List.set_cons_succ]
      refine Reg.one (i := 10) (oi := ?_) ?_ ?_
      rotate_left
      · (simp only [List.getElem?_toArray, List.getElem?_cons_succ, List.getElem?_cons_zero]; exact rfl)
      refine ⟨by kernel_rfl, fun K hK => ?_⟩
      go_simp
      refine (hE.out _).mono ?_
      rintro e v2 ⟨rfl, hl2⟩
      refine hK.out _ _ (keepS.out _ _ hH2 hl2) (fun hH3 => ?_)
      clear hK K hH2 hl2
      try simp only [Act.put, List.setIfInBounds_toArray, List.set_cons_zero, List.set_cons_succ]
      refine Reg.tk (i := 11) (oi := ?_) ?_ ?_
      rotate_left
      · (simp only [List.getElem?_toArray, List.getElem?_cons_succ, List.getElem?_cons_zero]; exact rfl)
      refine ⟨?_, by kernel_rfl, by kernel_rfl, by kernel_rfl, fun _ _ _ h => h, Or.inl ⟨by rfl, ?_⟩, hH3, ?_⟩
      rotate_left
      · (intro w hSw; clear hSw; go_simp; try with_reducible rfl)
      try simp only [Act.put, List.setIfInBounds_toArray, List.set_cons_zero, List.set_cons_succ]
      refine Reg.tk (i := 12) (oi := ?_) ?_ ?_
      rotate_left
      · (simp only [List.getElem?_toArray, List.getElem?_cons_succ, List.getElem?_cons_zero]; exact rfl)
      refine ⟨?_, by kernel_rfl, by kernel_rfl, by kernel_rfl, fun _ _ _ h => h, Or.inl ⟨by rfl, ?_⟩, hH3, ?_⟩
      rotate_left
      · (intro w hSw; clear hSw; go_simp; try with_reducible rfl)
      try simp only [Act.put, List.setIfInBounds_toArray, List.set_cons_zero, List.set_cons_succ]
      refine Reg.tk (i := 13) (oi := ?_) ?_ ?_
      rotate_left
      · (simp only [List.getElem?_toArray, List.getElem?_cons_succ, List.getElem?_cons_zero]; exact rfl)
      refine ⟨?_, by kernel_rfl, by kernel_rfl, by kernel_rfl, fun _ _ _ h => h, Or.inl ⟨by rfl, ?_⟩, hH3, ?_⟩
      rotate_left
      · (intro w hSw; clear hSw; go_simp; try with_reducible rfl)
      try simp only [Act.put, List.setIfInBounds_toArray, List.set_cons_zero, List.set_cons_succ]
      refine Reg.tk (i := 14) (oi := ?_) ?_ ?_
      rotate_left
      · (simp only [List.getElem?_toArray, List.getElem?_cons_succ, List.getElem?_cons_zero]; exact rfl)
      refine ⟨?_, by kernel_rfl, by kernel_rfl, by kernel_rfl, fun _ _ _ h => h, Or.inl ⟨by rfl, ?_⟩, hH3, ?_⟩
      rotate_left
      · (intro w hSw; clear hSw; go_simp; try with_reducible rfl)
      try simp only [Act.put, List.setIfInBounds_toArray, List.set_cons_zero, List.set_cons_succ]
      refine wpAnyH_done (by kernel_rfl) ?_ _
      go_wp2_with fail
      go_ret
      exact ⟨ret_bool (by simp), hH3.1⟩
  · as_aux_lemma =>
    go_enter Try.func5, Try.ntmps5
    go_wp2_with fail
    refine (awake_calls _).mono ?_
    rintro e w1 ⟨rfl, hl⟩
    have hb := hid (via (((Below.refl _ _).alloc (Nat.le_refl _) _).alloc (by simp) _) hl)
    have hc : w1.cell? ⟨w.heap.size, 0, none⟩ = some (.int .u32 a) ∧ w1.cell? ⟨w.heap.size, 1, none⟩ = some (.int .u32 b) ∧ w1.cell? ⟨w.heap.size, 2, none⟩ = some (.int .u32 c) ∧ w1.cell? ⟨w.heap.size, 3, none⟩ = some (.int .u32 d) ∧ w1.cell? ⟨w.heap.size, 4, none⟩ = some (.int .u32 e0) := by
      (repeat' apply And.intro) <;> exact cell_of hl (by simp [go_sem])
    have hf : w1.cell? ⟨w.heap.size + 1, 0, none⟩ = some (.int .i64 (F 0)) ∧ w1.cell? ⟨w.heap.size + 1, 1, none⟩ = some (.int .i64 (F 1)) ∧ w1.cell? ⟨w.heap.size + 1, 2, none⟩ = some (.int .i64 (F 2)) ∧ w1.cell? ⟨w.heap.size + 1, 3, none⟩ = some (.int .i64 (F 3)) ∧ w1.cell? ⟨w.heap.size + 1, 4, none⟩ = some (.int .i64 (F 4)) ∧ w1.cell? ⟨w.heap.size + 1, 5, none⟩ = some (.int .i64 (F 5)) ∧ w1.cell? ⟨w.heap.size + 1, 6, none⟩ = some (.int .u64 (F 6)) ∧ w1.cell? ⟨w.heap.size + 1, 7, none⟩ = some (.int .u64 (F 7)) ∧ w1.cell? ⟨w.heap.size + 1, 8, none⟩ = some (.int .i64 (F 8)) ∧ w1.cell? ⟨w.heap.size + 1, 9, none⟩ = some (.int .i64 (F 9)) ∧ w1.cell? ⟨w.heap.size + 1, 10, none⟩ = some (.int .u64 (F 10)) ∧ w1.cell? ⟨w.heap.size + 1, 11, none⟩ = some (.int .i64 (F 11)) ∧ w1.cell? ⟨w.heap.size + 1, 12, none⟩ = some (.int .u64 (F 12)) ∧ w1.cell? ⟨w.heap.size + 1, 13, none⟩ = some (.int .u64 (F 13)) ∧ w1.cell? ⟨w.heap.size + 1, 14, none⟩ = some (.int .i64 (F 14)) ∧ w1.cell? ⟨w.heap.size + 1, 15, none⟩ = some (.int .i64 (F 15)) := by
      (repeat' apply And.intro) <;> exact cell_of hl (by simp [go_sem])
    have RF : Hid (w1.rangeAt (w.heap.size + 1) 0 FL) := by
      rw [hFL.out]
      exact hid (range_below hl (range_new _ _ (by simp)))
    clear hl
    obtain ⟨k0, k1, k2, k3, k4⟩ := hc
    obtain ⟨f0, f1, f2, f3, f4, f5, f6, f7, f8, f9, f10, f11, f12, f13, f14, f15⟩ := hf
    have K9 := hid f9
    have k0 := fun o => cell_of (grow w1 o) k0
    have k1 := fun o => cell_of (grow w1 o) k1
    have k2 := fun o => cell_of (grow w1 o) k2
    have k3 := fun o => cell_of (grow w1 o) k3
    have k4 := fun o => cell_of (grow w1 o) k4
    have f0 := fun o o2 => cell_of (grow2 w1 o o2) f0
    have f1 := fun o o2 => cell_of (grow2 w1 o o2) f1
    have f2 := fun o o2 => cell_of (grow2 w1 o o2) f2
    have f3 := fun o o2 => cell_of (grow2 w1 o o2) f3
    have f4 := fun o o2 => cell_of (grow2 w1 o o2) f4
    have f5 := fun o o2 => cell_of (grow2 w1 o o2) f5
    have f6 := fun o o2 => cell_of (grow2 w1 o o2) f6
    have f7 := fun o o2 => cell_of (grow2 w1 o o2) f7
    have f8 := fun o o2 => cell_of (grow2 w1 o o2) f8
    have f9 := fun o o2 => cell_of (grow2 w1 o o2) f9
    have f10 := fun o o2 => cell_of (grow2 w1 o o2) f10
    have f11 := fun o o2 => cell_of (grow2 w1 o o2) f11
    have f12 := fun o o2 => cell_of (grow2 w1 o o2) f12
    have f13 := fun o o2 => cell_of (grow2 w1 o o2) f13
    have f14 := fun o o2 => cell_of (grow2 w1 o o2) f14
    have f15 := fun o o2 => cell_of (grow2 w1 o o2) f15
    go_wp2_with fail
    refine wp_loop_rounds 6 ?_
    iterate 6 (rw [rounds_succ]; go_wp2_with fail)
    refine (hO.out _).mono ?_
    rintro e w2 ⟨rfl, hl⟩
    have hS1 : Below w.heap.size w w2 ∧ w2.rangeAt w1.heap.size 0 AL ∧ w2.rangeAt (w.heap.size + 1) 0 FL ∧ w2.rangeAt (w1.heap.size + 1) 0 BL := by
      refine ⟨via ((hb.out.alloc hb.out.size _).alloc (by have := hb.out.size; simp; omega) _) hl, ?_, range_below hl (range_below (grow2 _ _ _) RF.out), ?_⟩
      · rw [hAL.out]
        exact range_below hl (range_below (grow _ _) (range_new _ _ rfl))
      · rw [hBL.out]
        exact range_below hl (range_new _ _ (by simp))
    clear k0 k1 k2 k3 k4 f0 f1 f2 f3 f4 f5 f6 f7 f8 f9 f10 f11 f12 f13 f14 f15
    have f9 := cell_of hl (cell_of (grow2 _ _ _) K9.out)
    clear hl
    rcases hcase with rfl | ⟨rfl, hP⟩ | ⟨rfl, hP, hOb⟩
    · go_wp2_with fail
      go_ret
      exact ⟨rfl, hS1.1⟩
    · go_wp2_with fail
      go_ret
      exact ⟨rfl, hS1.1⟩
    · have keepS := hid (fun (w2 w3 : World) (hS : Below w.heap.size w w2 ∧ w2.rangeAt w1.heap.size 0 AL ∧ w2.rangeAt (w.heap.size + 1) 0 FL ∧ w2.rangeAt (w1.heap.size + 1) 0 BL) (hl : Below w2.heap.size w2 w3) =>
        (show Below w.heap.size w w3 ∧ w3.rangeAt w1.heap.size 0 AL ∧ w3.rangeAt (w.heap.size + 1) 0 FL ∧ w3.rangeAt (w1.heap.size + 1) 0 BL from ⟨via hS.1 hl, range_below hl hS.2.1, range_below hl hS.2.2.1, range_below hl hS.2.2.2⟩))
      go_wp2_with fail
      clear f9
      refine wp_region_held_drew (S := fun w' => Below w.heap.size w w' ∧ w'.rangeAt w1.heap.size 0 AL ∧ w'.rangeAt (w.heap.size + 1) 0 FL ∧ w'.rangeAt (w1.heap.size + 1) 0 BL) (by kernel_rfl) ?_ (fun hH0 => ?_)
      · exact keepS.out _ _ hS1 (quiet _)
      refine Reg.tk (i := 0) (oi := ?_) ?_ ?_
      rotate_left
      · (simp only [List.getElem?_toArray, List.getElem?_cons_succ, List.getElem?_cons_zero]; exact rfl)
      refine ⟨?_, by kernel_rfl, by kernel_rfl, by kernel_rfl, fun _ _ _ h => h, Or.inl ⟨by rfl, ?_⟩, hH0, ?_⟩
      rotate_left
      · (intro w hSw; clear hSw; go_simp; try with_reducible rfl)
      try simp only [Act.put, List.setIfInBounds_toArray, List.set_cons_zero, List.set_cons_succ]
      refine Reg.tk (i := 1) (oi := ?_) ?_ ?_
      rotate_left
      · (simp only [List.getElem?_toArray, List.getElem?_cons_succ, List.getElem?_cons_zero]; exact rfl)
      refine ⟨?_, by kernel_rfl, by kernel_rfl, by kernel_rfl, fun _ _ _ h => h, Or.inl ⟨by rfl, ?_⟩, hH0, ?_⟩
      rotate_left
      · (intro w hSw; clear hSw; go_simp; try with_reducible rfl)
      try simp only [Act.put, List.setIfInBounds_toArray, List.set_cons_zero, List.set_cons_succ]
      refine Reg.tk (i := 2) (oi := ?_) ?_ ?_
      rotate_left
      · (simp only [List.getElem?_toArray, List.getElem?_cons_succ, List.getElem?_cons_zero]; exact rfl)
      refine ⟨_, by kernel_rfl, by kernel_rfl, by kernel_rfl, fun _ _ _ h => h, yieldsIf_load_mid (by rfl) 23 _ rfl (w1.heap.size + 1) 0 rfl BL _ (fun w hSw => hSw.2.2.2) Try.underlying23 rfl hiB, hH0, ?_⟩
      try simp only [Act.put, List.setIfInBounds_toArray, List.set_cons_zero, List.set_cons_succ]
      refine Reg.tk (i := 3) (oi := ?_) ?_ ?_
      rotate_left
      · (simp only [List.getElem?_toArray, List.getElem?_cons_succ, List.getElem?_cons_zero]; exact rfl)
      refine ⟨_, by kernel_rfl, by kernel_rfl, by kernel_rfl, fun _ _ _ h => h, yieldsIf_load_mid (by rfl) 25 _ rfl (w.heap.size + 1) 0 rfl FL _ (fun w hSw => hSw.2.2.1) Try.underlying25 rfl hiF, hH0, ?_⟩
      try simp only [Act.put, List.setIfInBounds_toArray, List.set_cons_zero, List.set_cons_succ]
      refine Reg.one (i := 4) (oi := ?_) ?_ ?_
      rotate_left
      · (simp only [List.getElem?_toArray, List.getElem?_cons_succ, List.getElem?_cons_zero]; exact rfl)
      refine ⟨by kernel_rfl, fun K hK => ?_⟩
      go_simp
      refine (hOb.out _).mono ?_
      rintro e v0 ⟨rfl, hl0⟩
      refine hK.out _ _ (keepS.out _ _ hH0 hl0) (fun hH1 => ?_)
      clear hK K hH0 hl0
      try simp only [Act.put, List.setIfInBounds_toArray, List.set_cons_zero, List.set_cons_succ]
      refine Reg.tk (i := 5) (oi := ?_) ?_ ?_
      rotate_left
      · (simp only [List.getElem?_toArray, List.getElem?_cons_succ, List.getElem?_cons_zero]; exact rfl)
      refine ⟨?_, by kernel_rfl, by kernel_rfl, by kernel_rfl, fun _ _ _ h => h, Or.inl ⟨by rfl, ?_⟩, hH1, ?_⟩
      rotate_left
      · (intro w hSw; clear hSw; go_simp; try with_reducible rfl)
      try simp only [Act.put, List.setIfInBounds_toArray, List.set_cons_zero, List.set_cons_succ]
      refine Reg.tk (i := 6) (oi := ?_) ?_ ?_
      rotate_left
      · (simp only [List.getElem?_toArray, List.getElem?_cons_succ, List.getElem?_cons_zero]; exact rfl)
      refine ⟨?_, by kernel_rfl, by kernel_rfl, by kernel_rfl, fun _ _ _ h => h, Or.inl ⟨by rfl, ?_⟩, hH1, ?_⟩
      rotate_left
      · (intro w hSw; clear hSw; go_simp; try with_reducible rfl)
      try simp only [Act.put, List.setIfInBounds_toArray, List.set_cons_zero, List.set_cons_succ]
      refine Reg.tk (i := 7) (oi := ?_) ?_ ?_
      rotate_left
      · (simp only [List.getElem?_toArray, List.getElem?_cons_succ, List.getElem?_cons_zero]; exact rfl)
      refine ⟨_, by kernel_rfl, by kernel_rfl, by kernel_rfl, fun _ _ _ h => h, yieldsIf_load_mid (by rfl) 23 _ rfl (w1.heap.size + 1) 0 rfl BL _ (fun w hSw => hSw.2.2.2) Try.underlying23 rfl hiB, hH1, ?_⟩
      try simp only [Act.put, List.setIfInBounds_toArray, List.set_cons_zero, List.set_cons_succ]
      refine Reg.tk (i := 9) (oi := ?_) ?_ ?_
      rotate_left
      · (simp only [List.getElem?_toArray, List.getElem?_cons_succ, List.getElem?_cons_zero]; exact rfl)
      refine ⟨_, by kernel_rfl, by kernel_rfl, by kernel_rfl, fun _ _ _ h => h, yieldsIf_load_mid (by rfl) 23 _ rfl w1.heap.size 0 rfl AL _ (fun w hSw => hSw.2.1) Try.underlying23 rfl hiA, hH1, ?_⟩
      try simp only [Act.put, List.setIfInBounds_toArray, List.set_cons_zero, List.set_cons_succ]
      refine Reg.one (i := 8) (oi := ?_) ?_ ?_
      rotate_left
      · (simp only [List.getElem?_toArray, List.getElem?_cons_succ, List.getElem?_cons_zero]; exact rfl)
      refine ⟨by kernel_rfl, fun K hK => ?_⟩
      go_simp
      refine (hEb.out _).mono ?_
      rintro e v1 ⟨rfl, hl1⟩
      refine hK.out _ _ (keepS.out _ _ hH1 hl1) (fun hH2 => ?_)
      clear hK K hH1 hl1
      try simp only [Act.put, List.setIfInBounds_toArray, List.set_cons_zero, List.set_cons_succ]
      refine Reg.one (i := 10) (oi := ?_) ?_ ?_
      rotate_left
      · (simp only [List.getElem?_toArray, List.getElem?_cons_succ, List.getElem?_cons_zero]; exact rfl)
      refine ⟨by kernel_rfl, fun K hK => ?_⟩
      go_simp
      refine (hE.out _).mono ?_
      rintro e v2 ⟨rfl, hl2⟩
      refine hK.out _ _ (keepS.out _ _ hH2 hl2) (fun hH3 => ?_)
      clear hK K hH2 hl2
      try simp only [Act.put, List.setIfInBounds_toArray, List.set_cons_zero, List.set_cons_succ]
      refine Reg.tk (i := 11) (oi := ?_) ?_ ?_
      rotate_left
      · (simp only [List.getElem?_toArray, List.getElem?_cons_succ, List.getElem?_cons_zero]; exact rfl)
      refine ⟨?_, by kernel_rfl, by kernel_rfl, by kernel_rfl, fun _ _ _ h => h, Or.inl ⟨by rfl, ?_⟩, hH3, ?_⟩
      rotate_left
      · (intro w hSw; clear hSw; go_simp; try with_reducible rfl)
      try simp only [Act.put, List.setIfInBounds_toArray, List.set_cons_zero, List.set_cons_succ]
      refine Reg.tk (i := 12) (oi := ?_) ?_ ?_
      rotate_left
      · (simp only [List.getElem?_toArray, List.getElem?_cons_succ, List.getElem?_cons_zero]; exact rfl)
      refine ⟨?_, by kernel_rfl, by kernel_rfl, by kernel_rfl, fun _ _ _ h => h, Or.inl ⟨by rfl, ?_⟩, hH3, ?_⟩
      rotate_left
      · (intro w hSw; clear hSw; go_simp; try with_reducible rfl)
      try simp only [Act.put, List.setIfInBounds_toArray, List.set_cons_zero, List.set_cons_succ]
      refine Reg.tk (i := 13) (oi := ?_) ?_ ?_
      rotate_left
      · (simp only [List.getElem?_toArray, List.getElem?_cons_succ, List.getElem?_cons_zero]; exact rfl)
      refine ⟨?_, by kernel_rfl, by kernel_rfl, by kernel_rfl, fun _ _ _ h => h, Or.inl ⟨by rfl, ?_⟩, hH3, ?_⟩
      rotate_left
      · (intro w hSw; clear hSw; go_simp; try with_reducible rfl)
      try simp only [Act.put, List.setIfInBounds_toArray, List.set_cons_zero, List.set_cons_succ]
      refine Reg.tk (i := 14) (oi := ?_) ?_ ?_
      rotate_left
      · (simp only [List.getElem?_toArray, List.getElem?_cons_succ, List.getElem?_cons_zero]; exact rfl)
      refine ⟨?_, by kernel_rfl, by kernel_rfl, by kernel_rfl, fun _ _ _ h => h, Or.inl ⟨by rfl, ?_⟩, hH3, ?_⟩
      rotate_left
      · (intro w hSw; clear hSw; go_simp; try with_reducible rfl)
      try simp only [Act.put, List.setIfInBounds_toArray, List.set_cons_zero, List.set_cons_succ]
      refine wpAnyH_done (by kernel_rfl) ?_ _
      go_wp2_with fail
      go_ret
      exact ⟨ret_bool (by simp), hH3.1⟩
theorem err_sum {b c d : Int} (h : 0 ≤ b) (h2 : 0 ≤ c) (h3 : 0 ≤ d) (hs : b + c + d ≤ 18446744073709551615) : err b c d = b + c + d := by
  unfold err
  rw [Sat.sum_cap (by intro x hx; simp at hx; omega)]
  simp
  unfold Sat.cap
  split <;> omega
theorem vol_sum {a b c d : Int} (h0 : 0 ≤ a) (h : 0 ≤ b) (h2 : 0 ≤ c) (h3 : 0 ≤ d) (hs : a + (b + c + d) ≤ 18446744073709551615) : vol a b c d = a + (b + c + d) := by
  unfold vol
  rw [err_sum h h2 h3 (by omega)]
  unfold Sat.add
  split <;> omega
/-- A failure more: the breaker opens as well. -/
theorem more_opens {a b c d b' c' d' V P : Int} (a0 : 0 ≤ a) (a1 : a ≤ 4294967295) (b0 : 0 ≤ b) (b1 : b ≤ 4294967295) (c0 : 0 ≤ c) (c1 : c ≤ 4294967295) (d0 : 0 ≤ d) (d1 : d ≤ 4294967295) (b0' : 0 ≤ b') (c0' : 0 ≤ c') (d0' : 0 ≤ d') (hs : b' + c' + d' = b + c + d + 1) (hP : P ≤ 100) (ho : opens a b c d V P = true) : opens a b' c' d' V P = true := by
  unfold opens Sat.atl at *
  rw [err_sum b0 c0 d0 (by omega), vol_sum a0 b0 c0 d0 (by omega)] at ho
  rw [err_sum b0' c0' d0' (by omega), vol_sum a0 b0' c0' d0' (by omega)]
  rw [Bool.and_eq_true, decide_eq_true_eq, decide_eq_true_eq] at ho ⊢
  obtain ⟨h1, h2⟩ := ho
  have hp : Sat.pos P ≤ 100 := by unfold Sat.pos; split <;> omega
  refine ⟨by omega, ?_⟩
  rw [hs, show a + (b + c + d + 1) = a + (b + c + d) + 1 from by omega, Int.mul_add, Int.mul_one]
  omega
theorem wf_u32 {x : Int} (h : (Lit.int .u32 x).wf = true) : 0 ≤ x ∧ x ≤ 4294967295 := by
  have h2 : IntKind.u32.min ≤ x ∧ x ≤ IntKind.u32.max := by simpa [Lit.wf] using h
  have e1 : IntKind.u32.min = 0 := by decide
  have e2 : IntKind.u32.max = 4294967295 := by decide
  rw [e1, e2] at h2
  exact h2
theorem healthMore_walk {H : Type} {enc : TypeId × Value → H} (W : World) (a0_0 : Int) (a0_1 : Int) (a0_2 : Int) (a0_3 : Int) (a0_4 : Int) (w0_0 : (Lit.int .u32 a0_0).wf = true) (w0_1 : (Lit.int .u32 a0_1).wf = true) (w0_2 : (Lit.int .u32 a0_2).wf = true) (w0_3 : (Lit.int .u32 a0_3).wf = true) (w0_4 : (Lit.int .u32 a0_4).wf = true) (a1_0 : Int) (a1_1 : Int) (a1_2 : Int) (a1_3 : Int) (a1_4 : Int) (a1_5 : Int) (a1_6 : Int) (a1_7 : Int) (a1_8 : Int) (a1_9 : Int) (a1_10 : Int) (a1_11 : Int) (a1_12 : Int) (a1_13 : Int) (a1_14 : Int) (a1_15 : Int) (w1_0 : (Lit.int .i64 a1_0).wf = true) (w1_1 : (Lit.int .i64 a1_1).wf = true) (w1_2 : (Lit.int .i64 a1_2).wf = true) (w1_3 : (Lit.int .i64 a1_3).wf = true) (w1_4 : (Lit.int .i64 a1_4).wf = true) (w1_5 : (Lit.int .i64 a1_5).wf = true) (w1_6 : (Lit.int .u64 a1_6).wf = true) (w1_7 : (Lit.int .u64 a1_7).wf = true) (w1_8 : (Lit.int .i64 a1_8).wf = true) (w1_9 : (Lit.int .i64 a1_9).wf = true) (w1_10 : (Lit.int .u64 a1_10).wf = true) (w1_11 : (Lit.int .i64 a1_11).wf = true) (w1_12 : (Lit.int .u64 a1_12).wf = true) (w1_13 : (Lit.int .u64 a1_13).wf = true) (w1_14 : (Lit.int .i64 a1_14).wf = true) (w1_15 : (Lit.int .i64 a1_15).wf = true) (a2 : Int) (w2 : (Lit.int .u8 a2).wf = true) :
    Calls Try.prog 5 #[.agg #[.int .u32 a0_0, .int .u32 a0_1, .int .u32 a0_2, .int .u32 a0_3, .int .u32 a0_4], .agg #[.int .i64 a1_0, .int .i64 a1_1, .int .i64 a1_2, .int .i64 a1_3, .int .i64 a1_4, .int .i64 a1_5, .int .u64 a1_6, .int .u64 a1_7, .int .i64 a1_8, .int .i64 a1_9, .int .u64 a1_10, .int .i64 a1_11, .int .u64 a1_12, .int .u64 a1_13, .int .i64 a1_14, .int .i64 a1_15], .int .u8 a2] W fun e w' => e = .returned (.bool true) ∧ Below W.heap.size W w' := by
  obtain ⟨a0, a1⟩ := wf_u32 w0_0
  obtain ⟨b0, b1⟩ := wf_u32 w0_1
  obtain ⟨c0, c1⟩ := wf_u32 w0_2
  obtain ⟨d0, d1⟩ := wf_u32 w0_3
  obtain ⟨z0, z1⟩ := wf_u32 w0_4
  obtain ⟨q0, q1⟩ := Sat.wf_u8 w2
  generalize hF : pick a1_0 a1_1 a1_2 a1_3 a1_4 a1_5 a1_6 a1_7 a1_8 a1_9 a1_10 a1_11 a1_12 a1_13 a1_14 a1_15 = F
  have q8 : I (F 8) := by rw [← hF]; exact i_of w1_8
  have q9 : I (F 9) := by rw [← hF]; exact i_of w1_9
  have hex : ∃ b' c' d' : Int, (a2 % 3 = 0 ∧ a0_1 + 1 = b' ∧ a0_2 = c' ∧ a0_3 = d' ∨ a2 % 3 = 1 ∧ a0_1 = b' ∧ a0_2 + 1 = c' ∧ a0_3 = d' ∨ a2 % 3 = 2 ∧ a0_1 = b' ∧ a0_2 = c' ∧ a0_3 + 1 = d') := by
    have h3 : a2 % 3 = 0 ∨ a2 % 3 = 1 ∨ a2 % 3 = 2 := by omega
    rcases h3 with h | h | h
    · exact ⟨_, _, _, .inl ⟨h, rfl, rfl, rfl⟩⟩
    · exact ⟨_, _, _, .inr (.inl ⟨h, rfl, rfl, rfl⟩)⟩
    · exact ⟨_, _, _, .inr (.inr ⟨h, rfl, rfl, rfl⟩)⟩
  obtain ⟨b', c', d', hk⟩ := hex
  have hE := errors_calls a0_0 a0_1 a0_2 a0_3 a0_4 (by omega) (by omega) (by omega)
  have hEb := errors_calls a0_0 b' c' d' a0_4 (by omega) (by omega) (by omega)
  rw [err_sum b0 c0 d0 (by omega)] at hE
  rw [err_sum (by omega) (by omega) (by omega) (by omega), show b' + c' + d' = a0_1 + a0_2 + a0_3 + 1 from by omega] at hEb
  have hO := opens_calls a0_0 a0_1 a0_2 a0_3 a0_4 (by omega) (by omega) (by omega) (by omega) (by omega) F q8 q9
  have hOb := opens_calls a0_0 b' c' d' a0_4 (by omega) (by omega) (by omega) (by omega) (by omega) F q8 q9
  have hcase : opens a0_0 a0_1 a0_2 a0_3 (F 8) (F 9) = false ∨ opens a0_0 a0_1 a0_2 a0_3 (F 8) (F 9) = true ∧ 100 < F 9 ∨ opens a0_0 a0_1 a0_2 a0_3 (F 8) (F 9) = true ∧ F 9 ≤ 100 ∧ opens a0_0 b' c' d' (F 8) (F 9) = true := by
    cases ho : opens a0_0 a0_1 a0_2 a0_3 (F 8) (F 9) with
    | false => exact .inl rfl
    | true =>
      by_cases hp : F 9 ≤ 100
      · exact .inr (.inr ⟨rfl, hp, more_opens a0 a1 b0 b1 c0 c1 d0 d1 (by omega) (by omega) (by omega) (by omega) hp ho⟩)
      · exact .inr (.inl ⟨rfl, by omega⟩)
  have := more_core a0_0 a0_1 a0_2 a0_3 a0_4 b' c' d' (a0_1 + a0_2 + a0_3) a2 _ F W _ _ _ (hid rfl) (hid rfl) (hid rfl) a0 a1 b0 b1 c0 c1 d0 d1 z0 z1 q0 (by omega) (by omega) (by omega) hk (by
    rcases hcase with h | h | ⟨h, h2, h3⟩
    · exact .inl h
    · exact .inr (.inl h)
    · rw [h3] at hOb
      exact .inr (.inr ⟨h, h2, hid hOb⟩)) (hid hO) (hid hE) (hid hEb)
  rw [← hF] at this
  exact this
end Go.Proofs.Ytiplgihdgckbaaa.C16
