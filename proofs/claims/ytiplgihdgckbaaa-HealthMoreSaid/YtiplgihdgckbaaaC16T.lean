/- The walk of the law HealthShort. -/
import Derived.Test.YtiplgihdgckbaaaC16B
import Derived.Test.YtiplgihdgckbaaaReg
namespace Go.Proofs.Ytiplgihdgckbaaa.C16
open Go.RowKit Go.Proofs.Ytiplgihdgckbaaa
set_option linter.unusedVariables false
set_option linter.unusedSimpArgs false
set_option linter.unnecessarySimpa false
attribute [local go_sem] C01.max2_mx C01.min2_mn C01.max_two C01.min_two
theorem grow (w : World) (o : Obj) : Below w.heap.size w (w.alloc o) := (Below.refl _ _).alloc (Nat.le_refl _) _
theorem grow2 (w : World) (o o2 : Obj) : Below w.heap.size w ((w.alloc o).alloc o2) := (grow w o).trans ((grow _ _).mono (by simp))
theorem range_below {w w' : World} (hl : Below w.heap.size w w') {b o : Nat} {cs : List Value} (h : w.rangeAt b o cs) : w'.rangeAt b o cs := fun j v hj => cell_of hl (h j v hj)
theorem range_new {w : World} {B : Nat} (C : Array Value) (t : TypeId) (hB : B = w.heap.size) : (w.alloc (.cells C t (0, 0))).rangeAt B 0 C.toList := by
  subst hB
  intro j v hj
  have hh : (w.alloc (.cells C t (0, 0))).heap[w.heap.size]? = some (.cells C t (0, 0)) := heap_alloc_new _ _
  rw [Nat.zero_add, cell_of_row _ _ _ _ _ _ hh]
  simpa using hj
set_option maxRecDepth 20000 in
set_option maxHeartbeats 4000000 in
theorem short_core (a b c d e0 s v m : Int) (o : Bool) (F : Nat → Int) (w : World) (CL DL FL GL : List Value) (V : Int) (hV8 : I V)
    (hCL : Hid (CL = [.int .u64 a, .int .u64 b, .int .u64 c, .int .u64 d, .int .u64 e0])) (hDL : Hid (DL = [.int .u64 a, .int .u64 b, .int .u64 c, .int .u64 d, .int .u64 s])) (hFL : Hid (FL = [.int .i64 (F 0), .int .i64 (F 1), .int .i64 (F 2), .int .i64 (F 3), .int .i64 (F 4), .int .i64 (F 5), .int .u64 (F 6), .int .u64 (F 7), .int .i64 (F 8), .int .i64 (F 9), .int .u64 (F 10), .int .i64 (F 11), .int .u64 (F 12), .int .u64 (F 13), .int .i64 (F 14), .int .i64 (F 15)])) (hGL : Hid (GL = [.int .i64 (F 0), .int .i64 (F 1), .int .i64 (F 2), .int .i64 (F 3), .int .i64 (F 4), .int .i64 (F 5), .int .u64 (F 6), .int .u64 (F 7), .int .i64 (F 8), .int .i64 0, .int .u64 (F 10), .int .i64 (F 11), .int .u64 (F 12), .int .u64 (F 13), .int .i64 (F 14), .int .i64 (F 15)])) (hVF : Hid (F 8 = V))
    (hm : Sat.mx V 1 = m) (hw : IntKind.u64.wrap m = m)
    (hV : Hid (∀ w, Calls Try.prog 14 #[.agg CL.toArray] w fun e w' => e = .returned (.int .u64 v) ∧ Below w.heap.size w w'))
    (hVd : Hid (∀ w, Calls Try.prog 14 #[.agg DL.toArray] w fun e w' => e = .returned (.int .u64 v) ∧ Below w.heap.size w w'))
    (hOc : Hid (∀ w, Calls Try.prog 16 #[.agg CL.toArray, .agg FL.toArray] w fun e w' => e = .returned (.bool o) ∧ Below w.heap.size w w'))
    (hOd : Hid (∀ w, Calls Try.prog 16 #[.agg DL.toArray, .agg FL.toArray] w fun e w' => e = .returned (.bool o) ∧ Below w.heap.size w w'))
    (hOz : Hid (∀ w, Calls Try.prog 16 #[.agg #[.int .u64 0, .int .u64 0, .int .u64 0, .int .u64 0, .int .u64 s], .agg FL.toArray] w fun e w' => e = .returned (.bool false) ∧ Below w.heap.size w w'))
    (hOa : Hid (∀ w, Calls Try.prog 16 #[.agg CL.toArray, .agg GL.toArray] w fun e w' => e = .returned (.bool (decide (m ≤ v))) ∧ Below w.heap.size w w')) :
    Calls Try.prog 4 #[.agg #[.int .u64 a, .int .u64 b, .int .u64 c, .int .u64 d, .int .u64 e0], .int .u64 s, .agg #[.int .i64 (F 0), .int .i64 (F 1), .int .i64 (F 2), .int .i64 (F 3), .int .i64 (F 4), .int .i64 (F 5), .int .u64 (F 6), .int .u64 (F 7), .int .i64 (F 8), .int .i64 (F 9), .int .u64 (F 10), .int .i64 (F 11), .int .u64 (F 12), .int .u64 (F 13), .int .i64 (F 14), .int .i64 (F 15)]] w fun e w' => e = .returned (.bool true) ∧ Below w.heap.size w w' := by
  have i5 : (Try.prog.info? 23).map (·.size) = some 5 := by kernel_rfl
  have i16 : (Try.prog.info? 25).map (·.size) = some 16 := by kernel_rfl
  have hiC : (Try.prog.info? 23).map (·.size) = some CL.length := by rw [i5, hCL.out]; rfl
  have hiD : (Try.prog.info? 23).map (·.size) = some DL.length := by rw [i5, hDL.out]; rfl
  have hiF : (Try.prog.info? 25).map (·.size) = some FL.length := by rw [i16, hFL.out]; rfl
  have hiG : (Try.prog.info? 25).map (·.size) = some GL.length := by rw [i16, hGL.out]; rfl
  go_enter Try.func4, Try.ntmps4
  go_wp2_with fail
  refine (awake_calls _).mono ?_
  rintro e w1 ⟨rfl, hl⟩
  have Hb := hid (via (((Below.refl _ _).alloc (Nat.le_refl _) _).alloc (by simp) _) hl)
  have hc : w1.cell? ⟨w.heap.size, 0, none⟩ = some (.int .u64 a) ∧ w1.cell? ⟨w.heap.size, 1, none⟩ = some (.int .u64 b) ∧ w1.cell? ⟨w.heap.size, 2, none⟩ = some (.int .u64 c) ∧ w1.cell? ⟨w.heap.size, 3, none⟩ = some (.int .u64 d) ∧ w1.cell? ⟨w.heap.size, 4, none⟩ = some (.int .u64 e0) := by
    (repeat' apply And.intro) <;> exact cell_of hl (by simp [go_sem])
  have hf : w1.cell? ⟨w.heap.size + 1, 0, none⟩ = some (.int .i64 (F 0)) ∧ w1.cell? ⟨w.heap.size + 1, 1, none⟩ = some (.int .i64 (F 1)) ∧ w1.cell? ⟨w.heap.size + 1, 2, none⟩ = some (.int .i64 (F 2)) ∧ w1.cell? ⟨w.heap.size + 1, 3, none⟩ = some (.int .i64 (F 3)) ∧ w1.cell? ⟨w.heap.size + 1, 4, none⟩ = some (.int .i64 (F 4)) ∧ w1.cell? ⟨w.heap.size + 1, 5, none⟩ = some (.int .i64 (F 5)) ∧ w1.cell? ⟨w.heap.size + 1, 6, none⟩ = some (.int .u64 (F 6)) ∧ w1.cell? ⟨w.heap.size + 1, 7, none⟩ = some (.int .u64 (F 7)) ∧ w1.cell? ⟨w.heap.size + 1, 8, none⟩ = some (.int .i64 (F 8)) ∧ w1.cell? ⟨w.heap.size + 1, 9, none⟩ = some (.int .i64 (F 9)) ∧ w1.cell? ⟨w.heap.size + 1, 10, none⟩ = some (.int .u64 (F 10)) ∧ w1.cell? ⟨w.heap.size + 1, 11, none⟩ = some (.int .i64 (F 11)) ∧ w1.cell? ⟨w.heap.size + 1, 12, none⟩ = some (.int .u64 (F 12)) ∧ w1.cell? ⟨w.heap.size + 1, 13, none⟩ = some (.int .u64 (F 13)) ∧ w1.cell? ⟨w.heap.size + 1, 14, none⟩ = some (.int .i64 (F 14)) ∧ w1.cell? ⟨w.heap.size + 1, 15, none⟩ = some (.int .i64 (F 15)) := by
    (repeat' apply And.intro) <;> exact cell_of hl (by simp [go_sem])
  have RC : Hid (w1.rangeAt w.heap.size 0 CL) := by
    rw [hCL.out]
    exact hid (range_below hl (range_below (grow _ _) (range_new _ _ rfl)))
  have RF : Hid (w1.rangeAt (w.heap.size + 1) 0 FL) := by
    rw [hFL.out]
    exact hid (range_below hl (range_new _ _ (by simp)))
  obtain ⟨k0, k1, k2, k3, k4⟩ := hc
  obtain ⟨c0, c1, c2, c3, c4, c5, c6, c7, c8, c9, c10, c11, c12, c13, c14, c15⟩ := hf
  have K8 := hid c8
  have c0 := fun o => cell_of (grow w1 o) c0
  have c1 := fun o => cell_of (grow w1 o) c1
  have c2 := fun o => cell_of (grow w1 o) c2
  have c3 := fun o => cell_of (grow w1 o) c3
  have c4 := fun o => cell_of (grow w1 o) c4
  have c5 := fun o => cell_of (grow w1 o) c5
  have c6 := fun o => cell_of (grow w1 o) c6
  have c7 := fun o => cell_of (grow w1 o) c7
  have c8 := fun o => cell_of (grow w1 o) c8
  have c9 := fun o => cell_of (grow w1 o) c9
  have c10 := fun o => cell_of (grow w1 o) c10
  have c11 := fun o => cell_of (grow w1 o) c11
  have c12 := fun o => cell_of (grow w1 o) c12
  have c13 := fun o => cell_of (grow w1 o) c13
  have c14 := fun o => cell_of (grow w1 o) c14
  have c15 := fun o => cell_of (grow w1 o) c15
  clear hl
  go_wp2_with fail
  have hS1 : (fun wz : World => Below w.heap.size w wz ∧ wz.rangeAt w.heap.size 0 CL ∧ wz.rangeAt (w.heap.size + 1) 0 FL ∧ wz.rangeAt w1.heap.size 0 DL ∧ wz.rangeAt (w1.heap.size + 1) 0 GL ∧ wz.cell? ⟨w.heap.size + 1, 8, none⟩ = some (.int .i64 V)) ((w1.alloc (.cells #[.int .u64 a, .int .u64 b, .int .u64 c, .int .u64 d, .int .u64 s] 23 (0, 0))).alloc (.cells #[.int .i64 (F 0), .int .i64 (F 1), .int .i64 (F 2), .int .i64 (F 3), .int .i64 (F 4), .int .i64 (F 5), .int .u64 (F 6), .int .u64 (F 7), .int .i64 (F 8), .int .i64 0, .int .u64 (F 10), .int .i64 (F 11), .int .u64 (F 12), .int .u64 (F 13), .int .i64 (F 14), .int .i64 (F 15)] 25 (0, 0))) := by
    refine ⟨(Hb.out.alloc Hb.out.size _).alloc (by have := Hb.out.size; simp; omega) _, range_below (grow2 _ _ _) RC.out, range_below (grow2 _ _ _) RF.out, ?_, ?_, ?_⟩
    · rw [hDL.out]
      exact range_below (grow _ _) (range_new _ _ rfl)
    · rw [hGL.out]
      exact range_new _ _ (by simp)
    · rw [← hVF.out]
      exact cell_of (grow2 _ _ _) K8.out
  have keepS := hid (fun (w2 w3 : World) (hS : Below w.heap.size w w2 ∧ w2.rangeAt w.heap.size 0 CL ∧ w2.rangeAt (w.heap.size + 1) 0 FL ∧ w2.rangeAt w1.heap.size 0 DL ∧ w2.rangeAt (w1.heap.size + 1) 0 GL ∧ w2.cell? ⟨w.heap.size + 1, 8, none⟩ = some (.int .i64 V)) (hl : Below w2.heap.size w2 w3) =>
    (show Below w.heap.size w w3 ∧ w3.rangeAt w.heap.size 0 CL ∧ w3.rangeAt (w.heap.size + 1) 0 FL ∧ w3.rangeAt w1.heap.size 0 DL ∧ w3.rangeAt (w1.heap.size + 1) 0 GL ∧ w3.cell? ⟨w.heap.size + 1, 8, none⟩ = some (.int .i64 V) from ⟨via hS.1 hl, range_below hl hS.2.1, range_below hl hS.2.2.1, range_below hl hS.2.2.2.1, range_below hl hS.2.2.2.2.1, cell_of hl hS.2.2.2.2.2⟩))
  clear c0 c1 c2 c3 c4 c5 c6 c7 c8 c9 c10 c11 c12 c13 c14 c15 k0 k1 k2 k3 k4 hCL hDL hFL hGL
  refine wp_region_held_drew (S := fun w' => Below w.heap.size w w' ∧ w'.rangeAt w.heap.size 0 CL ∧ w'.rangeAt (w.heap.size + 1) 0 FL ∧ w'.rangeAt w1.heap.size 0 DL ∧ w'.rangeAt (w1.heap.size + 1) 0 GL ∧ w'.cell? ⟨w.heap.size + 1, 8, none⟩ = some (.int .i64 V)) (by kernel_rfl) ?_ (fun hH0 => ?_)
  · exact keepS.out _ _ hS1 (quiet _)
  refine Reg.tk (i := 0) (oi := ?_) ?_ ?_
  rotate_left
  · (simp only [List.getElem?_toArray, List.getElem?_cons_succ, List.getElem?_cons_zero]; exact rfl)
  refine ⟨?_, by kernel_rfl, by kernel_rfl, by kernel_rfl, fun _ _ _ h => h, Or.inl ⟨by rfl, ?_⟩, hH0, ?_⟩
  rotate_left
  · (intro w hSw; clear hSw; go_simp; try with_reducible rfl)
  try simp only [Act.put, List.setIfInBounds_toArray, List.set_cons_zero, List.set_cons_succ]
  refine Reg.tk (i := 1) (oi := ?_) ?_ ?_
  rotate_left
  · (simp only [List.getElem?_toArray, List.getElem?_cons_succ, List.getElem?_cons_zero]; exact rfl)
  refine ⟨?_, by kernel_rfl, by kernel_rfl, by kernel_rfl, fun _ _ _ h => h, Or.inl ⟨by rfl, ?_⟩, hH0, ?_⟩
  rotate_left
  · (intro w hSw; clear hSw; go_simp; try with_reducible rfl)
  try simp only [Act.put, List.setIfInBounds_toArray, List.set_cons_zero, List.set_cons_succ]
  refine Reg.tk (i := 2) (oi := ?_) ?_ ?_
  rotate_left
  · (simp only [List.getElem?_toArray, List.getElem?_cons_succ, List.getElem?_cons_zero]; exact rfl)
  refine ⟨_, by kernel_rfl, by kernel_rfl, by kernel_rfl, fun _ _ _ h => h, yieldsIf_load_mid (by rfl) 23 _ rfl w1.heap.size 0 rfl DL _ (fun w hSw => hSw.2.2.2.1) Try.underlying23 rfl hiD, hH0, ?_⟩
  try simp only [Act.put, List.setIfInBounds_toArray, List.set_cons_zero, List.set_cons_succ]
  refine Reg.tk (i := 3) (oi := ?_) ?_ ?_
  rotate_left
  · (simp only [List.getElem?_toArray, List.getElem?_cons_succ, List.getElem?_cons_zero]; exact rfl)
  refine ⟨_, by kernel_rfl, by kernel_rfl, by kernel_rfl, fun _ _ _ h => h, yieldsIf_load_mid (by rfl) 25 _ rfl (w.heap.size + 1) 0 rfl FL _ (fun w hSw => hSw.2.2.1) Try.underlying25 rfl hiF, hH0, ?_⟩
  try simp only [Act.put, List.setIfInBounds_toArray, List.set_cons_zero, List.set_cons_succ]
  refine Reg.tk (i := 5) (oi := ?_) ?_ ?_
  rotate_left
  · (simp only [List.getElem?_toArray, List.getElem?_cons_succ, List.getElem?_cons_zero]; exact rfl)
  refine ⟨_, by kernel_rfl, by kernel_rfl, by kernel_rfl, fun _ _ _ h => h, yieldsIf_load_mid (by rfl) 23 _ rfl w.heap.size 0 rfl CL _ (fun w hSw => hSw.2.1) Try.underlying23 rfl hiC, hH0, ?_⟩
  try simp only [Act.put, List.setIfInBounds_toArray, List.set_cons_zero, List.set_cons_succ]
  refine Reg.tk (i := 6) (oi := ?_) ?_ ?_
  rotate_left
  · (simp only [List.getElem?_toArray, List.getElem?_cons_succ, List.getElem?_cons_zero]; exact rfl)
  refine ⟨_, by kernel_rfl, by kernel_rfl, by kernel_rfl, fun _ _ _ h => h, yieldsIf_load_mid (by rfl) 25 _ rfl (w.heap.size + 1) 0 rfl FL _ (fun w hSw => hSw.2.2.1) Try.underlying25 rfl hiF, hH0, ?_⟩
  try simp only [Act.put, List.setIfInBounds_toArray, List.set_cons_zero, List.set_cons_succ]
  refine Reg.one (i := 4) (oi := ?_) ?_ ?_
  rotate_left
  · (simp only [List.getElem?_toArray, List.getElem?_cons_succ, List.getElem?_cons_zero]; exact rfl)
  refine ⟨by kernel_rfl, fun K hK => ?_⟩
  go_simp
  refine (hOd.out _).mono ?_
  rintro e v0 ⟨rfl, hl0⟩
  refine hK.out _ _ (keepS.out _ _ hH0 hl0) (fun hH1 => ?_)
  clear hK K hH0 hl0
  try simp only [Act.put, List.setIfInBounds_toArray, List.set_cons_zero, List.set_cons_succ]
  refine Reg.one (i := 7) (oi := ?_) ?_ ?_
  rotate_left
  · (simp only [List.getElem?_toArray, List.getElem?_cons_succ, List.getElem?_cons_zero]; exact rfl)
  refine ⟨by kernel_rfl, fun K hK => ?_⟩
  go_simp
  refine (hOc.out _).mono ?_
  rintro e v1 ⟨rfl, hl1⟩
  refine hK.out _ _ (keepS.out _ _ hH1 hl1) (fun hH2 => ?_)
  clear hK K hH1 hl1
  try simp only [Act.put, List.setIfInBounds_toArray, List.set_cons_zero, List.set_cons_succ]
  as_aux_lemma =>
    refine Reg.tk (i := 8) (oi := ?_) ?_ ?_
    rotate_left
    · (simp only [List.getElem?_toArray, List.getElem?_cons_succ, List.getElem?_cons_zero]; exact rfl)
    refine ⟨?_, by kernel_rfl, by kernel_rfl, by kernel_rfl, fun _ _ _ h => h, Or.inl ⟨by rfl, ?_⟩, hH2, ?_⟩
    rotate_left
    · (intro w hSw; clear hSw; go_simp; try with_reducible rfl)
    try simp only [Act.put, List.setIfInBounds_toArray, List.set_cons_zero, List.set_cons_succ]
    refine Reg.tk (i := 9) (oi := ?_) ?_ ?_
    rotate_left
    · (simp only [List.getElem?_toArray, List.getElem?_cons_succ, List.getElem?_cons_zero]; exact rfl)
    refine ⟨?_, by kernel_rfl, by kernel_rfl, by kernel_rfl, fun _ _ _ h => h, Or.inl ⟨by rfl, ?_⟩, hH2, ?_⟩
    rotate_left
    · (intro w hSw; clear hSw; go_simp; try with_reducible rfl)
    try simp only [Act.put, List.setIfInBounds_toArray, List.set_cons_zero, List.set_cons_succ]
    refine Reg.tk (i := 10) (oi := ?_) ?_ ?_
    rotate_left
    · (simp only [List.getElem?_toArray, List.getElem?_cons_succ, List.getElem?_cons_zero]; exact rfl)
    refine ⟨?_, by kernel_rfl, by kernel_rfl, by kernel_rfl, fun _ _ _ h => h, Or.inl ⟨by rfl, ?_⟩, hH2, ?_⟩
    rotate_left
    · (intro w hSw; clear hSw; go_simp; try with_reducible rfl)
    try simp only [Act.put, List.setIfInBounds_toArray, List.set_cons_zero, List.set_cons_succ]
    refine Reg.tk (i := 11) (oi := ?_) ?_ ?_
    rotate_left
    · (simp only [List.getElem?_toArray, List.getElem?_cons_succ, List.getElem?_cons_zero]; exact rfl)
    refine ⟨_, by kernel_rfl, by kernel_rfl, by kernel_rfl, fun _ _ _ h => h, yieldsIf_load_mid (by rfl) 23 _ rfl w1.heap.size 0 rfl DL _ (fun w hSw => hSw.2.2.2.1) Try.underlying23 rfl hiD, hH2, ?_⟩
    try simp only [Act.put, List.setIfInBounds_toArray, List.set_cons_zero, List.set_cons_succ]
    refine Reg.tk (i := 13) (oi := ?_) ?_ ?_
    rotate_left
    · (simp only [List.getElem?_toArray, List.getElem?_cons_succ, List.getElem?_cons_zero]; exact rfl)
    refine ⟨_, by kernel_rfl, by kernel_rfl, by kernel_rfl, fun _ _ _ h => h, yieldsIf_load_mid (by rfl) 23 _ rfl w.heap.size 0 rfl CL _ (fun w hSw => hSw.2.1) Try.underlying23 rfl hiC, hH2, ?_⟩
    try simp only [Act.put, List.setIfInBounds_toArray, List.set_cons_zero, List.set_cons_succ]
    refine Reg.one (i := 12) (oi := ?_) ?_ ?_
    rotate_left
    · (simp only [List.getElem?_toArray, List.getElem?_cons_succ, List.getElem?_cons_zero]; exact rfl)
    refine ⟨by kernel_rfl, fun K hK => ?_⟩
    go_simp
    refine (hVd.out _).mono ?_
    rintro e v2 ⟨rfl, hl2⟩
    refine hK.out _ _ (keepS.out _ _ hH2 hl2) (fun hH3 => ?_)
    clear hK K hH2 hl2
    try simp only [Act.put, List.setIfInBounds_toArray, List.set_cons_zero, List.set_cons_succ]
    refine Reg.one (i := 14) (oi := ?_) ?_ ?_
    rotate_left
    · (simp only [List.getElem?_toArray, List.getElem?_cons_succ, List.getElem?_cons_zero]; exact rfl)
    refine ⟨by kernel_rfl, fun K hK => ?_⟩
    go_simp
    refine (hV.out _).mono ?_
    rintro e v3 ⟨rfl, hl3⟩
    refine hK.out _ _ (keepS.out _ _ hH3 hl3) (fun hH4 => ?_)
    clear hK K hH3 hl3
    try simp only [Act.put, List.setIfInBounds_toArray, List.set_cons_zero, List.set_cons_succ]
    as_aux_lemma =>
      refine Reg.tk (i := 15) (oi := ?_) ?_ ?_
      rotate_left
      · (simp only [List.getElem?_toArray, List.getElem?_cons_succ, List.getElem?_cons_zero]; exact rfl)
      refine ⟨?_, by kernel_rfl, by kernel_rfl, by kernel_rfl, fun _ _ _ h => h, Or.inl ⟨by rfl, ?_⟩, hH4, ?_⟩
      rotate_left
      · (intro w hSw; clear hSw; go_simp; try with_reducible rfl)
      try simp only [Act.put, List.setIfInBounds_toArray, List.set_cons_zero, List.set_cons_succ]
      refine Reg.tk (i := 16) (oi := ?_) ?_ ?_
      rotate_left
      · (simp only [List.getElem?_toArray, List.getElem?_cons_succ, List.getElem?_cons_zero]; exact rfl)
      refine ⟨?_, by kernel_rfl, by kernel_rfl, by kernel_rfl, fun _ _ _ h => h, Or.inl ⟨by rfl, ?_⟩, hH4, ?_⟩
      rotate_left
      · (intro w hSw; clear hSw; go_simp; try with_reducible rfl)
      try simp only [Act.put, List.setIfInBounds_toArray, List.set_cons_zero, List.set_cons_succ]
      refine Reg.tk (i := 17) (oi := ?_) ?_ ?_
      rotate_left
      · (simp only [List.getElem?_toArray, List.getElem?_cons_succ, List.getElem?_cons_zero]; exact rfl)
      refine ⟨?_, by kernel_rfl, by kernel_rfl, by kernel_rfl, fun _ _ _ h => h, Or.inl ⟨by rfl, ?_⟩, hH4, ?_⟩
      rotate_left
      · (intro w hSw; clear hSw; go_simp; try with_reducible rfl)
      try simp only [Act.put, List.setIfInBounds_toArray, List.set_cons_zero, List.set_cons_succ]
      refine Reg.tk (i := 18) (oi := ?_) ?_ ?_
      rotate_left
      · (simp only [List.getElem?_toArray, List.getElem?_cons_succ, List.getElem?_cons_zero]; exact rfl)
      refine ⟨?_, by kernel_rfl, by kernel_rfl, by kernel_rfl, fun _ _ _ h => h, Or.inl ⟨by rfl, ?_⟩, hH4, ?_⟩
      rotate_left
      · (intro w hSw; clear hSw; go_simp; try with_reducible rfl)
      try simp only [Act.put, List.setIfInBounds_toArray, List.set_cons_zero, List.set_cons_succ]
      refine Reg.tk (i := 19) (oi := ?_) ?_ ?_
      rotate_left
      · (simp only [List.getElem?_toArray, List.getElem?_cons_succ, List.getElem?_cons_zero]; exact rfl)
      refine ⟨?_, by kernel_rfl, by kernel_rfl, by kernel_rfl, fun _ _ _ h => h, Or.inl ⟨by rfl, ?_⟩, hH4, ?_⟩
      rotate_left
      · (intro w hSw; clear hSw; go_simp; try with_reducible rfl)
      try simp only [Act.put, List.setIfInBounds_toArray, List.set_cons_zero, List.set_cons_succ]
      refine Reg.tk (i := 20) (oi := ?_) ?_ ?_
      rotate_left
      · (simp only [List.getElem?_toArray, List.getElem?_cons_succ, List.getElem?_cons_zero]; exact rfl)
      refine ⟨_, by kernel_rfl, by kernel_rfl, by kernel_rfl, fun _ _ _ h => h, yieldsIf_load_mid (by rfl) 25 _ rfl (w.heap.size + 1) 0 rfl FL _ (fun w hSw => hSw.2.2.1) Try.underlying25 rfl hiF, hH4, ?_⟩
      try simp only [Act.put, List.setIfInBounds_toArray, List.set_cons_zero, List.set_cons_succ]
      refine Reg.one (i := 21) (oi := ?_) ?_ ?_
      rotate_left
      · (simp only [List.getElem?_toArray, List.getElem?_cons_succ, List.getElem?_cons_zero]; exact rfl)
      refine ⟨by kernel_rfl, fun K hK => ?_⟩
      go_simp
      refine (hOz.out _).mono ?_
      rintro e v4 ⟨rfl, hl4⟩
      refine hK.out _ _ (keepS.out _ _ hH4 hl4) (fun hH5 => ?_)
      clear hK K hH4 hl4
      try simp only [Act.put, List.setIfInBounds_toArray, List.set_cons_zero, List.set_cons_succ]
      as_aux_lemma =>
        refine Reg.tk (i := 22) (oi := ?_) ?_ ?_
        rotate_left
        · (simp only [List.getElem?_toArray, List.getElem?_cons_succ, List.getElem?_cons_zero]; exact rfl)
        refine ⟨?_, by kernel_rfl, by kernel_rfl, by kernel_rfl, fun _ _ _ h => h, Or.inl ⟨by rfl, ?_⟩, hH5, ?_⟩
        rotate_left
        · (intro w hSw; clear hSw; go_simp; try with_reducible rfl)
        try simp only [Act.put, List.setIfInBounds_toArray, List.set_cons_zero, List.set_cons_succ]
        refine Reg.tk (i := 23) (oi := ?_) ?_ ?_
        rotate_left
        · (simp only [List.getElem?_toArray, List.getElem?_cons_succ, List.getElem?_cons_zero]; exact rfl)
        refine ⟨?_, by kernel_rfl, by kernel_rfl, by kernel_rfl, fun _ _ _ h => h, Or.inl ⟨by rfl, ?_⟩, hH5, ?_⟩
        rotate_left
        · (intro w hSw; clear hSw; go_simp; try with_reducible rfl)
        try simp only [Act.put, List.setIfInBounds_toArray, List.set_cons_zero, List.set_cons_succ]
        refine Reg.tk (i := 24) (oi := ?_) ?_ ?_
        rotate_left
        · (simp only [List.getElem?_toArray, List.getElem?_cons_succ, List.getElem?_cons_zero]; exact rfl)
        refine ⟨?_, by kernel_rfl, by kernel_rfl, by kernel_rfl, fun _ _ _ h => h, Or.inl ⟨by rfl, ?_⟩, hH5, ?_⟩
        rotate_left
        · (intro w hSw; clear hSw; go_simp; try with_reducible rfl)
        try simp only [Act.put, List.setIfInBounds_toArray, List.set_cons_zero, List.set_cons_succ]
        refine Reg.tk (i := 25) (oi := ?_) ?_ ?_
        rotate_left
        · (simp only [List.getElem?_toArray, List.getElem?_cons_succ, List.getElem?_cons_zero]; exact rfl)
        refine ⟨_, by kernel_rfl, by kernel_rfl, by kernel_rfl, fun _ _ _ h => h, yieldsIf_load_mid (by rfl) 23 _ rfl w.heap.size 0 rfl CL _ (fun w hSw => hSw.2.1) Try.underlying23 rfl hiC, hH5, ?_⟩
        try simp only [Act.put, List.setIfInBounds_toArray, List.set_cons_zero, List.set_cons_succ]
        refine Reg.tk (i := 26) (oi := ?_) ?_ ?_
        rotate_left
        · (simp only [List.getElem?_toArray, List.getElem?_cons_succ, List.getElem?_cons_zero]; exact rfl)
        refine ⟨_, by kernel_rfl, by kernel_rfl, by kernel_rfl, fun _ _ _ h => h, yieldsIf_load_mid (by rfl) 25 _ rfl (w1.heap.size + 1) 0 rfl GL _ (fun w hSw => hSw.2.2.2.2.1) Try.underlying25 rfl hiG, hH5, ?_⟩
        try simp only [Act.put, List.setIfInBounds_toArray, List.set_cons_zero, List.set_cons_succ]
        refine Reg.tk (i := 28) (oi := ?_) ?_ ?_
        rotate_left
        · (simp only [List.getElem?_toArray, List.getElem?_cons_succ, List.getElem?_cons_zero]; exact rfl)
        refine ⟨_, by kernel_rfl, by kernel_rfl, by kernel_rfl, fun _ _ _ h => h, yieldsIf_load_mid (by rfl) 23 _ rfl w.heap.size 0 rfl CL _ (fun w hSw => hSw.2.1) Try.underlying23 rfl hiC, hH5, ?_⟩
        try simp only [Act.put, List.setIfInBounds_toArray, List.set_cons_zero, List.set_cons_succ]
        refine Reg.tk (i := 30) (oi := ?_) ?_ ?_
        rotate_left
        · (simp only [List.getElem?_toArray, List.getElem?_cons_succ, List.getElem?_cons_zero]; exact rfl)
        refine ⟨?_, by kernel_rfl, by kernel_rfl, by kernel_rfl, fun _ _ _ h => h, Or.inl ⟨by rfl, ?_⟩, hH5, ?_⟩
        rotate_left
        · (intro w hSw; clear hSw; go_simp; try with_reducible rfl)
        try simp only [Act.put, List.setIfInBounds_toArray, List.set_cons_zero, List.set_cons_succ]
        refine Reg.tk (i := 31) (oi := ?_) ?_ ?_
        rotate_left
        · (simp only [List.getElem?_toArray, List.getElem?_cons_succ, List.getElem?_cons_zero]; exact rfl)
        refine ⟨?_, by kernel_rfl, by kernel_rfl, by kernel_rfl, fun _ _ _ h => h, Or.inl ⟨by rfl, ?_⟩, hH5, ?_⟩
        rotate_left
        · (intro w hSw; have hc := hSw.2.2.2.2.2; clear hSw; go_simp; try with_reducible rfl)
        try simp only [Act.put, List.setIfInBounds_toArray, List.set_cons_zero, List.set_cons_succ]
        refine Reg.tk (i := 32) (oi := ?_) ?_ ?_
        rotate_left
        · (simp only [List.getElem?_toArray, List.getElem?_cons_succ, List.getElem?_cons_zero]; exact rfl)
        refine ⟨?_, by kernel_rfl, by kernel_rfl, by kernel_rfl, fun _ _ _ h => h, Or.inl ⟨by rfl, ?_⟩, hH5, ?_⟩
        rotate_left
        · (intro w hSw; clear hSw; go_simp; try with_reducible rfl)
        try simp only [Act.put, List.setIfInBounds_toArray, List.set_cons_zero, List.set_cons_succ]
        refine Reg.tk (i := 33) (oi := ?_) ?_ ?_
        rotate_left
        · (simp only [List.getElem?_toArray, List.getElem?_cons_succ, List.getElem?_cons_zero]; exact rfl)
        refine ⟨?_, by kernel_rfl, by kernel_rfl, by kernel_rfl, fun _ _ _ h => h, Or.inl ⟨by rfl, ?_⟩, hH5, ?_⟩
        rotate_left
        · (intro w hSw; clear hSw; go_simp; try with_reducible rfl)
        try simp only [Act.put, List.setIfInBounds_toArray, List.set_cons_zero, List.set_cons_succ]
        refine Reg.one (i := 27) (oi := ?_) ?_ ?_
        rotate_left
        · (simp only [List.getElem?_toArray, List.getElem?_cons_succ, List.getElem?_cons_zero]; exact rfl)
        refine ⟨by kernel_rfl, fun K hK => ?_⟩
        go_simp
        refine (hOa.out _).mono ?_
        rintro e v5 ⟨rfl, hl5⟩
        refine hK.out _ _ (keepS.out _ _ hH5 hl5) (fun hH6 => ?_)
        clear hK K hH5 hl5
        try simp only [Act.put, List.setIfInBounds_toArray, List.set_cons_zero, List.set_cons_succ]
        refine Reg.one (i := 29) (oi := ?_) ?_ ?_
        rotate_left
        · (simp only [List.getElem?_toArray, List.getElem?_cons_succ, List.getElem?_cons_zero]; exact rfl)
        refine ⟨by kernel_rfl, fun K hK => ?_⟩
        go_simp
        refine (hV.out _).mono ?_
        rintro e v6 ⟨rfl, hl6⟩
        refine hK.out _ _ (keepS.out _ _ hH6 hl6) (fun hH7 => ?_)
        clear hK K hH6 hl6
        try simp only [Act.put, List.setIfInBounds_toArray, List.set_cons_zero, List.set_cons_succ]
        refine Reg.tk (i := 34) (oi := ?_) ?_ ?_
        rotate_left
        · (simp only [List.getElem?_toArray, List.getElem?_cons_succ, List.getElem?_cons_zero]; exact rfl)
        refine ⟨?_, by kernel_rfl, by kernel_rfl, by kernel_rfl, fun _ _ _ h => h, Or.inl ⟨by rfl, ?_⟩, hH7, ?_⟩
        rotate_left
        · (intro w hSw; clear hSw; go_simp; try with_reducible rfl)
        try simp only [Act.put, List.setIfInBounds_toArray, List.set_cons_zero, List.set_cons_succ]
        refine Reg.tk (i := 35) (oi := ?_) ?_ ?_
        rotate_left
        · (simp only [List.getElem?_toArray, List.getElem?_cons_succ, List.getElem?_cons_zero]; exact rfl)
        refine ⟨?_, by kernel_rfl, by kernel_rfl, by kernel_rfl, fun _ _ _ h => h, Or.inl ⟨by rfl, ?_⟩, hH7, ?_⟩
        rotate_left
        · (intro w hSw; clear hSw; go_simp; try with_reducible rfl)
        try simp only [Act.put, List.setIfInBounds_toArray, List.set_cons_zero, List.set_cons_succ]
        refine Reg.tk (i := 36) (oi := ?_) ?_ ?_
        rotate_left
        · (simp only [List.getElem?_toArray, List.getElem?_cons_succ, List.getElem?_cons_zero]; exact rfl)
        refine ⟨?_, by kernel_rfl, by kernel_rfl, by kernel_rfl, fun _ _ _ h => h, Or.inl ⟨by rfl, ?_⟩, hH7, ?_⟩
        rotate_left
        · (intro w hSw; clear hSw; go_simp; try with_reducible rfl)
        try simp only [Act.put, List.setIfInBounds_toArray, List.set_cons_zero, List.set_cons_succ]
        refine Reg.tk (i := 37) (oi := ?_) ?_ ?_
        rotate_left
        · (simp only [List.getElem?_toArray, List.getElem?_cons_succ, List.getElem?_cons_zero]; exact rfl)
        refine ⟨?_, by kernel_rfl, by kernel_rfl, by kernel_rfl, fun _ _ _ h => h, Or.inl ⟨by rfl, ?_⟩, hH7, ?_⟩
        rotate_left
        · (intro w hSw; clear hSw; go_simp; try with_reducible rfl)
        try simp only [Act.put, List.setIfInBounds_toArray, List.set_cons_zero, List.set_cons_succ]
        refine wpAnyH_done (by kernel_rfl) ?_ _
        go_wp2_with fail
        go_ret
        exact ⟨ret_bool (by simp), hH7.1⟩
theorem atl_zero (x v : Int) (hx : 0 ≤ x) : Sat.atl x v 0 = true := by unfold Sat.atl Sat.pos; rw [decide_eq_true]; rw [if_pos (by omega), Int.zero_mul]; omega
theorem opens_zero {a b c d V : Int} (h1 : U b) (h2 : U c) (h3 : U d) : opens a b c d V 0 = decide (Sat.mx V 1 ≤ vol a b c d) := by unfold opens; rw [atl_zero _ _ (err_in h1 h2 h3).1, Bool.and_true]
theorem opens_none (V P : Int) : opens 0 0 0 0 V P = false := by
  unfold opens
  rw [sat_zero, decide_eq_false (by have := (Sat.mx_ge V 1).2; omega)]
  rfl
def less (F : Nat → Int) : Nat → Int
  | 9 => 0 | n => F n
theorem healthShort_walk {H : Type} {enc : TypeId × Value → H} (W : World) (a0_0 : Int) (a0_1 : Int) (a0_2 : Int) (a0_3 : Int) (a0_4 : Int) (w0_0 : (Lit.int .u64 a0_0).wf = true) (w0_1 : (Lit.int .u64 a0_1).wf = true) (w0_2 : (Lit.int .u64 a0_2).wf = true) (w0_3 : (Lit.int .u64 a0_3).wf = true) (w0_4 : (Lit.int .u64 a0_4).wf = true) (a1 : Int) (w1 : (Lit.int .u64 a1).wf = true) (a2_0 : Int) (a2_1 : Int) (a2_2 : Int) (a2_3 : Int) (a2_4 : Int) (a2_5 : Int) (a2_6 : Int) (a2_7 : Int) (a2_8 : Int) (a2_9 : Int) (a2_10 : Int) (a2_11 : Int) (a2_12 : Int) (a2_13 : Int) (a2_14 : Int) (a2_15 : Int) (w2_0 : (Lit.int .i64 a2_0).wf = true) (w2_1 : (Lit.int .i64 a2_1).wf = true) (w2_2 : (Lit.int .i64 a2_2).wf = true) (w2_3 : (Lit.int .i64 a2_3).wf = true) (w2_4 : (Lit.int .i64 a2_4).wf = true) (w2_5 : (Lit.int .i64 a2_5).wf = true) (w2_6 : (Lit.int .u64 a2_6).wf = true) (w2_7 : (Lit.int .u64 a2_7).wf = true) (w2_8 : (Lit.int .i64 a2_8).wf = true) (w2_9 : (Lit.int .i64 a2_9).wf = true) (w2_10 : (Lit.int .u64 a2_10).wf = true) (w2_11 : (Lit.int .i64 a2_11).wf = true) (w2_12 : (Lit.int .u64 a2_12).wf = true) (w2_13 : (Lit.int .u64 a2_13).wf = true) (w2_14 : (Lit.int .i64 a2_14).wf = true) (w2_15 : (Lit.int .i64 a2_15).wf = true) :
    Calls Try.prog 4 #[.agg #[.int .u64 a0_0, .int .u64 a0_1, .int .u64 a0_2, .int .u64 a0_3, .int .u64 a0_4], .int .u64 a1, .agg #[.int .i64 a2_0, .int .i64 a2_1, .int .i64 a2_2, .int .i64 a2_3, .int .i64 a2_4, .int .i64 a2_5, .int .u64 a2_6, .int .u64 a2_7, .int .i64 a2_8, .int .i64 a2_9, .int .u64 a2_10, .int .i64 a2_11, .int .u64 a2_12, .int .u64 a2_13, .int .i64 a2_14, .int .i64 a2_15]] W fun e w' => e = .returned (.bool true) ∧ Below W.heap.size W w' := by
  have p0 := u_of w0_0
  have p1 := u_of w0_1
  have p2 := u_of w0_2
  have p3 := u_of w0_3
  have p4 := u_of w0_4
  have ps := u_of w1
  have z0 : U 0 := by omega
  generalize hF : pick a2_0 a2_1 a2_2 a2_3 a2_4 a2_5 a2_6 a2_7 a2_8 a2_9 a2_10 a2_11 a2_12 a2_13 a2_14 a2_15 = F
  have q8 : I (F 8) := by rw [← hF]; exact i_of w2_8
  have q9 : I (F 9) := by rw [← hF]; exact i_of w2_9
  have hm := mx_in q8
  have q90 : I (less F 9) := by show I 0; omega
  have q80 : I (less F 8) := q8
  have hO := opens_calls a0_0 a0_1 a0_2 a0_3 a0_4 p0 p1 p2 p3 p4 F q8 q9
  have hD := opens_calls a0_0 a0_1 a0_2 a0_3 a1 p0 p1 p2 p3 ps F q8 q9
  have hZ := opens_calls 0 0 0 0 a1 z0 z0 z0 z0 ps F q8 q9
  rw [opens_none] at hZ
  have hA := opens_calls a0_0 a0_1 a0_2 a0_3 a0_4 p0 p1 p2 p3 p4 (less F) q80 q90
  rw [show less F 9 = 0 from rfl, opens_zero p1 p2 p3, show less F 8 = F 8 from rfl] at hA
  have := short_core a0_0 a0_1 a0_2 a0_3 a0_4 a1 _ (Sat.mx (F 8) 1) _ F W _ _ _ _ (F 8) q8 (hid rfl) (hid rfl) (hid rfl) (hid rfl) (hid rfl) rfl (Sat.u64_in (by omega) (by omega)) (hid (volume_calls _ _ _ _ _ p0 p1 p2 p3)) (hid (volume_calls _ _ _ _ _ p0 p1 p2 p3)) (hid hO) (hid hD) (hid hZ) (hid hA)
  rw [← hF] at this
  exact this
end Go.Proofs.Ytiplgihdgckbaaa.C16
