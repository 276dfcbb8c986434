/- Bound of the package conf, and the reference's functions. -/
import Derived.Test.YtnednhdbghkcnaaC08C
import Derived.Test.YtnednhdbghkcnaaReg
namespace Go.Proofs.Ytnednhdbghkcnaa.C08
open Go.RowKit Go.Proofs.Ytnednhdbghkcnaa
set_option linter.unusedVariables false
set_option linter.unusedSimpArgs false
set_option linter.unnecessarySimpa false
attribute [local go_sem] C01.max2_mx C01.min2_mn C01.max_two C01.min_two
theorem grow' (w : World) (o : Obj) : Below w.heap.size w (w.alloc o) := (Below.refl _ _).alloc (Nat.le_refl _) _
theorem row4 {w : World} {B : Nat} (a b c d : Int) (t : TypeId) (hB : B = w.heap.size) : C01.RowAt (w.alloc (.cells #[.int .u64 a, .int .u64 b, .int .u64 c, .int .u64 d] t (0, 0))) (some ⟨B, 0, none⟩) [a, b, c, d] := by
  subst hB
  refine .inr ⟨_, _, rfl, ?_⟩
  intro i hi
  match i, hi with
  | 0, _ => simp [go_sem]
  | 1, _ => simp [go_sem]
  | 2, _ => simp [go_sem]
  | 3, _ => simp [go_sem]
def bnd (F : Nat → Int) : Int := Sat.sum [F 6, F 13, Sat.mul (Sat.mx (F 5) 0) (F 7), 1]
set_option maxRecDepth 20000 in
set_option maxHeartbeats 4000000 in
theorem bound_core (F : Nat → Int) (m p v : Int) (w : World) (h5 : I (F 5)) (hm : Sat.mx (F 5) 0 = m) (hw : IntKind.u64.wrap m = m)
    (hM : Hid (∀ w, Calls Try.prog 24 #[.int .u64 m, .int .u64 (F 7)] w fun e w' => e = .returned (.int .u64 p) ∧ w = w'))
    (hB : Hid (∀ x ∈ [F 6, F 13, p, 1], 0 ≤ x ∧ x < 18446744073709551616)) (hv : Hid (Sat.sum [F 6, F 13, p, 1] = v)) :
    Calls Try.prog 14 #[.agg #[.int .i64 (F 0), .int .i64 (F 1), .int .i64 (F 2), .int .i64 (F 3), .int .i64 (F 4), .int .i64 (F 5), .int .u64 (F 6), .int .u64 (F 7), .int .i64 (F 8), .int .i64 (F 9), .int .u64 (F 10), .int .i64 (F 11), .int .u64 (F 12), .int .u64 (F 13), .int .i64 (F 14), .int .i64 (F 15)]] w fun e w' => e = .returned (.int .u64 v) ∧ Below w.heap.size w w' := by
  have keepS := hid (fun (w2 w3 : World) (hS : Hid (Below w.heap.size w w2 ∧ w2.cell? ⟨w.heap.size, 5, none⟩ = some (.int .i64 (F 5)) ∧ w2.cell? ⟨w.heap.size, 6, none⟩ = some (.int .u64 (F 6)) ∧ w2.cell? ⟨w.heap.size, 7, none⟩ = some (.int .u64 (F 7)) ∧ w2.cell? ⟨w.heap.size, 13, none⟩ = some (.int .u64 (F 13)))) (hl : Below w2.heap.size w2 w3) =>
    (show Hid (Below w.heap.size w w3 ∧ w3.cell? ⟨w.heap.size, 5, none⟩ = some (.int .i64 (F 5)) ∧ w3.cell? ⟨w.heap.size, 6, none⟩ = some (.int .u64 (F 6)) ∧ w3.cell? ⟨w.heap.size, 7, none⟩ = some (.int .u64 (F 7)) ∧ w3.cell? ⟨w.heap.size, 13, none⟩ = some (.int .u64 (F 13))) from hid ⟨via hS.out.1 hl, cell_of hl hS.out.2.1, cell_of hl hS.out.2.2.1, cell_of hl hS.out.2.2.2.1, cell_of hl hS.out.2.2.2.2⟩))
  go_enter Try.func14, Try.ntmps14
  go_wp2_with fail
  have hS0 := keepS.out _ _ (hid ⟨(Below.refl _ _).alloc (Nat.le_refl _) (.cells #[.int .i64 (F 0), .int .i64 (F 1), .int .i64 (F 2), .int .i64 (F 3), .int .i64 (F 4), .int .i64 (F 5), .int .u64 (F 6), .int .u64 (F 7), .int .i64 (F 8), .int .i64 (F 9), .int .u64 (F 10), .int .i64 (F 11), .int .u64 (F 12), .int .u64 (F 13), .int .i64 (F 14), .int .i64 (F 15)] 24 (0, 0)), by simp [go_sem]⟩) (quiet _)
  refine wp_region_held_drew (S := fun w' => Hid (Below w.heap.size w w' ∧ w'.cell? ⟨w.heap.size, 5, none⟩ = some (.int .i64 (F 5)) ∧ w'.cell? ⟨w.heap.size, 6, none⟩ = some (.int .u64 (F 6)) ∧ w'.cell? ⟨w.heap.size, 7, none⟩ = some (.int .u64 (F 7)) ∧ w'.cell? ⟨w.heap.size, 13, none⟩ = some (.int .u64 (F 13)))) (by kernel_rfl) ?_ (fun hH0 => ?_)
  · exact hS0
  refine Reg.tk (i := 0) (oi := ?_) ?_ ?_
  rotate_left
  · (simp only [List.getElem?_toArray, List.getElem?_cons_succ, List.getElem?_cons_zero]; exact rfl)
  refine ⟨?_, by kernel_rfl, by kernel_rfl, by kernel_rfl, fun _ _ _ h => h, Or.inl ⟨by rfl, ?_⟩, hH0, ?_⟩
  rotate_left
  · (intro w hSw; clear hSw; go_simp; try with_reducible rfl)
  try simp only [Act.put, List.setIfInBounds_toArray, List.set_cons_zero, List.set_cons_succ]
  refine Reg.tk (i := 1) (oi := ?_) ?_ ?_
  rotate_left
  · (simp only [List.getElem?_toArray, List.getElem?_cons_succ, List.getElem?_cons_zero]; exact rfl)
  refine ⟨?_, by kernel_rfl, by kernel_rfl, by kernel_rfl, fun _ _ _ h => h, Or.inl ⟨by rfl, ?_⟩, hH0, ?_⟩
  rotate_left
  · (intro w hSw; have hc := hSw.out.2.2.1; clear hSw; go_simp; try with_reducible rfl)
  try simp only [Act.put, List.setIfInBounds_toArray, List.set_cons_zero, List.set_cons_succ]
  refine Reg.tk (i := 2) (oi := ?_) ?_ ?_
  rotate_left
  · (simp only [List.getElem?_toArray, List.getElem?_cons_succ, List.getElem?_cons_zero]; exact rfl)
  refine ⟨?_, by kernel_rfl, by kernel_rfl, by kernel_rfl, fun _ _ _ h => h, Or.inl ⟨by rfl, ?_⟩, hH0, ?_⟩
  rotate_left
  · (intro w hSw; clear hSw; go_simp; try with_reducible rfl)
  try simp only [Act.put, List.setIfInBounds_toArray, List.set_cons_zero, List.set_cons_succ]
  refine Reg.tk (i := 3) (oi := ?_) ?_ ?_
  rotate_left
  · (simp only [List.getElem?_toArray, List.getElem?_cons_succ, List.getElem?_cons_zero]; exact rfl)
  refine ⟨?_, by kernel_rfl, by kernel_rfl, by kernel_rfl, fun _ _ _ h => h, Or.inl ⟨by rfl, ?_⟩, hH0, ?_⟩
  rotate_left
  · (intro w hSw; have hc := hSw.out.2.2.2.2; clear hSw; go_simp; try with_reducible rfl)
  try simp only [Act.put, List.setIfInBounds_toArray, List.set_cons_zero, List.set_cons_succ]
  refine Reg.tk (i := 4) (oi := ?_) ?_ ?_
  rotate_left
  · (simp only [List.getElem?_toArray, List.getElem?_cons_succ, List.getElem?_cons_zero]; exact rfl)
  refine ⟨?_, by kernel_rfl, by kernel_rfl, by kernel_rfl, fun _ _ _ h => h, Or.inl ⟨by rfl, ?_⟩, hH0, ?_⟩
  rotate_left
  · (intro w hSw; clear hSw; go_simp; try with_reducible rfl)
  try simp only [Act.put, List.setIfInBounds_toArray, List.set_cons_zero, List.set_cons_succ]
  refine Reg.tk (i := 5) (oi := ?_) ?_ ?_
  rotate_left
  · (simp only [List.getElem?_toArray, List.getElem?_cons_succ, List.getElem?_cons_zero]; exact rfl)
  refine ⟨?_, by kernel_rfl, by kernel_rfl, by kernel_rfl, fun _ _ _ h => h, Or.inl ⟨by rfl, ?_⟩, hH0, ?_⟩
  rotate_left
  · (intro w hSw; have hc := hSw.out.2.1; clear hSw; go_simp; try with_reducible rfl)
  try simp only [Act.put, List.setIfInBounds_toArray, List.set_cons_zero, List.set_cons_succ]
  refine Reg.tk (i := 6) (oi := ?_) ?_ ?_
  rotate_left
  · (simp only [List.getElem?_toArray, List.getElem?_cons_succ, List.getElem?_cons_zero]; exact rfl)
  refine ⟨?_, by kernel_rfl, by kernel_rfl, by kernel_rfl, fun _ _ _ h => h, Or.inl ⟨by rfl, ?_⟩, hH0, ?_⟩
  rotate_left
  · (intro w hSw; clear hSw; go_simp; try with_reducible rfl)
  try simp only [Act.put, List.setIfInBounds_toArray, List.set_cons_zero, List.set_cons_succ]
  refine Reg.tk (i := 7) (oi := ?_) ?_ ?_
  rotate_left
  · (simp only [List.getElem?_toArray, List.getElem?_cons_succ, List.getElem?_cons_zero]; exact rfl)
  refine ⟨?_, by kernel_rfl, by kernel_rfl, by kernel_rfl, fun _ _ _ h => h, Or.inl ⟨by rfl, ?_⟩, hH0, ?_⟩
  rotate_left
  · (intro w hSw; clear hSw; go_simp; try with_reducible rfl)
  try simp only [Act.put, List.setIfInBounds_toArray, List.set_cons_zero, List.set_cons_succ]
  refine Reg.tk (i := 8) (oi := ?_) ?_ ?_
  rotate_left
  · (simp only [List.getElem?_toArray, List.getElem?_cons_succ, List.getElem?_cons_zero]; exact rfl)
  refine ⟨?_, by kernel_rfl, by kernel_rfl, by kernel_rfl, fun _ _ _ h => h, Or.inl ⟨by rfl, ?_⟩, hH0, ?_⟩
  rotate_left
  · (intro w hSw; clear hSw; go_simp; try with_reducible rfl)
  try simp only [Act.put, List.setIfInBounds_toArray, List.set_cons_zero, List.set_cons_succ]
  refine Reg.tk (i := 9) (oi := ?_) ?_ ?_
  rotate_left
  · (simp only [List.getElem?_toArray, List.getElem?_cons_succ, List.getElem?_cons_zero]; exact rfl)
  refine ⟨?_, by kernel_rfl, by kernel_rfl, by kernel_rfl, fun _ _ _ h => h, Or.inl ⟨by rfl, ?_⟩, hH0, ?_⟩
  rotate_left
  · (intro w hSw; have hc := hSw.out.2.2.2.1; clear hSw; go_simp; try with_reducible rfl)
  try simp only [Act.put, List.setIfInBounds_toArray, List.set_cons_zero, List.set_cons_succ]
  refine Reg.one (i := 10) (oi := ?_) ?_ ?_
  rotate_left
  · (simp only [List.getElem?_toArray, List.getElem?_cons_succ, List.getElem?_cons_zero]; exact rfl)
  refine ⟨by kernel_rfl, fun K hK => ?_⟩
  go_simp
  refine (hM.out _).mono ?_
  rintro e w' ⟨rfl, rfl⟩
  refine hK.out _ _ hH0 (fun hH1 => ?_)
  clear hK K hH0
  try simp only [Act.put, List.setIfInBounds_toArray, List.set_cons_zero, List.set_cons_succ]
  refine Reg.one (i := 11) (oi := ?_) ?_ ?_
  rotate_left
  · (simp only [List.getElem?_toArray, List.getElem?_cons_succ, List.getElem?_cons_zero]; exact rfl)
  refine ⟨by kernel_rfl, fun K hK => ?_⟩
  go_simp
  refine hK.out _ _ (keepS.out _ _ hH1 (grow _ _)) (fun hH2 => ?_)
  clear hK K hH1
  try simp only [Act.put, List.setIfInBounds_toArray, List.set_cons_zero, List.set_cons_succ]
  refine Reg.one (i := 12) (oi := ?_) ?_ ?_
  rotate_left
  · (simp only [List.getElem?_toArray, List.getElem?_cons_succ, List.getElem?_cons_zero]; exact rfl)
  refine ⟨by kernel_rfl, fun K hK => ?_⟩
  go_simp
  refine (C01.sum_calls [F 6, F 13, p, 1] (some ⟨_, 0, none⟩) 4 _ (by simp) hB.out ?_).mono ?_
  · exact row4 _ _ _ _ _ (by simp)
  rintro e w' ⟨rfl, rfl⟩
  refine hK.out _ _ hH2 (fun hH3 => ?_)
  clear hK K hH2
  try simp only [Act.put, List.setIfInBounds_toArray, List.set_cons_zero, List.set_cons_succ]
  refine Reg.tk (i := 13) (oi := ?_) ?_ ?_
  rotate_left
  · (simp only [List.getElem?_toArray, List.getElem?_cons_succ, List.getElem?_cons_zero]; exact rfl)
  refine ⟨?_, by kernel_rfl, by kernel_rfl, by kernel_rfl, fun _ _ _ h => h, Or.inl ⟨by rfl, ?_⟩, hH3, ?_⟩
  rotate_left
  · (intro w hSw; clear hSw; go_simp; try with_reducible rfl)
  try simp only [Act.put, List.setIfInBounds_toArray, List.set_cons_zero, List.set_cons_succ]
  refine wpAnyH_done (by kernel_rfl) ?_ _
  go_wp2_with fail
  go_ret
  exact ⟨ret_int hv.out, hH3.out.1⟩
theorem bound_calls (F : Nat → Int) (h5 : I (F 5)) (h6 : U (F 6)) (h7 : U (F 7)) (h13 : U (F 13)) (w : World) :
    Calls Try.prog 14 #[.agg #[.int .i64 (F 0), .int .i64 (F 1), .int .i64 (F 2), .int .i64 (F 3), .int .i64 (F 4), .int .i64 (F 5), .int .u64 (F 6), .int .u64 (F 7), .int .i64 (F 8), .int .i64 (F 9), .int .u64 (F 10), .int .i64 (F 11), .int .u64 (F 12), .int .u64 (F 13), .int .i64 (F 14), .int .i64 (F 15)]] w fun e w' => e = .returned (.int .u64 (bnd F)) ∧ Below w.heap.size w w' := by
  have hm : 0 ≤ Sat.mx (F 5) 0 ∧ Sat.mx (F 5) 0 ≤ 9223372036854775807 := by unfold Sat.mx; split <;> omega
  have hn : 0 ≤ Sat.mx (F 5) 0 * F 7 := Int.mul_nonneg hm.1 h7.1
  have hp : U (Sat.mul (Sat.mx (F 5) 0) (F 7)) := by unfold Sat.mul; split <;> omega
  exact bound_core F _ _ _ w h5 rfl (Sat.u64_in (by omega) (by omega)) (hid fun w => C01.mul_calls _ _ hm.1 (by omega) h7.1 (by omega) w) (hid (by intro x hx; simp at hx; omega)) (hid rfl)
def inb (n l u : Int) : Bool := decide (l ≤ n ∧ n ≤ u)
theorem in_calls (n l u : Int) (w : World) : Calls Try.prog 20 #[.int .i64 n, .int .i64 l, .int .i64 u] w fun e w' => e = .returned (.bool (inb n l u)) ∧ w = w' := by
  by_cases h1 : l ≤ n
  · by_cases h2 : n ≤ u
    · have hr : inb n l u = true := decide_eq_true ⟨h1, h2⟩
      rw [hr]
      go_enter Try.func20, Try.ntmps20
      go_wp2_with fail
      go_ret
      exact ⟨ret_bool (by simp), rfl⟩
    · have hr : inb n l u = false := decide_eq_false (by omega)
      have h3 : decide (n ≤ u) = false := decide_eq_false h2
      rw [hr]
      go_enter Try.func20, Try.ntmps20
      go_wp2_with fail
      go_ret
      exact ⟨ret_bool (by simp; try omega), rfl⟩
  · have hr : inb n l u = false := decide_eq_false (by omega)
    have h3 : decide (l ≤ n) = false := decide_eq_false h1
    rw [hr]
    go_enter Try.func20, Try.ntmps20
    go_wp2_with fail
    go_ret
    exact ⟨ret_bool (by simp; try omega), rfl⟩
def tickb (n l : Int) : Bool := decide (l ≤ n ∧ n ≤ 1099511627776)
theorem ticks_calls (n l : Int) (w : World) : Calls Try.prog 22 #[.int .u64 n, .int .u64 l] w fun e w' => e = .returned (.bool (tickb n l)) ∧ w = w' := by
  by_cases h1 : l ≤ n
  · by_cases h2 : n ≤ 1099511627776
    · have hr : tickb n l = true := decide_eq_true ⟨h1, h2⟩
      rw [hr]
      go_enter Try.func22, Try.ntmps22
      go_wp2_with fail
      go_ret
      exact ⟨ret_bool (by simp), rfl⟩
    · have hr : tickb n l = false := decide_eq_false (by omega)
      have h3 : decide (n ≤ 1099511627776) = false := decide_eq_false h2
      rw [hr]
      go_enter Try.func22, Try.ntmps22
      go_wp2_with fail
      go_ret
      exact ⟨ret_bool (by simp; try omega), rfl⟩
  · have hr : tickb n l = false := decide_eq_false (by omega)
    have h3 : decide (l ≤ n) = false := decide_eq_false h1
    rw [hr]
    go_enter Try.func22, Try.ntmps22
    go_wp2_with fail
    go_ret
    exact ⟨ret_bool (by simp; try omega), rfl⟩
def onlyb (is : Bool) (n l u : Int) : Bool := if is then inb n l u else n == 0
theorem only_calls (is : Bool) (n l u : Int) (w : World) : Calls Try.prog 21 #[.bool is, .int .i64 n, .int .i64 l, .int .i64 u] w fun e w' => e = .returned (.bool (onlyb is n l u)) ∧ w = w' := by
  have hI := hid (in_calls n l u)
  cases is
  · have hr : onlyb false n l u = (n == 0) := rfl
    rw [hr]
    go_enter Try.func21, Try.ntmps21
    go_wp2_with fail
    go_ret
    exact ⟨rfl, rfl⟩
  · have hr : onlyb true n l u = inb n l u := rfl
    rw [hr]
    go_enter Try.func21, Try.ntmps21
    go_wp2_with fail
    refine (hI.out _).mono ?_
    rintro e w' ⟨rfl, rfl⟩
    go_wp2_with fail
    go_ret
    exact ⟨rfl, rfl⟩
end Go.Proofs.Ytnednhdbghkcnaa.C08
