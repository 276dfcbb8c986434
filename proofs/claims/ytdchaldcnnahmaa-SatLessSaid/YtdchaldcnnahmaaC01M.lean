/- The walks of the laws SatLess and SatTells. -/
import Derived.Test.YtdchaldcnnahmaaC01L
namespace Go.Proofs.Ytdchaldcnnahmaa.C01
open Go.RowKit Go.Proofs.Ytdchaldcnnahmaa
set_option linter.unusedVariables false
attribute [local go_sem] max2_mx min2_mn max_two min_two
set_option maxHeartbeats 2000000 in
theorem less_core (n0 n1 m0 m1 p0 p1 : Int) (h : Bool) (w : World)
    (bh : 0 ≤ Sat.mx p0 p1 ∧ Sat.mx p0 p1 ≤ 255) (bl : 0 ≤ Sat.mn p0 p1 ∧ Sat.mn p0 p1 ≤ 255)
    (h1 : Hid (∀ w, Calls Try.prog 18 #[.int .u64 (Sat.mn n0 n1), .int .u64 (Sat.mx m0 m1), .int .i64 (Sat.mx p0 p1)] w fun e w' => e = .returned (.bool h) ∧ w = w'))
    (h2 : Hid (∀ w, Calls Try.prog 18 #[.int .u64 (Sat.mx m0 m1), .int .u64 (Sat.mx m0 m1), .int .i64 100] w fun e w' => e = .returned (.bool true) ∧ w = w'))
    (h3 : Hid (∀ w, Calls Try.prog 18 #[.int .u64 (Sat.mn n0 n1), .int .u64 0, .int .i64 (Sat.mx p0 p1)] w fun e w' => e = .returned (.bool true) ∧ w = w'))
    (h4 : Hid (h = true → ∀ w, Calls Try.prog 18 #[.int .u64 (Sat.mn n0 n1), .int .u64 (Sat.mx m0 m1), .int .i64 (Sat.mn p0 p1)] w fun e w' => e = .returned (.bool true) ∧ w = w'))
    (h5 : Hid (h = true → ∀ w, Calls Try.prog 18 #[.int .u64 (Sat.mx n0 n1), .int .u64 (Sat.mx m0 m1), .int .i64 (Sat.mx p0 p1)] w fun e w' => e = .returned (.bool true) ∧ w = w'))
    (h6 : Hid (h = true → ∀ w, Calls Try.prog 18 #[.int .u64 (Sat.mn n0 n1), .int .u64 (Sat.mn m0 m1), .int .i64 (Sat.mx p0 p1)] w fun e w' => e = .returned (.bool true) ∧ w = w'))
    (h7 : Hid (h = true → ∀ w, Calls Try.prog 18 #[.int .u64 (Sat.mn n0 n1), .int .u64 (Sat.mx m0 m1), .int .i64 (-1)] w fun e w' => e = .returned (.bool true) ∧ w = w')) :
    Calls Try.prog 7 #[.agg #[.int .u64 n0, .int .u64 n1], .agg #[.int .u64 m0, .int .u64 m1], .agg #[.int .u8 p0, .int .u8 p1]] w fun e w' => e = .returned (.bool true) ∧ Below w.heap.size w w' := by
  go_enter Try.func7, Try.ntmps7
  go_wp2_with fail
  refine (awake_calls _).mono ?_
  rintro e w1 ⟨rfl, hb1⟩
  have c1 : w1.cell? ⟨w.heap.size, 0, none⟩ = some (.int .u64 n0) := by rw [hb1.cell (by simp; omega)]; simp [go_sem]
  have c2 : w1.cell? ⟨w.heap.size, 1, none⟩ = some (.int .u64 n1) := by rw [hb1.cell (by simp; omega)]; simp [go_sem]
  have c3 : w1.cell? ⟨w.heap.size + 1, 0, none⟩ = some (.int .u64 m0) := by rw [hb1.cell (by simp)]; simp [go_sem]
  have c4 : w1.cell? ⟨w.heap.size + 1, 1, none⟩ = some (.int .u64 m1) := by rw [hb1.cell (by simp)]; simp [go_sem]
  have c5 : w1.cell? ⟨w.heap.size + 1 + 1, 0, none⟩ = some (.int .u8 p0) := by rw [hb1.cell (by simp)]; simp [go_sem]
  have c6 : w1.cell? ⟨w.heap.size + 1 + 1, 1, none⟩ = some (.int .u8 p1) := by rw [hb1.cell (by simp)]; simp [go_sem]
  have Hb : Hid (Below w.heap.size w w1) := below_via hb1 (by
    refine Below.alloc ?_ (by simp; omega) _
    refine Below.alloc ?_ (by simp) _
    exact (Below.refl _ _).alloc (Nat.le_refl _) _) (by simp; omega)
  clear hb1
  go_wp2_with fail
  refine (h1.out _).mono ?_
  rintro e w' ⟨rfl, rfl⟩
  cases h
  · go_wp2_with fail
    refine (h2.out _).mono ?_
    rintro e w' ⟨rfl, rfl⟩
    go_wp2_with fail
    refine (h3.out _).mono ?_
    rintro e w' ⟨rfl, rfl⟩
    go_wp2_with fail
    go_ret
    exact ⟨rfl, Hb.out⟩
  · go_wp2_with fail
    refine (h4.out trivial _).mono ?_
    rintro e w' ⟨rfl, rfl⟩
    go_wp2_with fail
    refine (h5.out trivial _).mono ?_
    rintro e w' ⟨rfl, rfl⟩
    go_wp2_with fail
    refine (h6.out trivial _).mono ?_
    rintro e w' ⟨rfl, rfl⟩
    go_wp2_with fail
    refine (h7.out trivial _).mono ?_
    rintro e w' ⟨rfl, rfl⟩
    go_wp2_with fail
    go_ret
    exact ⟨rfl, Hb.out⟩
theorem atl_le {a b p a' b' p' : Int} (hb : 0 ≤ b') (hba : b' ≤ b) (ha : a ≤ a') (hp : p' ≤ p) (h : Sat.atl a b p = true) : Sat.atl a' b' p' = true := by
  unfold Sat.atl at *
  rw [decide_eq_true_eq] at *
  have hpp : 0 ≤ Sat.pos p' ∧ Sat.pos p' ≤ Sat.pos p := by unfold Sat.pos; (repeat' split) <;> omega
  have h1 : Sat.pos p' * b' ≤ Sat.pos p * b' := Int.mul_le_mul_of_nonneg_right hpp.2 hb
  have h2 : Sat.pos p * b' ≤ Sat.pos p * b := Int.mul_le_mul_of_nonneg_left hba (by omega)
  omega
theorem satLess_walk {H : Type} {enc : TypeId × Value → H} (w : World) (n0 n1 : Int) (wn0 : (Lit.int .u64 n0).wf = true) (wn1 : (Lit.int .u64 n1).wf = true) (m0 m1 : Int) (wm0 : (Lit.int .u64 m0).wf = true) (wm1 : (Lit.int .u64 m1).wf = true) (p0 p1 : Int) (wp0 : (Lit.int .u8 p0).wf = true) (wp1 : (Lit.int .u8 p1).wf = true) :
    Calls Try.prog 7 #[.agg #[.int .u64 n0, .int .u64 n1], .agg #[.int .u64 m0, .int .u64 m1], .agg #[.int .u8 p0, .int .u8 p1]] w fun e w' => e = .returned (.bool true) ∧ Below w.heap.size w w' := by
  obtain ⟨a0, a1⟩ := Sat.wf_u64 wn0
  obtain ⟨b0, b1⟩ := Sat.wf_u64 wn1
  obtain ⟨c0, c1⟩ := Sat.wf_u64 wm0
  obtain ⟨d0, d1⟩ := Sat.wf_u64 wm1
  obtain ⟨e0, e1⟩ := Sat.wf_u8 wp0
  obtain ⟨f0, f1⟩ := Sat.wf_u8 wp1
  have x1 := Sat.mn_le n0 n1
  have x2 := Sat.mx_ge n0 n1
  have x3 := Sat.mn_or n0 n1
  have x4 := Sat.mx_or n0 n1
  have y1 := Sat.mn_le m0 m1
  have y2 := Sat.mx_ge m0 m1
  have y3 := Sat.mn_or m0 m1
  have y4 := Sat.mx_or m0 m1
  have z1 := Sat.mn_le p0 p1
  have z2 := Sat.mx_ge p0 p1
  have z3 := Sat.mn_or p0 p1
  have z4 := Sat.mx_or p0 p1
  have cast : ∀ {a b p : Int} {r : Bool}, 0 ≤ a → a < 18446744073709551616 → 0 ≤ b → b < 18446744073709551616 → -1 ≤ p → p ≤ 255 → Sat.atl a b p = r → ∀ w, Calls Try.prog 18 #[.int .u64 a, .int .u64 b, .int .i64 p] w fun e w' => e = .returned (.bool r) ∧ w = w' := by
    intro a b p r h1 h2 h3 h4 h5 h6 h7 w
    have := atLeast_calls a b p h1 h2 h3 h4 (by omega) (by omega) w
    rw [h7] at this
    exact this
  refine less_core n0 n1 m0 m1 p0 p1 (Sat.atl (Sat.mn n0 n1) (Sat.mx m0 m1) (Sat.mx p0 p1)) w (by omega) (by omega) (hid (cast (by omega) (by omega) (by omega) (by omega) (by omega) (by omega) rfl)) (hid (cast (by omega) (by omega) (by omega) (by omega) (by omega) (by omega) ?_)) (hid (cast (by omega) (by omega) (by omega) (by omega) (by omega) (by omega) ?_))
    (hid fun h => cast (by omega) (by omega) (by omega) (by omega) (by omega) (by omega) (atl_le (by omega) (by omega) (by omega) (by omega) h)) (hid fun h => cast (by omega) (by omega) (by omega) (by omega) (by omega) (by omega) (atl_le (by omega) (by omega) (by omega) (by omega) h))
    (hid fun h => cast (by omega) (by omega) (by omega) (by omega) (by omega) (by omega) (atl_le (by omega) (by omega) (by omega) (by omega) h)) (hid fun h => cast (by omega) (by omega) (by omega) (by omega) (by omega) (by omega) (atl_le (by omega) (by omega) (by omega) (by omega) h))
  · unfold Sat.atl Sat.pos
    rw [decide_eq_true_eq]
    simp
  · unfold Sat.atl
    rw [decide_eq_true_eq, Int.mul_zero]
    omega
end Go.Proofs.Ytdchaldcnnahmaa.C01
