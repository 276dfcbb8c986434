/- The examples' function of chapter 16 answers true; the walks of the laws HealthTells and HealthSums. -/
import Derived.Test.YtiplgihdgckbaaaC16
namespace Go.Proofs.Ytiplgihdgckbaaa.C16
open Go.RowKit Go.Proofs.Ytiplgihdgckbaaa
set_option linter.unusedVariables false
set_option linter.unusedSimpArgs false
set_option linter.unnecessarySimpa false
attribute [local go_sem] C01.max2_mx C01.min2_mn C01.max_two C01.min_two
def kindN (c : Int) : Int := if 1 ≤ c ∧ c ≤ 4 then c else 0
def kindB (c : Int) : Bool := decide (1 ≤ c ∧ c ≤ 4)
theorem ret_ib {k : IntKind} {a a' : Int} {b b' : Bool} (h : a = a') (h2 : b = b') : Ending.returned (.tuple #[.int k a, .bool b]) = .returned (.tuple #[.int k a', .bool b']) := by rw [h, h2]
theorem kind_calls (c : Int) (h : I c) (w : World) : Calls Try.prog 10 #[.int .i64 c] w fun e w' => e = .returned (.tuple #[.int .i64 (kindN c), .bool (kindB c)]) ∧ w = w' := by
  have hc : c = 1 ∨ c = 2 ∨ c = 3 ∨ c = 4 ∨ (kindN c = 0 ∧ kindB c = false ∧ (c == 1) = false ∧ (c == 2) = false ∧ (c == 3) = false ∧ (c == 4) = false) := by
    by_cases hk : 1 ≤ c ∧ c ≤ 4
    · omega
    · refine .inr (.inr (.inr (.inr ⟨by unfold kindN; rw [if_neg hk], by unfold kindB; rw [decide_eq_false hk], ?_, ?_, ?_, ?_⟩))) <;> (rw [beq_eq_false_iff_ne]; omega)
  rcases hc with rfl | rfl | rfl | rfl | ⟨k1, k2, n1, n2, n3, n4⟩
  all_goals
    first | rw [k1, k2] | skip
    go_enter Try.func10, Try.ntmps10
    go_wp2_with fail
    go_ret2
    exact ⟨rfl, rfl⟩
theorem rkind_calls (c : Int) (h : I c) (w : World) : Calls Try.prog 11 #[.int .i64 c] w fun e w' => e = .returned (.tuple #[.int .i64 (kindN c), .bool (kindB c)]) ∧ w = w' := by
  have hc : c < 1 ∧ kindN c = 0 ∧ kindB c = false ∨ 4 < c ∧ kindN c = 0 ∧ kindB c = false ∨ 1 ≤ c ∧ c ≤ 4 ∧ kindN c = c ∧ kindB c = true := by
    by_cases hk : 1 ≤ c ∧ c ≤ 4
    · exact .inr (.inr ⟨hk.1, hk.2, by unfold kindN; rw [if_pos hk], by unfold kindB; rw [decide_eq_true hk]⟩)
    · have k1 : kindN c = 0 := by unfold kindN; rw [if_neg hk]
      have k2 : kindB c = false := by unfold kindB; rw [decide_eq_false hk]
      rcases Int.lt_or_le c 1 with h1 | h1
      · exact .inl ⟨h1, k1, k2⟩
      · exact .inr (.inl ⟨by omega, k1, k2⟩)
  rcases hc with ⟨h1, k1, k2⟩ | ⟨h1, k1, k2⟩ | ⟨h1, h2, k1, k2⟩
  all_goals
    rw [k1, k2]
    go_enter Try.func11, Try.ntmps11
    go_wp2_with fail
    go_ret2
    exact ⟨rfl, rfl⟩
def F1 : Nat → Int := fun i => if i = 8 then 4 else if i = 9 then 50 else 0
def F2 : Nat → Int := fun i => if i = 8 then 4 else if i = 9 then 51 else 0
def F3 : Nat → Int := fun i => if i = 8 then 5 else 0
theorem awake_nums : err 1 1 0 = 2 ∧ vol 2 1 1 0 = 4 ∧ opens 2 1 1 0 4 50 = true ∧ opens 2 1 1 0 4 51 = false ∧ opens 2 1 1 0 5 0 = false ∧ kindN 2 = 2 ∧ kindB 2 = true := by decide +kernel
set_option maxHeartbeats 1000000 in
theorem awake_calls (w : World) : Calls Try.prog 9 #[] w fun e w' => e = .returned (.bool true) ∧ Below w.heap.size w w' := by
  obtain ⟨n1, n2, n3, n4, n5, n6, n7⟩ := awake_nums
  have keepS := hid (fun (w1 w2 : World) (hS : Below w.heap.size w w1 ∧ w1.cell? ⟨w.heap.size, 0, none⟩ = some (.int .u64 2) ∧ w1.cell? ⟨w.heap.size, 1, none⟩ = some (.int .u64 1) ∧ w1.cell? ⟨w.heap.size, 2, none⟩ = some (.int .u64 1) ∧ w1.cell? ⟨w.heap.size, 3, none⟩ = some (.int .u64 0) ∧ w1.cell? ⟨w.heap.size, 4, none⟩ = some (.int .u64 9)) (hl : Below w1.heap.size w1 w2) =>
    (show Below w.heap.size w w2 ∧ w2.cell? ⟨w.heap.size, 0, none⟩ = some (.int .u64 2) ∧ w2.cell? ⟨w.heap.size, 1, none⟩ = some (.int .u64 1) ∧ w2.cell? ⟨w.heap.size, 2, none⟩ = some (.int .u64 1) ∧ w2.cell? ⟨w.heap.size, 3, none⟩ = some (.int .u64 0) ∧ w2.cell? ⟨w.heap.size, 4, none⟩ = some (.int .u64 9) from ⟨via hS.1 hl, cell_of hl hS.2.1, cell_of hl hS.2.2.1, cell_of hl hS.2.2.2.1, cell_of hl hS.2.2.2.2.1, cell_of hl hS.2.2.2.2.2⟩))
  have hO1 := hid (opens_calls 2 1 1 0 9 (by omega) (by omega) (by omega) (by omega) (by omega) F1 (by decide) (by decide))
  have hO2 := hid (opens_calls 2 1 1 0 9 (by omega) (by omega) (by omega) (by omega) (by omega) F2 (by decide) (by decide))
  have hO3 := hid (opens_calls 2 1 1 0 9 (by omega) (by omega) (by omega) (by omega) (by omega) F3 (by decide) (by decide))
  rw [show F1 8 = 4 from rfl, show F1 9 = 50 from rfl, n3] at hO1
  rw [show F2 8 = 4 from rfl, show F2 9 = 51 from rfl, n4] at hO2
  rw [show F3 8 = 5 from rfl, show F3 9 = 0 from rfl, n5] at hO3
  go_enter Try.func9, Try.ntmps9
  go_wp2_with fail
  refine (kind_calls 2 (by omega) _).mono ?_
  rintro e w' ⟨rfl, rfl⟩
  rw [n6, n7]
  go_wp2_with fail
  refine (errors_calls 2 1 1 0 9 (by omega) (by omega) (by omega) _).mono ?_
  rintro e w1 ⟨rfl, hl⟩
  rw [n1]
  have hS := keepS.out _ _ ⟨by (repeat (first | exact Below.refl _ _ | refine Below.setCell ?_ (Nat.le_refl _) _ | refine Below.alloc ?_ (by simp) _)), by simp [go_sem]⟩ hl
  obtain ⟨hb, c0, c1, c2, c3, c4⟩ := hS
  clear hl
  go_wp2_with fail
  refine (volume_calls 2 1 1 0 9 (by omega) (by omega) (by omega) (by omega) _).mono ?_
  rintro e w2 ⟨rfl, hl⟩
  rw [n2]
  have hS := keepS.out _ _ ⟨hb, c0, c1, c2, c3, c4⟩ hl
  clear hl hb c0 c1 c2 c3 c4
  obtain ⟨hb, c0, c1, c2, c3, c4⟩ := hS
  go_wp2_with fail
  refine (hO1.out _).mono ?_
  rintro e w3 ⟨rfl, hl⟩
  have hS := keepS.out _ _ ⟨hb, c0, c1, c2, c3, c4⟩ hl
  clear hl hb c0 c1 c2 c3 c4
  obtain ⟨hb, c0, c1, c2, c3, c4⟩ := hS
  go_wp2_with fail
  refine (hO2.out _).mono ?_
  rintro e w4 ⟨rfl, hl⟩
  have hS := keepS.out _ _ ⟨hb, c0, c1, c2, c3, c4⟩ hl
  clear hl hb c0 c1 c2 c3 c4
  obtain ⟨hb, c0, c1, c2, c3, c4⟩ := hS
  go_wp2_with fail
  refine (hO3.out _).mono ?_
  rintro e w5 ⟨rfl, hl⟩
  have hS := keepS.out _ _ ⟨hb, c0, c1, c2, c3, c4⟩ hl
  clear hl hb c0 c1 c2 c3 c4
  obtain ⟨hb, c0, c1, c2, c3, c4⟩ := hS
  go_wp2_with fail
  go_ret
  exact ⟨rfl, hb⟩
end Go.Proofs.Ytiplgihdgckbaaa.C16
