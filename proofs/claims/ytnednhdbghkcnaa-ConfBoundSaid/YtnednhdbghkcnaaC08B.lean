/- Check of the package conf: the first field that may not be. -/
import Derived.Test.YtnednhdbghkcnaaC08A
namespace Go.Proofs.Ytnednhdbghkcnaa.C08
open Go.RowKit Go.Proofs.Ytnednhdbghkcnaa
set_option linter.unusedVariables false
set_option linter.unusedSimpArgs false
set_option linter.unnecessarySimpa false
attribute [local go_sem] C01.max2_mx C01.min2_mn C01.max_two C01.min_two
theorem grow (w : World) (o : Obj) : Below w.heap.size w (w.alloc o) := (Below.refl _ _).alloc (Nat.le_refl _) _
theorem ret_int2 {k k' : IntKind} {a b a' b' : Int} (h : a = a') (h2 : b = b') : Ending.returned (.tuple #[.int k a, .int k' b]) = .returned (.tuple #[.int k a', .int k' b']) := by rw [h, h2]
theorem bad_next {p : Nat → Bool} {k : Nat} (hk : k < 16) (h : p k = true) : bad p (16 - k) k = bad p (16 - (k + 1)) (k + 1) := by
  rw [show 16 - k = (16 - (k + 1)) + 1 from by omega, bad, if_pos h]
theorem bad_here {p : Nat → Bool} {k : Nat} (hk : k < 16) (h : p k = false) : bad p (16 - k) k = k + 1 := by
  rw [show 16 - k = (16 - (k + 1)) + 1 from by omega, bad, if_neg (by rw [h]; exact Bool.false_ne_true)]
theorem all16 {w : World} {B : Nat} {G : Nat → Int} (h : w.cell? ⟨B, 0, none⟩ = some (.int .i64 (G 0)) ∧ w.cell? ⟨B, 1, none⟩ = some (.int .i64 (G 1)) ∧ w.cell? ⟨B, 2, none⟩ = some (.int .i64 (G 2)) ∧ w.cell? ⟨B, 3, none⟩ = some (.int .i64 (G 3)) ∧ w.cell? ⟨B, 4, none⟩ = some (.int .i64 (G 4)) ∧ w.cell? ⟨B, 5, none⟩ = some (.int .i64 (G 5)) ∧ w.cell? ⟨B, 6, none⟩ = some (.int .i64 (G 6)) ∧ w.cell? ⟨B, 7, none⟩ = some (.int .i64 (G 7)) ∧ w.cell? ⟨B, 8, none⟩ = some (.int .i64 (G 8)) ∧ w.cell? ⟨B, 9, none⟩ = some (.int .i64 (G 9)) ∧ w.cell? ⟨B, 10, none⟩ = some (.int .i64 (G 10)) ∧ w.cell? ⟨B, 11, none⟩ = some (.int .i64 (G 11)) ∧ w.cell? ⟨B, 12, none⟩ = some (.int .i64 (G 12)) ∧ w.cell? ⟨B, 13, none⟩ = some (.int .i64 (G 13)) ∧ w.cell? ⟨B, 14, none⟩ = some (.int .i64 (G 14)) ∧ w.cell? ⟨B, 15, none⟩ = some (.int .i64 (G 15))) : ∀ j, j < 16 → w.cell? ⟨B, j, none⟩ = some (.int .i64 (G j)) := by
  intro k hk
  have hh : k = 0 ∨ k = 1 ∨ k = 2 ∨ k = 3 ∨ k = 4 ∨ k = 5 ∨ k = 6 ∨ k = 7 ∨ k = 8 ∨ k = 9 ∨ k = 10 ∨ k = 11 ∨ k = 12 ∨ k = 13 ∨ k = 14 ∨ k = 15 := by omega
  obtain ⟨h0, h1, h2, h3, h4, h5, h6, h7, h8, h9, h10, h11, h12, h13, h14, h15⟩ := h
  rcases hh with rfl | rfl | rfl | rfl | rfl | rfl | rfl | rfl | rfl | rfl | rfl | rfl | rfl | rfl | rfl | rfl
  all_goals assumption
set_option maxRecDepth 20000 in
set_option maxHeartbeats 1000000 in
theorem check_core (F G L H : Nat → Int) (p : Nat → Bool) (w : World) (hG : Hid (∀ j, I (G j))) (hL : Hid (∀ j, I (L j) ∧ I (H j))) (hp : Hid (∀ j, p j = decide (L j ≤ G j ∧ G j ≤ H j)))
    (hP : Hid (∀ w, Calls Try.prog 12 #[.agg #[.int .i64 (F 0), .int .i64 (F 1), .int .i64 (F 2), .int .i64 (F 3), .int .i64 (F 4), .int .i64 (F 5), .int .u64 (F 6), .int .u64 (F 7), .int .i64 (F 8), .int .i64 (F 9), .int .u64 (F 10), .int .i64 (F 11), .int .u64 (F 12), .int .u64 (F 13), .int .i64 (F 14), .int .i64 (F 15)]] w fun e w' => e = .returned (.agg #[.int .i64 (G 0), .int .i64 (G 1), .int .i64 (G 2), .int .i64 (G 3), .int .i64 (G 4), .int .i64 (G 5), .int .i64 (G 6), .int .i64 (G 7), .int .i64 (G 8), .int .i64 (G 9), .int .i64 (G 10), .int .i64 (G 11), .int .i64 (G 12), .int .i64 (G 13), .int .i64 (G 14), .int .i64 (G 15)]) ∧ Below w.heap.size w w'))
    (hM : Hid (∀ w, Calls Try.prog 19 #[.agg #[.int .i64 (F 0), .int .i64 (F 1), .int .i64 (F 2), .int .i64 (F 3), .int .i64 (F 4), .int .i64 (F 5), .int .u64 (F 6), .int .u64 (F 7), .int .i64 (F 8), .int .i64 (F 9), .int .u64 (F 10), .int .i64 (F 11), .int .u64 (F 12), .int .u64 (F 13), .int .i64 (F 14), .int .i64 (F 15)]] w fun e w' => e = .returned (.agg #[.int .i64 (L 0), .int .i64 (H 0), .int .i64 (L 1), .int .i64 (H 1), .int .i64 (L 2), .int .i64 (H 2), .int .i64 (L 3), .int .i64 (H 3), .int .i64 (L 4), .int .i64 (H 4), .int .i64 (L 5), .int .i64 (H 5), .int .i64 (L 6), .int .i64 (H 6), .int .i64 (L 7), .int .i64 (H 7), .int .i64 (L 8), .int .i64 (H 8), .int .i64 (L 9), .int .i64 (H 9), .int .i64 (L 10), .int .i64 (H 10), .int .i64 (L 11), .int .i64 (H 11), .int .i64 (L 12), .int .i64 (H 12), .int .i64 (L 13), .int .i64 (H 13), .int .i64 (L 14), .int .i64 (H 14), .int .i64 (L 15), .int .i64 (H 15)]) ∧ Below w.heap.size w w')) :
    Calls Try.prog 10 #[.agg #[.int .i64 (F 0), .int .i64 (F 1), .int .i64 (F 2), .int .i64 (F 3), .int .i64 (F 4), .int .i64 (F 5), .int .u64 (F 6), .int .u64 (F 7), .int .i64 (F 8), .int .i64 (F 9), .int .u64 (F 10), .int .i64 (F 11), .int .u64 (F 12), .int .u64 (F 13), .int .i64 (F 14), .int .i64 (F 15)]] w fun e w' => e = .returned (.tuple #[.int .i64 (bad p 16 0 : Nat), .int .i64 (errno (bad p 16 0))]) ∧ Below w.heap.size w w' := by
  go_enter Try.func10, Try.ntmps10
  go_wp2_with fail
  refine (hP.out _).mono ?_
  rintro e w1 ⟨rfl, hl⟩
  have hc : w1.cell? ⟨w.heap.size, 0, none⟩ = some (.int .i64 (F 0)) ∧ w1.cell? ⟨w.heap.size, 1, none⟩ = some (.int .i64 (F 1)) ∧ w1.cell? ⟨w.heap.size, 2, none⟩ = some (.int .i64 (F 2)) ∧ w1.cell? ⟨w.heap.size, 3, none⟩ = some (.int .i64 (F 3)) ∧ w1.cell? ⟨w.heap.size, 4, none⟩ = some (.int .i64 (F 4)) ∧ w1.cell? ⟨w.heap.size, 5, none⟩ = some (.int .i64 (F 5)) ∧ w1.cell? ⟨w.heap.size, 6, none⟩ = some (.int .u64 (F 6)) ∧ w1.cell? ⟨w.heap.size, 7, none⟩ = some (.int .u64 (F 7)) ∧ w1.cell? ⟨w.heap.size, 8, none⟩ = some (.int .i64 (F 8)) ∧ w1.cell? ⟨w.heap.size, 9, none⟩ = some (.int .i64 (F 9)) ∧ w1.cell? ⟨w.heap.size, 10, none⟩ = some (.int .u64 (F 10)) ∧ w1.cell? ⟨w.heap.size, 11, none⟩ = some (.int .i64 (F 11)) ∧ w1.cell? ⟨w.heap.size, 12, none⟩ = some (.int .u64 (F 12)) ∧ w1.cell? ⟨w.heap.size, 13, none⟩ = some (.int .u64 (F 13)) ∧ w1.cell? ⟨w.heap.size, 14, none⟩ = some (.int .i64 (F 14)) ∧ w1.cell? ⟨w.heap.size, 15, none⟩ = some (.int .i64 (F 15)) := by
    (repeat' apply And.intro) <;> exact cell_of hl (by simp [go_sem])
  obtain ⟨c0, c1, c2, c3, c4, c5, c6, c7, c8, c9, c10, c11, c12, c13, c14, c15⟩ := hc
  have c0 := fun o => cell_of (grow w1 o) c0
  have c1 := fun o => cell_of (grow w1 o) c1
  have c2 := fun o => cell_of (grow w1 o) c2
  have c3 := fun o => cell_of (grow w1 o) c3
  have c4 := fun o => cell_of (grow w1 o) c4
  have c5 := fun o => cell_of (grow w1 o) c5
  have c6 := fun o => cell_of (grow w1 o) c6
  have c7 := fun o => cell_of (grow w1 o) c7
  have c8 := fun o => cell_of (grow w1 o) c8
  have c9 := fun o => cell_of (grow w1 o) c9
  have c10 := fun o => cell_of (grow w1 o) c10
  have c11 := fun o => cell_of (grow w1 o) c11
  have c12 := fun o => cell_of (grow w1 o) c12
  have c13 := fun o => cell_of (grow w1 o) c13
  have c14 := fun o => cell_of (grow w1 o) c14
  have c15 := fun o => cell_of (grow w1 o) c15
  have hb := via ((Below.refl _ _).alloc (Nat.le_refl _) _) hl
  clear hl
  go_wp2_with fail
  refine (hM.out _).mono ?_
  rintro e w2 ⟨rfl, hl⟩
  have hg : w2.cell? ⟨w1.heap.size, 0, none⟩ = some (.int .i64 (G 0)) ∧ w2.cell? ⟨w1.heap.size, 1, none⟩ = some (.int .i64 (G 1)) ∧ w2.cell? ⟨w1.heap.size, 2, none⟩ = some (.int .i64 (G 2)) ∧ w2.cell? ⟨w1.heap.size, 3, none⟩ = some (.int .i64 (G 3)) ∧ w2.cell? ⟨w1.heap.size, 4, none⟩ = some (.int .i64 (G 4)) ∧ w2.cell? ⟨w1.heap.size, 5, none⟩ = some (.int .i64 (G 5)) ∧ w2.cell? ⟨w1.heap.size, 6, none⟩ = some (.int .i64 (G 6)) ∧ w2.cell? ⟨w1.heap.size, 7, none⟩ = some (.int .i64 (G 7)) ∧ w2.cell? ⟨w1.heap.size, 8, none⟩ = some (.int .i64 (G 8)) ∧ w2.cell? ⟨w1.heap.size, 9, none⟩ = some (.int .i64 (G 9)) ∧ w2.cell? ⟨w1.heap.size, 10, none⟩ = some (.int .i64 (G 10)) ∧ w2.cell? ⟨w1.heap.size, 11, none⟩ = some (.int .i64 (G 11)) ∧ w2.cell? ⟨w1.heap.size, 12, none⟩ = some (.int .i64 (G 12)) ∧ w2.cell? ⟨w1.heap.size, 13, none⟩ = some (.int .i64 (G 13)) ∧ w2.cell? ⟨w1.heap.size, 14, none⟩ = some (.int .i64 (G 14)) ∧ w2.cell? ⟨w1.heap.size, 15, none⟩ = some (.int .i64 (G 15)) := by
    (repeat' apply And.intro) <;> exact cell_of hl (by simp [go_sem])
  have Hg := hid (all16 hg)
  have Hb : Hid (Below w.heap.size w w2) := by
    refine via ?_ hl
    repeat (first | exact hb | refine Below.setCell ?_ hb.size _ | refine Below.alloc ?_ (by have := hb.size; simp; try omega) _)
  clear hl hg hb c0 c1 c2 c3 c4 c5 c6 c7 c8 c9 c10 c11 c12 c13 c14 c15
  generalize w1.heap.size = B at *
  go_wp2_with fail
  go_loopw [11] (fun i wr => ∃ k : Nat, k ≤ 16 ∧ i = .int .i64 k ∧ Hid (bad p 16 0 = bad p (16 - k) k) ∧ Hid (Below w.heap.size w wr) ∧ Hid (∀ j, j < 16 → wr.cell? ⟨B, j, none⟩ = some (.int .i64 (G j)))) (fun i _ => 16 - (intOf i).toNat)
  case atStart => exact ⟨0, by omega, rfl, hid rfl, Hb, Hg⟩
  case round =>
    obtain ⟨k, hk, rfl, hbd, hB, hC⟩ := hrel
    by_cases hlt : k < 16
    · have hidx := idx16 L H k hlt
      have hcell := fun o => cell_of (grow wr o) (hC.out k hlt)
      have i1 : 0 ≤ (k : Int) := by omega
      have i2 : (k : Int).toNat = k := by omega
      have g1 := (hG.out k).1
      have g2 := (hG.out k).2
      have l1 := (hL.out k).1
      have l2 := (hL.out k).2
      have hpk := hid (hp.out k)
      have cases3 : G k < L k ∨ (L k ≤ G k ∧ H k < G k) ∨ (L k ≤ G k ∧ G k ≤ H k) := by omega
      have kI : (k : Int) < 16 := by omega
      generalize G k = g at *
      generalize L k = l at *
      generalize H k = u at *
      have B0 := hid hB.out.size
      rcases cases3 with h1 | ⟨h1, h2⟩ | ⟨h1, h2⟩
      · have d1 : decide (g < l) = true := decide_eq_true h1
        have hf : p k = false := by rw [hpk.out]; exact decide_eq_false (by omega)
        have hres : Hid (((k : Int) + 1 = ((bad p 16 0 : Nat) : Int)) ∧ 1 = errno (bad p 16 0)) := by
          show _ ∧ _
          rw [hbd.out, bad_here hlt hf]
          exact ⟨by omega, by unfold errno; rw [if_neg (by omega)]⟩
        go_wp2_with fail
        go_quiet (fail)
        go_wp2_with fail
        go_ret2
        refine ⟨ret_int2 hres.out.1 hres.out.2, ?_⟩
        repeat (first | exact hB.out | refine quietN ?_ _ | refine Below.setCell ?_ B0.out _ | refine Below.alloc ?_ (by have := B0.out; simp; try omega) _)
      · have d1 : decide (g < l) = false := decide_eq_false (by omega)
        have d2 : decide (u < g) = true := decide_eq_true h2
        have hf : p k = false := by rw [hpk.out]; exact decide_eq_false (by omega)
        have hres : Hid (((k : Int) + 1 = ((bad p 16 0 : Nat) : Int)) ∧ 1 = errno (bad p 16 0)) := by
          show _ ∧ _
          rw [hbd.out, bad_here hlt hf]
          exact ⟨by omega, by unfold errno; rw [if_neg (by omega)]⟩
        go_wp2_with fail
        go_quiet (fail)
        go_wp2_with fail
        go_ret2
        refine ⟨ret_int2 hres.out.1 hres.out.2, ?_⟩
        repeat (first | exact hB.out | refine quietN ?_ _ | refine Below.setCell ?_ B0.out _ | refine Below.alloc ?_ (by have := B0.out; simp; try omega) _)
      · have d1 : decide (g < l) = false := decide_eq_false (by omega)
        have d2 : decide (u < g) = false := decide_eq_false (by omega)
        have hf : p k = true := by rw [hpk.out]; exact decide_eq_true ⟨h1, h2⟩
        have hres : Hid (bad p 16 0 = bad p (16 - (k + 1)) (k + 1)) := by show _ = _; rw [hbd.out, bad_next hlt hf]
        go_wp2_with fail
        go_quiet (fail)
        go_wp2_with fail
        go_round
        case rel =>
          refine ⟨k + 1, by omega, by go_num, hres, ?_, ?_⟩
          · refine hid ?_
            repeat (first | exact hB.out | refine quietN ?_ _ | refine Below.setCell ?_ B0.out _ | refine Below.alloc ?_ (by have := B0.out; simp; try omega) _)
          · refine hid fun j hj => cell_of ?_ (hC.out j hj)
            repeat (first | exact Below.refl _ _ | refine quietN ?_ _ | refine Below.setCell ?_ (Nat.le_refl _) _ | refine Below.alloc ?_ (by simp) _)
        case measure => simp [intOf]; omega
    · have hk16 : k = 16 := by omega
      subst hk16
      have hres : Hid (((0 : Int) = ((bad p 16 0 : Nat) : Int)) ∧ 0 = errno (bad p 16 0)) := by
        show _ ∧ _
        rw [hbd.out]
        exact ⟨rfl, rfl⟩
      go_wp2_with fail
      go_ret2
      exact ⟨ret_int2 hres.out.1 hres.out.2, hB.out⟩
end Go.Proofs.Ytnednhdbghkcnaa.C08
