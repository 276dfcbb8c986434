/- The walk of the law HealthSums. -/
import Derived.Test.YtiplgihdgckbaaaC16B
namespace Go.Proofs.Ytiplgihdgckbaaa.C16
open Go.RowKit Go.Proofs.Ytiplgihdgckbaaa
set_option linter.unusedVariables false
set_option linter.unusedSimpArgs false
set_option linter.unnecessarySimpa false
attribute [local go_sem] C01.max2_mx C01.min2_mn C01.max_two C01.min_two
theorem sums_plain {a b c d : Int} (h0 : U a) (h1 : U b) (h2 : U c) (h3 : U d) : err b c d ≤ vol a b c d ∧ b ≤ err b c d ∧ c ≤ err b c d ∧ d ≤ err b c d ∧ a ≤ vol a b c d ∧ Sat.sum [a, b, c, d] = vol a b c d := by
  have hs : Sat.sum [a, b, c, d] = Sat.cap (a + (b + c + d)) := by
    rw [Sat.sum_cap (by intro x hx; simp at hx; omega)]
    simp [Int.add_assoc]
  have he : err b c d = Sat.cap (b + c + d) := by
    unfold err
    rw [Sat.sum_cap (by intro x hx; simp at hx; omega)]
    simp [Int.add_assoc]
  have hv : vol a b c d = Sat.cap (a + (b + c + d)) := by
    unfold vol
    rw [he, Sat.add_comm, Sat.add_cap (by omega) (by omega), Int.add_comm]
  rw [hs, hv, he]
  unfold Sat.cap
  (repeat' split) <;> omega
set_option maxHeartbeats 2000000 in
theorem sums_core (a b c d e0 x v : Int) (h0 : U a) (h1 : U b) (h2 : U c) (h3 : U d) (w : World) (l1 : x ≤ v) (l2 : b ≤ x) (l3 : c ≤ x) (l4 : d ≤ x) (l5 : a ≤ v)
    (hE : Hid (∀ w, Calls Try.prog 12 #[.agg #[.int .u64 a, .int .u64 b, .int .u64 c, .int .u64 d, .int .u64 e0]] w fun e w' => e = .returned (.int .u64 x) ∧ Below w.heap.size w w'))
    (hV : Hid (∀ w, Calls Try.prog 14 #[.agg #[.int .u64 a, .int .u64 b, .int .u64 c, .int .u64 d, .int .u64 e0]] w fun e w' => e = .returned (.int .u64 v) ∧ Below w.heap.size w w'))
    (hs : Hid (Sat.sum [a, b, c, d] = v)) :
    Calls Try.prog 6 #[.agg #[.int .u64 a, .int .u64 b, .int .u64 c, .int .u64 d, .int .u64 e0]] w fun e w' => e = .returned (.bool true) ∧ Below w.heap.size w w' := by
  have keepS := hid (fun (w1 w2 : World) (hS : Below w.heap.size w w1 ∧ w1.cell? ⟨w.heap.size, 0, none⟩ = some (.int .u64 a) ∧ w1.cell? ⟨w.heap.size, 1, none⟩ = some (.int .u64 b) ∧ w1.cell? ⟨w.heap.size, 2, none⟩ = some (.int .u64 c) ∧ w1.cell? ⟨w.heap.size, 3, none⟩ = some (.int .u64 d) ∧ w1.cell? ⟨w.heap.size, 4, none⟩ = some (.int .u64 e0)) (hl : Below w1.heap.size w1 w2) =>
    (show Below w.heap.size w w2 ∧ w2.cell? ⟨w.heap.size, 0, none⟩ = some (.int .u64 a) ∧ w2.cell? ⟨w.heap.size, 1, none⟩ = some (.int .u64 b) ∧ w2.cell? ⟨w.heap.size, 2, none⟩ = some (.int .u64 c) ∧ w2.cell? ⟨w.heap.size, 3, none⟩ = some (.int .u64 d) ∧ w2.cell? ⟨w.heap.size, 4, none⟩ = some (.int .u64 e0) by
      obtain ⟨hB, h⟩ := hS
      refine ⟨via hB hl, ?_⟩
      revert h
      simp only [and_imp]
      intros
      (repeat' apply And.intro) <;> exact cell_of hl (by assumption)))
  go_enter Try.func6, Try.ntmps6
  go_wp2_with fail
  refine (awake_calls _).mono ?_
  rintro e w1 ⟨rfl, hl⟩
  have hS := keepS.out _ _ ⟨(Below.refl _ _).alloc (Nat.le_refl _) _, by simp [go_sem]⟩ hl
  obtain ⟨hb, c0, c1, c2, c3, c4⟩ := hS
  clear hl
  go_wp2_with fail
  refine (hE.out _).mono ?_
  rintro e w2 ⟨rfl, hl⟩
  have hS := keepS.out _ _ ⟨hb, c0, c1, c2, c3, c4⟩ hl
  clear hl hb c0 c1 c2 c3 c4
  obtain ⟨hb, c0, c1, c2, c3, c4⟩ := hS
  go_wp2_with fail
  refine (hV.out _).mono ?_
  rintro e w3 ⟨rfl, hl⟩
  have hS := keepS.out _ _ ⟨hb, c0, c1, c2, c3, c4⟩ hl
  clear hl hb c0 c1 c2 c3 c4
  obtain ⟨hb, c0, c1, c2, c3, c4⟩ := hS
  go_wp2_with fail
  refine (C01.rsum_calls [a, b, c, d] (some ⟨w.heap.size, 0, none⟩) 5 _ (by simp) (by intro x hx; simp at hx; omega) ?_).mono ?_
  · refine .inr ⟨_, _, rfl, ?_⟩
    intro i hi
    match i, hi with
    | 0, _ => simpa using c0
    | 1, _ => simpa using c1
    | 2, _ => simpa using c2
    | 3, _ => simpa using c3
  rintro e w' ⟨rfl, rfl⟩
  rw [hs.out]
  go_wp2_with fail
  go_ret
  exact ⟨ret_bool (by simp), hb⟩
theorem healthSums_walk {H : Type} {enc : TypeId × Value → H} (W : World) (a0_0 : Int) (a0_1 : Int) (a0_2 : Int) (a0_3 : Int) (a0_4 : Int) (w0_0 : (Lit.int .u64 a0_0).wf = true) (w0_1 : (Lit.int .u64 a0_1).wf = true) (w0_2 : (Lit.int .u64 a0_2).wf = true) (w0_3 : (Lit.int .u64 a0_3).wf = true) (w0_4 : (Lit.int .u64 a0_4).wf = true) :
    Calls Try.prog 6 #[.agg #[.int .u64 a0_0, .int .u64 a0_1, .int .u64 a0_2, .int .u64 a0_3, .int .u64 a0_4]] W fun e w' => e = .returned (.bool true) ∧ Below W.heap.size W w' := by
  have p0 := u_of w0_0
  have p1 := u_of w0_1
  have p2 := u_of w0_2
  have p3 := u_of w0_3
  obtain ⟨l1, l2, l3, l4, l5, hs⟩ := sums_plain p0 p1 p2 p3
  exact sums_core a0_0 a0_1 a0_2 a0_3 a0_4 _ _ p0 p1 p2 p3 W l1 l2 l3 l4 l5 (hid (errors_calls _ _ _ _ _ p1 p2 p3)) (hid (volume_calls _ _ _ _ _ p0 p1 p2 p3)) (hid hs)
end Go.Proofs.Ytiplgihdgckbaaa.C16
