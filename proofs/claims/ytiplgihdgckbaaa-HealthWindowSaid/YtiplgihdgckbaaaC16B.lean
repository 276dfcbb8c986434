/- The walk of the law HealthTells. -/
import Derived.Test.YtiplgihdgckbaaaC16A
namespace Go.Proofs.Ytiplgihdgckbaaa.C16
open Go.RowKit Go.Proofs.Ytiplgihdgckbaaa
set_option linter.unusedVariables false
set_option linter.unusedSimpArgs false
set_option linter.unnecessarySimpa false
attribute [local go_sem] C01.max2_mx C01.min2_mn C01.max_two C01.min_two
theorem keep_and {A B C : Prop} (h : A → B → C) : A ∧ B → C := fun x => h x.1 x.2
set_option maxHeartbeats 4000000 in
theorem tells_core (a b c d e0 x v cause n : Int) (o is : Bool) (F : Nat → Int) (w : World)
    (hE : Hid (∀ w, Calls Try.prog 12 #[.agg #[.int .u64 a, .int .u64 b, .int .u64 c, .int .u64 d, .int .u64 e0]] w fun e w' => e = .returned (.int .u64 x) ∧ Below w.heap.size w w'))
    (hE2 : Hid (∀ w, Calls Try.prog 13 #[.agg #[.int .u64 a, .int .u64 b, .int .u64 c, .int .u64 d, .int .u64 e0]] w fun e w' => e = .returned (.int .u64 x) ∧ Below w.heap.size w w'))
    (hV : Hid (∀ w, Calls Try.prog 14 #[.agg #[.int .u64 a, .int .u64 b, .int .u64 c, .int .u64 d, .int .u64 e0]] w fun e w' => e = .returned (.int .u64 v) ∧ Below w.heap.size w w'))
    (hV2 : Hid (∀ w, Calls Try.prog 15 #[.agg #[.int .u64 a, .int .u64 b, .int .u64 c, .int .u64 d, .int .u64 e0]] w fun e w' => e = .returned (.int .u64 v) ∧ Below w.heap.size w w'))
    (hO : Hid (∀ w, Calls Try.prog 16 #[.agg #[.int .u64 a, .int .u64 b, .int .u64 c, .int .u64 d, .int .u64 e0], .agg #[.int .i64 (F 0), .int .i64 (F 1), .int .i64 (F 2), .int .i64 (F 3), .int .i64 (F 4), .int .i64 (F 5), .int .u64 (F 6), .int .u64 (F 7), .int .i64 (F 8), .int .i64 (F 9), .int .u64 (F 10), .int .i64 (F 11), .int .u64 (F 12), .int .u64 (F 13), .int .i64 (F 14), .int .i64 (F 15)]] w fun e w' => e = .returned (.bool o) ∧ Below w.heap.size w w'))
    (hO2 : Hid (∀ w, Calls Try.prog 17 #[.agg #[.int .u64 a, .int .u64 b, .int .u64 c, .int .u64 d, .int .u64 e0], .agg #[.int .i64 (F 0), .int .i64 (F 1), .int .i64 (F 2), .int .i64 (F 3), .int .i64 (F 4), .int .i64 (F 5), .int .u64 (F 6), .int .u64 (F 7), .int .i64 (F 8), .int .i64 (F 9), .int .u64 (F 10), .int .i64 (F 11), .int .u64 (F 12), .int .u64 (F 13), .int .i64 (F 14), .int .i64 (F 15)]] w fun e w' => e = .returned (.bool o) ∧ Below w.heap.size w w'))
    (hK : Hid (∀ w, Calls Try.prog 10 #[.int .i64 cause] w fun e w' => e = .returned (.tuple #[.int .i64 n, .bool is]) ∧ w = w'))
    (hK2 : Hid (∀ w, Calls Try.prog 11 #[.int .i64 cause] w fun e w' => e = .returned (.tuple #[.int .i64 n, .bool is]) ∧ w = w')) :
    Calls Try.prog 3 #[.agg #[.int .u64 a, .int .u64 b, .int .u64 c, .int .u64 d, .int .u64 e0], .agg #[.int .i64 (F 0), .int .i64 (F 1), .int .i64 (F 2), .int .i64 (F 3), .int .i64 (F 4), .int .i64 (F 5), .int .u64 (F 6), .int .u64 (F 7), .int .i64 (F 8), .int .i64 (F 9), .int .u64 (F 10), .int .i64 (F 11), .int .u64 (F 12), .int .u64 (F 13), .int .i64 (F 14), .int .i64 (F 15)], .int .i64 cause] w fun e w' => e = .returned (.bool true) ∧ Below w.heap.size w w' := by
  have keepS := hid (fun (w1 w2 : World) (hS : Below w.heap.size w w1 ∧ (w1.cell? ⟨w.heap.size, 0, none⟩ = some (.int .u64 a) ∧ w1.cell? ⟨w.heap.size, 1, none⟩ = some (.int .u64 b) ∧ w1.cell? ⟨w.heap.size, 2, none⟩ = some (.int .u64 c) ∧ w1.cell? ⟨w.heap.size, 3, none⟩ = some (.int .u64 d) ∧ w1.cell? ⟨w.heap.size, 4, none⟩ = some (.int .u64 e0)) ∧ (w1.cell? ⟨w.heap.size + 1, 0, none⟩ = some (.int .i64 (F 0)) ∧ w1.cell? ⟨w.heap.size + 1, 1, none⟩ = some (.int .i64 (F 1)) ∧ w1.cell? ⟨w.heap.size + 1, 2, none⟩ = some (.int .i64 (F 2)) ∧ w1.cell? ⟨w.heap.size + 1, 3, none⟩ = some (.int .i64 (F 3)) ∧ w1.cell? ⟨w.heap.size + 1, 4, none⟩ = some (.int .i64 (F 4)) ∧ w1.cell? ⟨w.heap.size + 1, 5, none⟩ = some (.int .i64 (F 5)) ∧ w1.cell? ⟨w.heap.size + 1, 6, none⟩ = some (.int .u64 (F 6)) ∧ w1.cell? ⟨w.heap.size + 1, 7, none⟩ = some (.int .u64 (F 7)) ∧ w1.cell? ⟨w.heap.size + 1, 8, none⟩ = some (.int .i64 (F 8)) ∧ w1.cell? ⟨w.heap.size + 1, 9, none⟩ = some (.int .i64 (F 9)) ∧ w1.cell? ⟨w.heap.size + 1, 10, none⟩ = some (.int .u64 (F 10)) ∧ w1.cell? ⟨w.heap.size + 1, 11, none⟩ = some (.int .i64 (F 11)) ∧ w1.cell? ⟨w.heap.size + 1, 12, none⟩ = some (.int .u64 (F 12)) ∧ w1.cell? ⟨w.heap.size + 1, 13, none⟩ = some (.int .u64 (F 13)) ∧ w1.cell? ⟨w.heap.size + 1, 14, none⟩ = some (.int .i64 (F 14)) ∧ w1.cell? ⟨w.heap.size + 1, 15, none⟩ = some (.int .i64 (F 15)))) (hl : Below w1.heap.size w1 w2) =>
    (show Below w.heap.size w w2 ∧ (w2.cell? ⟨w.heap.size, 0, none⟩ = some (.int .u64 a) ∧ w2.cell? ⟨w.heap.size, 1, none⟩ = some (.int .u64 b) ∧ w2.cell? ⟨w.heap.size, 2, none⟩ = some (.int .u64 c) ∧ w2.cell? ⟨w.heap.size, 3, none⟩ = some (.int .u64 d) ∧ w2.cell? ⟨w.heap.size, 4, none⟩ = some (.int .u64 e0)) ∧ (w2.cell? ⟨w.heap.size + 1, 0, none⟩ = some (.int .i64 (F 0)) ∧ w2.cell? ⟨w.heap.size + 1, 1, none⟩ = some (.int .i64 (F 1)) ∧ w2.cell? ⟨w.heap.size + 1, 2, none⟩ = some (.int .i64 (F 2)) ∧ w2.cell? ⟨w.heap.size + 1, 3, none⟩ = some (.int .i64 (F 3)) ∧ w2.cell? ⟨w.heap.size + 1, 4, none⟩ = some (.int .i64 (F 4)) ∧ w2.cell? ⟨w.heap.size + 1, 5, none⟩ = some (.int .i64 (F 5)) ∧ w2.cell? ⟨w.heap.size + 1, 6, none⟩ = some (.int .u64 (F 6)) ∧ w2.cell? ⟨w.heap.size + 1, 7, none⟩ = some (.int .u64 (F 7)) ∧ w2.cell? ⟨w.heap.size + 1, 8, none⟩ = some (.int .i64 (F 8)) ∧ w2.cell? ⟨w.heap.size + 1, 9, none⟩ = some (.int .i64 (F 9)) ∧ w2.cell? ⟨w.heap.size + 1, 10, none⟩ = some (.int .u64 (F 10)) ∧ w2.cell? ⟨w.heap.size + 1, 11, none⟩ = some (.int .i64 (F 11)) ∧ w2.cell? ⟨w.heap.size + 1, 12, none⟩ = some (.int .u64 (F 12)) ∧ w2.cell? ⟨w.heap.size + 1, 13, none⟩ = some (.int .u64 (F 13)) ∧ w2.cell? ⟨w.heap.size + 1, 14, none⟩ = some (.int .i64 (F 14)) ∧ w2.cell? ⟨w.heap.size + 1, 15, none⟩ = some (.int .i64 (F 15))) by
      obtain ⟨hB, h⟩ := hS
      refine ⟨via hB hl, ?_⟩
      revert h
      simp only [and_imp]
      intros
      (repeat' apply And.intro) <;> exact cell_of hl (by assumption)))
  go_enter Try.func3, Try.ntmps3
  go_wp2_with fail
  refine (awake_calls _).mono ?_
  rintro e w1 ⟨rfl, hb⟩
  have hS1 := keepS.out _ _ ⟨((Below.refl _ _).alloc (Nat.le_refl _) _).alloc (by simp) _, by simp [go_sem]⟩ hb
  clear hb
  go_wp2_with fail
  refine (hK.out _).mono ?_
  rintro e w' ⟨rfl, rfl⟩
  go_wp2_with fail
  refine (hK2.out _).mono ?_
  rintro e w' ⟨rfl, rfl⟩
  go_wp2_with fail
  go_region_held3 (fun w' => Below w.heap.size w w' ∧ (w'.cell? ⟨w.heap.size, 0, none⟩ = some (.int .u64 a) ∧ w'.cell? ⟨w.heap.size, 1, none⟩ = some (.int .u64 b) ∧ w'.cell? ⟨w.heap.size, 2, none⟩ = some (.int .u64 c) ∧ w'.cell? ⟨w.heap.size, 3, none⟩ = some (.int .u64 d) ∧ w'.cell? ⟨w.heap.size, 4, none⟩ = some (.int .u64 e0)) ∧ (w'.cell? ⟨w.heap.size + 1, 0, none⟩ = some (.int .i64 (F 0)) ∧ w'.cell? ⟨w.heap.size + 1, 1, none⟩ = some (.int .i64 (F 1)) ∧ w'.cell? ⟨w.heap.size + 1, 2, none⟩ = some (.int .i64 (F 2)) ∧ w'.cell? ⟨w.heap.size + 1, 3, none⟩ = some (.int .i64 (F 3)) ∧ w'.cell? ⟨w.heap.size + 1, 4, none⟩ = some (.int .i64 (F 4)) ∧ w'.cell? ⟨w.heap.size + 1, 5, none⟩ = some (.int .i64 (F 5)) ∧ w'.cell? ⟨w.heap.size + 1, 6, none⟩ = some (.int .u64 (F 6)) ∧ w'.cell? ⟨w.heap.size + 1, 7, none⟩ = some (.int .u64 (F 7)) ∧ w'.cell? ⟨w.heap.size + 1, 8, none⟩ = some (.int .i64 (F 8)) ∧ w'.cell? ⟨w.heap.size + 1, 9, none⟩ = some (.int .i64 (F 9)) ∧ w'.cell? ⟨w.heap.size + 1, 10, none⟩ = some (.int .u64 (F 10)) ∧ w'.cell? ⟨w.heap.size + 1, 11, none⟩ = some (.int .i64 (F 11)) ∧ w'.cell? ⟨w.heap.size + 1, 12, none⟩ = some (.int .u64 (F 12)) ∧ w'.cell? ⟨w.heap.size + 1, 13, none⟩ = some (.int .u64 (F 13)) ∧ w'.cell? ⟨w.heap.size + 1, 14, none⟩ = some (.int .i64 (F 14)) ∧ w'.cell? ⟨w.heap.size + 1, 15, none⟩ = some (.int .i64 (F 15)))) (first | exact keepS.out _ _ hS1 (quiet _) | exact keepS.out _ _ (by assumption) (by assumption) | assumption)
    (first
    | (go_at_call 12; refine (hE.out _).mono ?_; rintro e w' ⟨rfl, hl⟩)
    | (go_at_call 13; refine (hE2.out _).mono ?_; rintro e w' ⟨rfl, hl⟩)
    | (go_at_call 14; refine (hV.out _).mono ?_; rintro e w' ⟨rfl, hl⟩)
    | (go_at_call 15; refine (hV2.out _).mono ?_; rintro e w' ⟨rfl, hl⟩)
    | (go_at_call 16; refine (hO.out _).mono ?_; rintro e w' ⟨rfl, hl⟩)
    | (go_at_call 17; refine (hO2.out _).mono ?_; rintro e w' ⟨rfl, hl⟩))
  all_goals
    rename_i hHeld
    go_wp2_with fail
    go_ret
    exact ⟨ret_bool (by simp), hHeld.1⟩
/-- Sixteen numbers by their place. -/
def pick (f0 f1 f2 f3 f4 f5 f6 f7 f8 f9 f10 f11 f12 f13 f14 f15 : Int) : Nat → Int
  | 0 => f0 | 1 => f1 | 2 => f2 | 3 => f3 | 4 => f4 | 5 => f5 | 6 => f6 | 7 => f7 | 8 => f8 | 9 => f9 | 10 => f10 | 11 => f11 | 12 => f12 | 13 => f13 | 14 => f14 | _ => f15
theorem u_of {x : Int} (h : (Lit.int .u64 x).wf = true) : U x := by have := Sat.wf_u64 h; omega
theorem i_of {x : Int} (h : (Lit.int .i64 x).wf = true) : I x := Sat.wf_i64 h
theorem healthTells_walk {H : Type} {enc : TypeId × Value → H} (W : World) (a0_0 : Int) (a0_1 : Int) (a0_2 : Int) (a0_3 : Int) (a0_4 : Int) (w0_0 : (Lit.int .u64 a0_0).wf = true) (w0_1 : (Lit.int .u64 a0_1).wf = true) (w0_2 : (Lit.int .u64 a0_2).wf = true) (w0_3 : (Lit.int .u64 a0_3).wf = true) (w0_4 : (Lit.int .u64 a0_4).wf = true) (a1_0 : Int) (a1_1 : Int) (a1_2 : Int) (a1_3 : Int) (a1_4 : Int) (a1_5 : Int) (a1_6 : Int) (a1_7 : Int) (a1_8 : Int) (a1_9 : Int) (a1_10 : Int) (a1_11 : Int) (a1_12 : Int) (a1_13 : Int) (a1_14 : Int) (a1_15 : Int) (w1_0 : (Lit.int .i64 a1_0).wf = true) (w1_1 : (Lit.int .i64 a1_1).wf = true) (w1_2 : (Lit.int .i64 a1_2).wf = true) (w1_3 : (Lit.int .i64 a1_3).wf = true) (w1_4 : (Lit.int .i64 a1_4).wf = true) (w1_5 : (Lit.int .i64 a1_5).wf = true) (w1_6 : (Lit.int .u64 a1_6).wf = true) (w1_7 : (Lit.int .u64 a1_7).wf = true) (w1_8 : (Lit.int .i64 a1_8).wf = true) (w1_9 : (Lit.int .i64 a1_9).wf = true) (w1_10 : (Lit.int .u64 a1_10).wf = true) (w1_11 : (Lit.int .i64 a1_11).wf = true) (w1_12 : (Lit.int .u64 a1_12).wf = true) (w1_13 : (Lit.int .u64 a1_13).wf = true) (w1_14 : (Lit.int .i64 a1_14).wf = true) (w1_15 : (Lit.int .i64 a1_15).wf = true) (a2 : Int) (w2 : (Lit.int .i64 a2).wf = true) :
    Calls Try.prog 3 #[.agg #[.int .u64 a0_0, .int .u64 a0_1, .int .u64 a0_2, .int .u64 a0_3, .int .u64 a0_4], .agg #[.int .i64 a1_0, .int .i64 a1_1, .int .i64 a1_2, .int .i64 a1_3, .int .i64 a1_4, .int .i64 a1_5, .int .u64 a1_6, .int .u64 a1_7, .int .i64 a1_8, .int .i64 a1_9, .int .u64 a1_10, .int .i64 a1_11, .int .u64 a1_12, .int .u64 a1_13, .int .i64 a1_14, .int .i64 a1_15], .int .i64 a2] W fun e w' => e = .returned (.bool true) ∧ Below W.heap.size W w' := by
  have p0 := u_of w0_0
  have p1 := u_of w0_1
  have p2 := u_of w0_2
  have p3 := u_of w0_3
  have p4 := u_of w0_4
  have q8 : I (pick a1_0 a1_1 a1_2 a1_3 a1_4 a1_5 a1_6 a1_7 a1_8 a1_9 a1_10 a1_11 a1_12 a1_13 a1_14 a1_15 8) := i_of w1_8
  have q9 : I (pick a1_0 a1_1 a1_2 a1_3 a1_4 a1_5 a1_6 a1_7 a1_8 a1_9 a1_10 a1_11 a1_12 a1_13 a1_14 a1_15 9) := i_of w1_9
  exact tells_core a0_0 a0_1 a0_2 a0_3 a0_4 _ _ a2 _ _ _ (pick a1_0 a1_1 a1_2 a1_3 a1_4 a1_5 a1_6 a1_7 a1_8 a1_9 a1_10 a1_11 a1_12 a1_13 a1_14 a1_15) W (hid (errors_calls _ _ _ _ _ p1 p2 p3)) (hid (rerrors_calls _ _ _ _ _ p1 p2 p3)) (hid (volume_calls _ _ _ _ _ p0 p1 p2 p3)) (hid (rvolume_calls _ _ _ _ _ p0 p1 p2 p3)) (hid (opens_calls _ _ _ _ _ p0 p1 p2 p3 p4 _ q8 q9)) (hid (ropens_calls _ _ _ _ _ p0 p1 p2 p3 p4 _ q8 q9)) (hid (kind_calls _ (i_of w2))) (hid (rkind_calls _ (i_of w2)))
end Go.Proofs.Ytiplgihdgckbaaa.C16
