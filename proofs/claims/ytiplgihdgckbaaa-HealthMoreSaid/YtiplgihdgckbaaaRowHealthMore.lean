/- HealthMore: a failure more never lets a breaker close that opened. -/
import Derived.Test.YtiplgihdgckbaaaRows
import Derived.Test.YtiplgihdgckbaaaC16M
import Derived.Test.YtiplgihdgckbaaaOpen
import Derived.WalkKit
import Derived.ProofKit
import Derived.OpenShut
import Derived.ShutString
import Derived.ChangeOld
import Derived.Below
import Derived.SizedLaws
namespace Go.Proofs.Ytiplgihdgckbaaa.healthMore
open Go.ChangeShapes Go.WideShapes Go.ChangeAt Go.RowKit
open Go.ChangeMaps (open_string shut_string)
set_option linter.unusedVariables false
theorem own : ownKnob Try.prog.godebug = none := by kernel_rfl
theorem laidOut : laidOutB Try.prog = true := by kernel_rfl
theorem leaves0 : Opn.leaves Try.prog 8 34 = some [.int .u32, .int .u32, .int .u32, .int .u32, .int .u32] := by kernel_rfl
theorem leaves1 : Opn.leaves Try.prog 8 25 = some [.int .i64, .int .i64, .int .i64, .int .i64, .int .i64, .int .i64, .int .u64, .int .u64, .int .i64, .int .i64, .int .u64, .int .i64, .int .u64, .int .u64, .int .i64, .int .i64] := by kernel_rfl
set_option maxRecDepth 100000 in
theorem lifted (os : Os) (started : os.Started) (H : Type) (enc : TypeId × Value → H) :
    ReturnsInHanded {} Try.checked os 5 .any (Rows.healthMoreSpec.pre6 enc Try.prog Try.f5 Rows.healthMoreRow.domain false) (Rows.healthMoreSpec.post enc Try.prog Try.f5 false true false false) := by
  refine returnsInHanded_of_change_sized (C := Try.checked) own started (by kernel_rfl) Try.func5
    (ChangeSpec.witness6 (enc := enc) (C := Try.checked) false ⟨#[], #[.agg #[.int .u32 0, .int .u32 0, .int .u32 0, .int .u32 0, .int .u32 0], .agg #[.int .i64 0, .int .i64 0, .int .i64 0, .int .i64 0, .int .i64 0, .int .i64 0, .int .u64 0, .int .u64 0, .int .i64 0, .int .i64 0, .int .u64 0, .int .i64 0, .int .u64 0, .int .u64 0, .int .i64 0, .int .i64 0], .int .u8 0], []⟩ 8 (by kernel_rfl) (by kernel_rfl) (by kernel_rfl) (by kernel_rfl)) ?_
  intro W base args ds gs before hval0 hW hcnd hsz0 _
  have hsz : (DataW.weightsEach Try.prog (Try.f5.params.toList ++ Rows.healthMoreSpec.plain.varTypes Try.prog) (ds ++ gs)).all (· ≤ reachBytes) = true := hsz0
  have hval : ∀ (j : Nat) t v, Try.f5.params[j]? = some t → args[j]? = some v → Value.okWide Try.prog W .any base t v := hval0
  have hW' := hW
  obtain ⟨p, q, hA0, hV, rfl, hfz, hnd⟩ := hW
  have hA : DataW.TrodAll enc Try.prog W 0 (fun _ => true) true Try.f5.params.toList args.toList ds p := hA0
  rw [Try.params5] at hA hval hsz
  obtain ⟨v0, vs0, d0, ds0, p0, q0, hargs, rfl, rfl, h0, r0⟩ := trodAll_cons hA
  obtain ⟨v1, vs1, d1, ds1, p1, q1, rfl, rfl, rfl, h1, r1⟩ := trodAll_cons r0
  obtain ⟨v2, vs2, d2, ds2, p2, q2, rfl, rfl, rfl, h2, r2⟩ := trodAll_cons r1
  obtain ⟨rfl, rfl, rfl⟩ := trodAll_nil r2
  obtain rfl : args = #[v0, v1, v2] := by cases args; simp_all
  obtain ⟨rfl, rfl⟩ := trodVars_none hV
  have lt0 : ∀ x ∈ p0, x.block < W.heap.size := by obtain ⟨m, hm⟩ := h0; exact DataW.trod_lt m _ _ _ hm
  have o0 := Opn.arg_ok 8 leaves0 h0
  obtain ⟨cs0, hc0⟩ : ∃ cs, v0.cells.toList = cs := ⟨_, rfl⟩
  rw [hc0] at o0
  obtain ⟨_, _, rfl, ⟨a0_0, rfl, w0_0⟩, ⟨_, _, rfl, ⟨a0_1, rfl, w0_1⟩, ⟨_, _, rfl, ⟨a0_2, rfl, w0_2⟩, ⟨_, _, rfl, ⟨a0_3, rfl, w0_3⟩, ⟨_, _, rfl, ⟨a0_4, rfl, w0_4⟩, rfl⟩⟩⟩⟩⟩ := o0
  obtain rfl := Opn.agg_of_cells hc0 (by simp)
  have lt1 : ∀ x ∈ p1, x.block < W.heap.size := by obtain ⟨m, hm⟩ := h1; exact DataW.trod_lt m _ _ _ hm
  have o1 := Opn.arg_ok 8 leaves1 h1
  obtain ⟨cs1, hc1⟩ : ∃ cs, v1.cells.toList = cs := ⟨_, rfl⟩
  rw [hc1] at o1
  obtain ⟨_, _, rfl, ⟨a1_0, rfl, w1_0⟩, ⟨_, _, rfl, ⟨a1_1, rfl, w1_1⟩, ⟨_, _, rfl, ⟨a1_2, rfl, w1_2⟩, ⟨_, _, rfl, ⟨a1_3, rfl, w1_3⟩, ⟨_, _, rfl, ⟨a1_4, rfl, w1_4⟩, ⟨_, _, rfl, ⟨a1_5, rfl, w1_5⟩, ⟨_, _, rfl, ⟨a1_6, rfl, w1_6⟩, ⟨_, _, rfl, ⟨a1_7, rfl, w1_7⟩, ⟨_, _, rfl, ⟨a1_8, rfl, w1_8⟩, ⟨_, _, rfl, ⟨a1_9, rfl, w1_9⟩, ⟨_, _, rfl, ⟨a1_10, rfl, w1_10⟩, ⟨_, _, rfl, ⟨a1_11, rfl, w1_11⟩, ⟨_, _, rfl, ⟨a1_12, rfl, w1_12⟩, ⟨_, _, rfl, ⟨a1_13, rfl, w1_13⟩, ⟨_, _, rfl, ⟨a1_14, rfl, w1_14⟩, ⟨_, _, rfl, ⟨a1_15, rfl, w1_15⟩, rfl⟩⟩⟩⟩⟩⟩⟩⟩⟩⟩⟩⟩⟩⟩⟩⟩ := o1
  obtain rfl := Opn.agg_of_cells hc1 (by simp)
  obtain ⟨a2, rfl, rfl, rfl, w2⟩ := open_int Try.underlying5 (hval 2 5 v2 rfl rfl) h2
  clear hA0 hval0 hsz0 hsz
  refine (Go.Proofs.Ytiplgihdgckbaaa.C16.healthMore_walk (enc := enc) W a0_0 a0_1 a0_2 a0_3 a0_4 w0_0 w0_1 w0_2 w0_3 w0_4 a1_0 a1_1 a1_2 a1_3 a1_4 a1_5 a1_6 a1_7 a1_8 a1_9 a1_10 a1_11 a1_12 a1_13 a1_14 a1_15 w1_0 w1_1 w1_2 w1_3 w1_4 w1_5 w1_6 w1_7 w1_8 w1_9 w1_10 w1_11 w1_12 w1_13 w1_14 w1_15 a2 w2).mono fun e W' ⟨he, bel⟩ => ?_
  subst he
  exact ⟨_, rfl, _, _, _, [], _, [], hW', trodAll_mk1 (shut_bool Try.underlying4 _), (trodAll_cons_mk (Below.trod laidOut (by kernel_rfl) (of_decide_eq_true (by kernel_rfl)) h0 bel lt0) (trodAll_cons_mk (Below.trod laidOut (by kernel_rfl) (of_decide_eq_true (by kernel_rfl)) h1 bel lt1) (trodAll_cons_mk (shut_int Try.underlying5 w2) trodAll_mk0))), rfl, bel.frame _, fun h => by cases h⟩
theorem over : Rows.healthMoreRow.holds Try.pinned (OpenSpec.ofChange Rows.healthMoreSpec) :=
  OpenClaim.holds_of_wide 5 Try.f5 rfl rfl rfl rfl rfl rfl rfl ⟨rfl, rfl, rfl, rfl, rfl⟩ rfl rfl rfl rfl rfl (by kernel_rfl) Try.func5 (by kernel_rfl)
    (of_decide_eq_true (by kernel_rfl)) (by unfold Func.isWrapper; first | (rw [if_pos (by decide +kernel)]; kernel_rfl) | (rw [if_neg (by decide +kernel)]; exact ⟨rfl, rfl⟩))
    (fun os started H enc _ => lifted os started H enc)
theorem proved : Rows.HealthMoreSaid := over
end Go.Proofs.Ytiplgihdgckbaaa.healthMore
namespace Go.Proofs.Ytiplgihdgckbaaa
/-- The row, under a short name, for the claim. -/
theorem healthMore_holds : Rows.HealthMoreSaid := healthMore.proved
end Go.Proofs.Ytiplgihdgckbaaa
