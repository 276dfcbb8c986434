/- HealthShort: what is short plays no part, nothing opens without volume, and at no percent volume alone does. -/
import Derived.Test.YtiplgihdgckbaaaRows
import Derived.Test.YtiplgihdgckbaaaC16T
import Derived.Test.YtiplgihdgckbaaaOpen
import Derived.WalkKit
import Derived.ProofKit
import Derived.OpenShut
import Derived.ShutString
import Derived.ChangeOld
import Derived.Below
import Derived.SizedLaws
namespace Go.Proofs.Ytiplgihdgckbaaa.healthShort
open Go.ChangeShapes Go.WideShapes Go.ChangeAt Go.RowKit
open Go.ChangeMaps (open_string shut_string)
set_option linter.unusedVariables false
theorem own : ownKnob Try.prog.godebug = none := by kernel_rfl
theorem laidOut : laidOutB Try.prog = true := by kernel_rfl
theorem leaves0 : Opn.leaves Try.prog 8 23 = some [.int .u64, .int .u64, .int .u64, .int .u64, .int .u64] := by kernel_rfl
theorem leaves2 : Opn.leaves Try.prog 8 25 = some [.int .i64, .int .i64, .int .i64, .int .i64, .int .i64, .int .i64, .int .u64, .int .u64, .int .i64, .int .i64, .int .u64, .int .i64, .int .u64, .int .u64, .int .i64, .int .i64] := by kernel_rfl
set_option maxRecDepth 100000 in
theorem lifted (os : Os) (started : os.Started) (H : Type) (enc : TypeId × Value → H) :
    ReturnsInHanded {} Try.checked os 4 .any (Rows.healthShortSpec.pre6 enc Try.prog Try.f4 Rows.healthShortRow.domain false) (Rows.healthShortSpec.post enc Try.prog Try.f4 false true false false) := by
  refine returnsInHanded_of_change_sized (C := Try.checked) own started (by kernel_rfl) Try.func4
    (ChangeSpec.witness6 (enc := enc) (C := Try.checked) false ⟨#[], #[.agg #[.int .u64 0, .int .u64 0, .int .u64 0, .int .u64 0, .int .u64 0], .int .u64 0, .agg #[.int .i64 0, .int .i64 0, .int .i64 0, .int .i64 0, .int .i64 0, .int .i64 0, .int .u64 0, .int .u64 0, .int .i64 0, .int .i64 0, .int .u64 0, .int .i64 0, .int .u64 0, .int .u64 0, .int .i64 0, .int .i64 0]], []⟩ 8 (by kernel_rfl) (by kernel_rfl) (by kernel_rfl) (by kernel_rfl)) ?_
  intro W base args ds gs before hval0 hW hcnd hsz0 _
  have hsz : (DataW.weightsEach Try.prog (Try.f4.params.toList ++ Rows.healthShortSpec.plain.varTypes Try.prog) (ds ++ gs)).all (· ≤ reachBytes) = true := hsz0
  have hval : ∀ (j : Nat) t v, Try.f4.params[j]? = some t → args[j]? = some v → Value.okWide Try.prog W .any base t v := hval0
  have hW' := hW
  obtain ⟨p, q, hA0, hV, rfl, hfz, hnd⟩ := hW
  have hA : DataW.TrodAll enc Try.prog W 0 (fun _ => true) true Try.f4.params.toList args.toList ds p := hA0
  rw [Try.params4] at hA hval hsz
  obtain ⟨v0, vs0, d0, ds0, p0, q0, hargs, rfl, rfl, h0, r0⟩ := trodAll_cons hA
  obtain ⟨v1, vs1, d1, ds1, p1, q1, rfl, rfl, rfl, h1, r1⟩ := trodAll_cons r0
  obtain ⟨v2, vs2, d2, ds2, p2, q2, rfl, rfl, rfl, h2, r2⟩ := trodAll_cons r1
  obtain ⟨rfl, rfl, rfl⟩ := trodAll_nil r2
  obtain rfl : args = #[v0, v1, v2] := by cases args; simp_all
  obtain ⟨rfl, rfl⟩ := trodVars_none hV
  have lt0 : ∀ x ∈ p0, x.block < W.heap.size := by obtain ⟨m, hm⟩ := h0; exact DataW.trod_lt m _ _ _ hm
  have o0 := Opn.arg_ok 8 leaves0 h0
  obtain ⟨cs0, hc0⟩ : ∃ cs, v0.cells.toList = cs := ⟨_, rfl⟩
  rw [hc0] at o0
  obtain ⟨_, _, rfl, ⟨a0_0, rfl, w0_0⟩, ⟨_, _, rfl, ⟨a0_1, rfl, w0_1⟩, ⟨_, _, rfl, ⟨a0_2, rfl, w0_2⟩, ⟨_, _, rfl, ⟨a0_3, rfl, w0_3⟩, ⟨_, _, rfl, ⟨a0_4, rfl, w0_4⟩, rfl⟩⟩⟩⟩⟩ := o0
  obtain rfl := Opn.agg_of_cells hc0 (by simp)
  obtain ⟨a1, rfl, rfl, rfl, w1⟩ := open_int Try.underlying22 (hval 1 22 v1 rfl rfl) h1
  have lt2 : ∀ x ∈ p2, x.block < W.heap.size := by obtain ⟨m, hm⟩ := h2; exact DataW.trod_lt m _ _ _ hm
  have o2 := Opn.arg_ok 8 leaves2 h2
  obtain ⟨cs2, hc2⟩ : ∃ cs, v2.cells.toList = cs := ⟨_, rfl⟩
  rw [hc2] at o2
  obtain ⟨_, _, rfl, ⟨a2_0, rfl, w2_0⟩, ⟨_, _, rfl, ⟨a2_1, rfl, w2_1⟩, ⟨_, _, rfl, ⟨a2_2, rfl, w2_2⟩, ⟨_, _, rfl, ⟨a2_3, rfl, w2_3⟩, ⟨_, _, rfl, ⟨a2_4, rfl, w2_4⟩, ⟨_, _, rfl, ⟨a2_5, rfl, w2_5⟩, ⟨_, _, rfl, ⟨a2_6, rfl, w2_6⟩, ⟨_, _, rfl, ⟨a2_7, rfl, w2_7⟩, ⟨_, _, rfl, ⟨a2_8, rfl, w2_8⟩, ⟨_, _, rfl, ⟨a2_9, rfl, w2_9⟩, ⟨_, _, rfl, ⟨a2_10, rfl, w2_10⟩, ⟨_, _, rfl, ⟨a2_11, rfl, w2_11⟩, ⟨_, _, rfl, ⟨a2_12, rfl, w2_12⟩, ⟨_, _, rfl, ⟨a2_13, rfl, w2_13⟩, ⟨_, _, rfl, ⟨a2_14, rfl, w2_14⟩, ⟨_, _, rfl, ⟨a2_15, rfl, w2_15⟩, rfl⟩⟩⟩⟩⟩⟩⟩⟩⟩⟩⟩⟩⟩⟩⟩⟩ := o2
  obtain rfl := Opn.agg_of_cells hc2 (by simp)
  clear hA0 hval0 hsz0 hsz
  refine (Go.Proofs.Ytiplgihdgckbaaa.C16.healthShort_walk (enc := enc) W a0_0 a0_1 a0_2 a0_3 a0_4 w0_0 w0_1 w0_2 w0_3 w0_4 a1 w1 a2_0 a2_1 a2_2 a2_3 a2_4 a2_5 a2_6 a2_7 a2_8 a2_9 a2_10 a2_11 a2_12 a2_13 a2_14 a2_15 w2_0 w2_1 w2_2 w2_3 w2_4 w2_5 w2_6 w2_7 w2_8 w2_9 w2_10 w2_11 w2_12 w2_13 w2_14 w2_15).mono fun e W' ⟨he, bel⟩ => ?_
  subst he
  exact ⟨_, rfl, _, _, _, [], _, [], hW', trodAll_mk1 (shut_bool Try.underlying4 _), (trodAll_cons_mk (Below.trod laidOut (by kernel_rfl) (of_decide_eq_true (by kernel_rfl)) h0 bel lt0) (trodAll_cons_mk (shut_int Try.underlying22 w1) (trodAll_cons_mk (Below.trod laidOut (by kernel_rfl) (of_decide_eq_true (by kernel_rfl)) h2 bel lt2) trodAll_mk0))), rfl, bel.frame _, fun h => by cases h⟩
theorem over : Rows.healthShortRow.holds Try.pinned (OpenSpec.ofChange Rows.healthShortSpec) :=
  OpenClaim.holds_of_wide 4 Try.f4 rfl rfl rfl rfl rfl rfl rfl ⟨rfl, rfl, rfl, rfl, rfl⟩ rfl rfl rfl rfl rfl (by kernel_rfl) Try.func4 (by kernel_rfl)
    (of_decide_eq_true (by kernel_rfl)) (by unfold Func.isWrapper; first | (rw [if_pos (by decide +kernel)]; kernel_rfl) | (rw [if_neg (by decide +kernel)]; exact ⟨rfl, rfl⟩))
    (fun os started H enc _ => lifted os started H enc)
theorem proved : Rows.HealthShortSaid := over
end Go.Proofs.Ytiplgihdgckbaaa.healthShort
namespace Go.Proofs.Ytiplgihdgckbaaa
/-- The row, under a short name, for the claim. -/
theorem healthShort_holds : Rows.HealthShortSaid := healthShort.proved
end Go.Proofs.Ytiplgihdgckbaaa
