/- The law CodecTells is true of every input: whether any event can be written, its bytes, and what any bytes begin with, are told as the reference tells them. -/
import Derived.Test.YtcfjefngfmnmaaaRows
import Derived.Test.YtcfjefngfmnmaaaC22N
import Derived.Test.YtcfjefngfmnmaaaOpen
import Derived.WalkKit
import Derived.ProofKit
import Derived.OpenShut
import Derived.ShutString
import Derived.ChangeOld
import Derived.Below
import Derived.SizedLaws
namespace Go.Proofs.Ytcfjefngfmnmaaa.codecTells
open Go.ChangeShapes Go.WideShapes Go.ChangeAt Go.RowKit
open Go.ChangeMaps (open_string shut_string)
set_option linter.unusedVariables false
theorem own : ownKnob Try.prog.godebug = none := by kernel_rfl
theorem laidOut : laidOutB Try.prog = true := by kernel_rfl
theorem leaves0 : Opn.leaves Try.prog 8 25 = some [.int .i64, .int .i64, .int .i64, .int .i64, .int .i64, .int .i64, .int .u64, .bool, .slc 3] := by kernel_rfl
set_option maxRecDepth 100000 in
theorem lifted (os : Os) (started : os.Started) (H : Type) (enc : TypeId × Value → H) :
    ReturnsInHanded {} Try.checked os 3 .any (Rows.codecTellsSpec.pre6 enc Try.prog Try.f3 Rows.codecTellsRow.domain false) (Rows.codecTellsSpec.post enc Try.prog Try.f3 false true false false) := by
  refine returnsInHanded_of_change_sized (C := Try.checked) own started (by kernel_rfl) Try.func3
    (ChangeSpec.witness6 (enc := enc) (C := Try.checked) false ⟨#[], #[.agg #[.int .i64 0, .int .i64 0, .int .i64 0, .int .i64 0, .int .i64 0, .int .i64 0, .int .u64 0, .bool false, .slice none 0 0], .string ⟨#[]⟩], []⟩ 8 (by kernel_rfl) (by kernel_rfl) (by kernel_rfl) (by kernel_rfl)) ?_
  intro W base args ds gs before hval0 hW hcnd hsz0 _
  have hsz : (DataW.weightsEach Try.prog (Try.f3.params.toList ++ Rows.codecTellsSpec.plain.varTypes Try.prog) (ds ++ gs)).all (· ≤ reachBytes) = true := hsz0
  have hval : ∀ (j : Nat) t v, Try.f3.params[j]? = some t → args[j]? = some v → Value.okWide Try.prog W .any base t v := hval0
  have hW' := hW
  obtain ⟨p, q, hA0, hV, rfl, hfz, hnd⟩ := hW
  have hA : DataW.TrodAll enc Try.prog W 0 (fun _ => true) true Try.f3.params.toList args.toList ds p := hA0
  rw [Try.params3] at hA hval hsz
  obtain ⟨v0, vs0, d0, ds0, p0, q0, hargs, rfl, rfl, h0, r0⟩ := trodAll_cons hA
  obtain ⟨v1, vs1, d1, ds1, p1, q1, rfl, rfl, rfl, h1, r1⟩ := trodAll_cons r0
  obtain ⟨rfl, rfl, rfl⟩ := trodAll_nil r1
  obtain rfl : args = #[v0, v1] := by cases args; simp_all
  obtain ⟨rfl, rfl⟩ := trodVars_none hV
  have lt0 : ∀ x ∈ p0, x.block < W.heap.size := by obtain ⟨m, hm⟩ := h0; exact DataW.trod_lt m _ _ _ hm
  have o0 := Opn.arg_ok 8 leaves0 h0
  obtain ⟨cs0, hc0⟩ : ∃ cs, v0.cells.toList = cs := ⟨_, rfl⟩
  rw [hc0] at o0
  obtain ⟨_, _, rfl, ⟨a0_0, rfl, w0_0⟩, ⟨_, _, rfl, ⟨a0_1, rfl, w0_1⟩, ⟨_, _, rfl, ⟨a0_2, rfl, w0_2⟩, ⟨_, _, rfl, ⟨a0_3, rfl, w0_3⟩, ⟨_, _, rfl, ⟨a0_4, rfl, w0_4⟩, ⟨_, _, rfl, ⟨a0_5, rfl, w0_5⟩, ⟨_, _, rfl, ⟨a0_6, rfl, w0_6⟩, ⟨_, _, rfl, ⟨a0_7, rfl⟩, ⟨_, _, rfl, ⟨a0_8, l0_8, c0_8, rfl, k0_8⟩, rfl⟩⟩⟩⟩⟩⟩⟩⟩⟩ := o0
  obtain rfl := Opn.agg_of_cells hc0 (by simp)
  obtain ⟨s1, rfl, rfl, rfl, z1⟩ := open_string Try.underlying9 (hval 1 9 v1 rfl rfl) h1
  have y1 : s1.size ≤ 140737488351232 := by have := sized_string hsz (j := 1) (t := 9) rfl rfl; first | simpa using this | exact Nat.le_trans this (by decide +kernel)
  clear hA0 hval0 hsz0 hsz
  refine (Go.Proofs.Ytcfjefngfmnmaaa.C22.codecTells_walk (enc := enc) W a0_0 a0_1 a0_2 a0_3 a0_4 a0_5 a0_6 a0_7 a0_8 l0_8 c0_8 w0_0 w0_1 w0_2 w0_3 w0_4 w0_5 w0_6 ⟨_, _, _, rfl, k0_8⟩ s1 y1).mono fun e W' ⟨he, bel⟩ => ?_
  subst he
  exact ⟨_, rfl, _, _, _, [], _, [], hW', trodAll_mk1 (shut_bool Try.underlying4 _), (trodAll_cons_mk (Below.trod laidOut (by kernel_rfl) (of_decide_eq_true (by kernel_rfl)) h0 bel lt0) (trodAll_cons_mk (shut_string Try.underlying9 z1) trodAll_mk0)), rfl, bel.frame _, fun h => by cases h⟩
theorem over : Rows.codecTellsRow.holds Try.pinned (OpenSpec.ofChange Rows.codecTellsSpec) :=
  OpenClaim.holds_of_wide 3 Try.f3 rfl rfl rfl rfl rfl rfl rfl ⟨rfl, rfl, rfl, rfl, rfl⟩ rfl rfl rfl rfl rfl (by kernel_rfl) Try.func3 (by kernel_rfl)
    (of_decide_eq_true (by kernel_rfl)) (by unfold Func.isWrapper; first | (rw [if_pos (by decide +kernel)]; kernel_rfl) | (rw [if_neg (by decide +kernel)]; exact ⟨rfl, rfl⟩))
    (fun os started H enc _ => lifted os started H enc)
theorem proved : Rows.CodecTellsSaid := over
end Go.Proofs.Ytcfjefngfmnmaaa.codecTells
namespace Go.Proofs.Ytcfjefngfmnmaaa
/-- The row, under a short name, for the claim. -/
theorem codecTells_holds : Rows.CodecTellsSaid := codecTells.proved
end Go.Proofs.Ytcfjefngfmnmaaa
