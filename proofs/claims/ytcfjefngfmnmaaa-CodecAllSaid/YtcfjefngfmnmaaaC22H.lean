/- The walk of the law CodecNobody. -/
import Derived.Test.YtcfjefngfmnmaaaC22G
namespace Go.Proofs.Ytcfjefngfmnmaaa.C22
open Go.RowKit Go.Proofs.Ytcfjefngfmnmaaa Go.Proofs.Ytcfjefngfmnmaaa.Cod
set_option linter.unusedVariables false
set_option linter.unusedSimpArgs false
set_option linter.unnecessarySimpa false
theorem all_empty (w : World) : Calls Try.prog 18 #[.string ⟨#[]⟩] w fun x w' => x = .returned (.tuple #[.slice none 0 0, .int .i64 0]) ∧ w = w' := by
  go_enter Try.func18, Try.ntmps18
  go_wp2_with fail
  refine wp_loop_rounds 1 ?_
  rw [rounds_succ]
  go_wp2_with fail
  go_ret2
  exact ⟨rfl, rfl⟩
theorem range_newB (w : World) (C : Array Value) (t : TypeId) (B : Nat) (hB : w.heap.size = B) : (w.alloc (.cells C t (0, 0))).rangeAt B 0 C.toList := by subst hB; exact range_new w C t
def kinded (e : Ev) (k : Int) : Ev := { e with kind := k }
theorem kinded_put {e : Ev} {k : Int} (h : k < 1 ∨ 6 < k) : may (kinded e k) = false ∧ put (kinded e k) = [] := by
  have : may (kinded e k) = false := by
    apply Bool.eq_false_iff.2
    intro hm
    have := ((may_iff _).1 hm).kind
    have h2 : (kinded e k).kind = k := rfl
    omega
  exact ⟨this, by unfold put; rw [this]; rfl⟩
theorem kinded_fits {e : Ev} (h : e.Fits) {k : Int} (h0 : 0 ≤ k) (h1 : k ≤ 7) : (kinded e k).Fits := ⟨by show _ ≤ k ∧ k ≤ _; omega, h.id, h.dep, h.scope, h.arg, h.step, h.n, h.vals⟩
theorem none_take : Cod.take (nums (⟨#[]⟩ : ByteArray)) = none := by decide +kernel
set_option maxHeartbeats 2000000 in
theorem nobody_core (e : Ev) (A : Option Addr) (c : Nat) (w : World) (he : Hid e.Fits) (hl : e.vals.length ≤ 9223372036854775807) (hr : RowI w A e.vals) :
    Calls Try.prog 8 #[.agg (evF e A c)] w fun x w' => x = .returned (.bool true) ∧ Below w.heap.size w w' := by
  have Hr := hid hr
  have Hfew := hid fun w => few_calls e A c w hl
  have hi9 : (Try.prog.info? 25).map (·.size) = some 9 := by kernel_rfl
  clear hr
  go_enter Try.func8, Try.ntmps8
  go_wp2_with fail
  refine (awake_calls _).mono ?_
  rintro x w1 ⟨rfl, hb⟩
  have c0 : w1.cell? ⟨w.heap.size, 0, none⟩ = some (.int .i64 e.kind) := cell_of hb (by simp [go_sem])
  have c1 : w1.cell? ⟨w.heap.size, 1, none⟩ = some (.int .i64 e.id) := cell_of hb (by simp [go_sem])
  have c2 : w1.cell? ⟨w.heap.size, 2, none⟩ = some (.int .i64 e.dep) := cell_of hb (by simp [go_sem])
  have c3 : w1.cell? ⟨w.heap.size, 3, none⟩ = some (.int .i64 e.scope) := cell_of hb (by simp [go_sem])
  have c4 : w1.cell? ⟨w.heap.size, 4, none⟩ = some (.int .i64 e.arg) := cell_of hb (by simp [go_sem])
  have c5 : w1.cell? ⟨w.heap.size, 5, none⟩ = some (.int .i64 e.step) := cell_of hb (by simp [go_sem])
  have c6 : w1.cell? ⟨w.heap.size, 6, none⟩ = some (.int .u64 e.n) := cell_of hb (by simp [go_sem])
  have c7 : w1.cell? ⟨w.heap.size, 7, none⟩ = some (.bool e.ok) := cell_of hb (by simp [go_sem])
  have c8 : w1.cell? ⟨w.heap.size, 8, none⟩ = some (.slice A e.vals.length c) := cell_of hb (by simp [go_sem])
  have Hb := hid (via (grow w _) hb)
  clear hb
  go_wp2_with fail
  refine (Hfew.out _).mono ?_
  rintro x w2 ⟨rfl, hb⟩
  by_cases hf : (e.vals.length : Int) ≤ 50
  case neg =>
    have Hb2 := hid (via Hb.out hb)
    rw [decide_eq_false hf]
    clear hb hf
    go_wp2_with fail
    go_ret
    exact ⟨rfl, Hb2.out⟩
  rw [decide_eq_true hf]
  have Hb2 := hid (via Hb.out hb)
  replace c0 := cell_of hb c0
  replace c1 := cell_of hb c1
  replace c2 := cell_of hb c2
  replace c3 := cell_of hb c3
  replace c4 := cell_of hb c4
  replace c5 := cell_of hb c5
  replace c6 := cell_of hb c6
  replace c7 := cell_of hb c7
  replace c8 := cell_of hb c8
  have g0 := fun o => cell_of (grow w2 o) c0
  have g1 := fun o => cell_of (grow w2 o) c1
  have g2 := fun o => cell_of (grow w2 o) c2
  have g3 := fun o => cell_of (grow w2 o) c3
  have g4 := fun o => cell_of (grow w2 o) c4
  have g5 := fun o => cell_of (grow w2 o) c5
  have g6 := fun o => cell_of (grow w2 o) c6
  have g7 := fun o => cell_of (grow w2 o) c7
  have g8 := fun o => cell_of (grow w2 o) c8
  clear hb
  go_wp2_with fail
  refine (take_calls _ _).mono ?_
  rintro x w4 ⟨h1, -, hb⟩
  have hx := h1 none_take
  unfold noneV zeroF at hx
  subst hx
  have hr4 := range_below hb (range_below (grow _ _) (range_new w2 (evF (kinded e 0) A c) 25))
  have hr5 := range_below hb (range_newB (w2.alloc (.cells (evF (kinded e 0) A c) 25 (0, 0))) (evF (kinded e 7) A c) 25 (w2.heap.size + 1) (by simp))
  have Hb4 := hid (via ((Hb2.out.alloc Hb2.out.size _).alloc (by have := Hb2.out.size; simp; omega) _) hb)
  clear hb h1 c0 c1 c2 c3 c4 c5 c6 c7 c8 g0 g1 g2 g3 g4 g5 g6 g7 g8
  dsimp only [zero, List.length_nil]
  go_wp2_with fail
  refine (all_empty _).mono ?_
  rintro x w' ⟨rfl, rfl⟩
  have HR4 := hid (fun o => range_below (grow w4 o) hr4)
  have HR5 := hid (fun o => range_below (grow w4 o) hr5)
  have hk0 := hid (kinded_put (e := e) (k := 0) (by omega))
  have hk7 := hid (kinded_put (e := e) (k := 7) (by omega))
  have hl0 : Hid ((kinded e 0).vals.length ≤ 1000000) := by show e.vals.length ≤ 1000000; omega
  have hl7 : Hid ((kinded e 7).vals.length ≤ 1000000) := by show e.vals.length ≤ 1000000; omega
  clear hr4 hr5
  go_wp2_with (refine BigFrame.wpList_want rfl (fun K hK => wp_load_mid 25 _ rfl w2.heap.size 0 rfl (evF (kinded e 0) A c).toList _ (HR4.out _) Try.underlying25 rfl hi9 (hK _ _ ?_)))
  refine (put_calls (kinded e 0) A c _ (hid (kinded_fits he.out (by omega) (by omega))) hl0.out (Hr.out.below (Hb4.out.alloc Hb4.out.size _))).mono ?_
  rintro x w5 ⟨rfl, hb⟩
  have Hb5 := hid (via (Hb4.out.alloc Hb4.out.size _) hb)
  have HR4b := hid (range_below hb (HR4.out _))
  have HR5b := hid (range_below hb (HR5.out _))
  rw [hk0.out.2, show strOfNums [] = (⟨#[]⟩ : ByteArray) from rfl]
  clear hb HR4 HR5
  go_wp2_with (refine BigFrame.wpList_want rfl (fun K hK => wp_load_mid 25 _ rfl (w2.heap.size + 1) 0 rfl (evF (kinded e 7) A c).toList _ HR5b.out Try.underlying25 rfl hi9 (hK _ _ ?_)))
  refine (put_calls (kinded e 7) A c _ (hid (kinded_fits he.out (by omega) (by omega))) hl7.out (Hr.out.below Hb5.out)).mono ?_
  rintro x w6 ⟨rfl, hb⟩
  have Hb6 := hid (via Hb5.out hb)
  have HR4c := hid (range_below hb HR4b.out)
  rw [hk7.out.2, show strOfNums [] = (⟨#[]⟩ : ByteArray) from rfl]
  clear hb HR4b HR5b
  go_wp2_with (refine BigFrame.wpList_want rfl (fun K hK => wp_load_mid 25 _ rfl w2.heap.size 0 rfl (evF (kinded e 0) A c).toList _ HR4c.out Try.underlying25 rfl hi9 (hK _ _ ?_)))
  refine (may_calls (kinded e 0) A c _ (hid (kinded_fits he.out (by omega) (by omega))) hl0.out (Hr.out.below Hb6.out)).mono ?_
  rintro x w7 ⟨rfl, hb⟩
  have Hb7 := hid (via Hb6.out hb)
  rw [hk0.out.1]
  clear hb
  go_wp2_with fail
  go_ret
  exact ⟨ret_bool (by simp), Hb7.out⟩
theorem codecNobody_walk {H : Type} {enc : TypeId × Value → H} (W : World) (a0_0 : Int) (a0_1 : Int) (a0_2 : Int) (a0_3 : Int) (a0_4 : Int) (a0_5 : Int) (a0_6 : Int) (a0_7 : Bool) (a0_8 : Option Addr) (l0_8 c0_8 : Nat) (w0_0 : (Lit.int .i64 a0_0).wf = true) (w0_1 : (Lit.int .i64 a0_1).wf = true) (w0_2 : (Lit.int .i64 a0_2).wf = true) (w0_3 : (Lit.int .i64 a0_3).wf = true) (w0_4 : (Lit.int .i64 a0_4).wf = true) (w0_5 : (Lit.int .i64 a0_5).wf = true) (w0_6 : (Lit.int .u64 a0_6).wf = true) (k0_8 : (Opn.Lf.slc 3).ok enc Try.prog W 0 (fun _ => true) true (.slice a0_8 l0_8 c0_8)) :
    Calls Try.prog 8 #[.agg #[.int .i64 a0_0, .int .i64 a0_1, .int .i64 a0_2, .int .i64 a0_3, .int .i64 a0_4, .int .i64 a0_5, .int .u64 a0_6, .bool a0_7, .slice a0_8 l0_8 c0_8]] W fun e w' => e = .returned (.bool true) ∧ Below W.heap.size W w' := by
  obtain ⟨L, rfl, hx, hr, hl⟩ := rowI_of_slc (by kernel_rfl) (by kernel_rfl) k0_8
  obtain ⟨n0, n1⟩ := Sat.wf_u64 w0_6
  obtain ⟨n, rfl⟩ := Int.eq_ofNat_of_zero_le n0
  exact nobody_core ⟨a0_0, a0_1, a0_2, a0_3, a0_4, a0_5, n, a0_7, L⟩ a0_8 c0_8 W (hid ⟨Sat.wf_i64 w0_0, Sat.wf_i64 w0_1, Sat.wf_i64 w0_2, Sat.wf_i64 w0_3, Sat.wf_i64 w0_4, Sat.wf_i64 w0_5, by show n ≤ _; omega, hx⟩) (by show L.length ≤ _; unfold maxLen at hl; omega) hr
end Go.Proofs.Ytcfjefngfmnmaaa.C22
