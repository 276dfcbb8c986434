/- Two empty events are alike; the walk of the law CodecVery. -/
import Derived.Test.YtcfjefngfmnmaaaC22H
namespace Go.Proofs.Ytcfjefngfmnmaaa.C22
open Go.RowKit Go.Proofs.Ytcfjefngfmnmaaa Go.Proofs.Ytcfjefngfmnmaaa.Cod
set_option linter.unusedVariables false
set_option linter.unusedSimpArgs false
set_option linter.unnecessarySimpa false
theorem zcells {w : World} {B : Nat} (h : w.rangeAt B 0 zeroF.toList) : w.cell? ⟨B, 0, none⟩ = some (.int .i64 0) ∧ w.cell? ⟨B, 1, none⟩ = some (.int .i64 0) ∧ w.cell? ⟨B, 2, none⟩ = some (.int .i64 0) ∧ w.cell? ⟨B, 3, none⟩ = some (.int .i64 0) ∧ w.cell? ⟨B, 4, none⟩ = some (.int .i64 0) ∧ w.cell? ⟨B, 5, none⟩ = some (.int .i64 0) ∧ w.cell? ⟨B, 6, none⟩ = some (.int .u64 0) ∧ w.cell? ⟨B, 7, none⟩ = some (.bool false) ∧ w.cell? ⟨B, 8, none⟩ = some (.slice none 0 0) := by
  have r := fun j v (hj : zeroF.toList[j]? = some v) => h j v hj
  simp only [Nat.zero_add] at r
  exact ⟨r 0 _ rfl, r 1 _ rfl, r 2 _ rfl, r 3 _ rfl, r 4 _ rfl, r 5 _ rfl, r 6 _ rfl, r 7 _ rfl, r 8 _ rfl⟩
set_option maxHeartbeats 2000000 in
theorem events_zero (B1 B2 : Nat) (w : World) (h1 : w.rangeAt B1 0 zeroF.toList) (h2 : w.rangeAt B2 0 zeroF.toList) :
    Calls Try.prog 20 #[.slice (some ⟨B1, 0, none⟩) 1 1, .slice (some ⟨B2, 0, none⟩) 1 1] w fun x w' => x = .returned (.bool true) ∧ Below w.heap.size w w' := by
  obtain ⟨a0, a1, a2, a3, a4, a5, a6, a7, a8⟩ := zcells h1
  have g0 := fun o => zcells (range_below (grow w o) h2)
  have b0 := fun o => (g0 o).1
  have b1 := fun o => (g0 o).2.1
  have b2 := fun o => (g0 o).2.2.1
  have b3 := fun o => (g0 o).2.2.2.1
  have b4 := fun o => (g0 o).2.2.2.2.1
  have b5 := fun o => (g0 o).2.2.2.2.2.1
  have b6 := fun o => (g0 o).2.2.2.2.2.2.1
  have b7 := fun o => (g0 o).2.2.2.2.2.2.2.1
  have b8 := fun o => (g0 o).2.2.2.2.2.2.2.2
  clear g0 h1 h2
  go_enter Try.func20, Try.ntmps20
  go_wp2_with fail
  refine wp_loop_rounds 2 ?_
  rw [rounds_succ]
  go_wp2_with fail
  refine wp_loop_rounds 1 ?_
  rw [rounds_succ]
  go_wp2_with fail
  rw [rounds_succ]
  go_wp2_with fail
  go_ret
  exact ⟨rfl, ((Below.refl _ _).alloc (Nat.le_refl _) _).alloc (by simp) _⟩
theorem alike_zero (w : World) : Calls Try.prog 17 #[.agg (evF zero none 0), .agg (evF zero none 0)] w fun x w' => x = .returned (.bool true) ∧ Below w.heap.size w w' := by
  dsimp only [zero, List.length_nil]
  go_enter Try.func17, Try.ntmps17
  go_wp2_with fail
  refine (events_zero _ _ _ ?_ ?_).mono ?_
  · exact range_below (grow _ _) (range_newB _ zeroF 25 _ (by simp))
  · exact range_newB _ zeroF 25 _ (by simp)
  rintro x w1 ⟨rfl, hb⟩
  have Hb := hid (hb.mono (show w.heap.size ≤ _ by simp; omega))
  have Hg : Hid (Below w.heap.size w _) := hid ((((Below.refl w.heap.size w).alloc (Nat.le_refl _) _).alloc (by simp) _).alloc (by simp; omega) _ |>.alloc (by simp; omega) _ |>.trans Hb.out)
  clear hb Hb
  go_wp2_with fail
  go_ret
  exact ⟨rfl, Hg.out⟩
theorem fits_of_may {e : Ev} (hm : May e) (hn : e.n ≤ 18446744073709551615) : e.Fits :=
  ⟨by have := hm.kind; omega, by have := hm.id; omega, by have := hm.dep; omega, by have := hm.scope; omega, by have := hm.arg; omega, by have := hm.step; omega, hn, fun v hv => by have := hm.vals v hv; omega⟩
theorem str_append (l m : List Int) : strOfNums l ++ strOfNums m = strOfNums (l ++ m) := by
  unfold strOfNums
  rw [List.map_append]
  apply ByteArray.ext
  simp
set_option maxHeartbeats 2000000 in
theorem very_core (s : ByteArray) (w : World) (hl : s.size ≤ 140737488351232) :
    Calls Try.prog 5 #[.string s] w fun x w' => x = .returned (.bool true) ∧ Below w.heap.size w w' := by
  have hi9 : (Try.prog.info? 25).map (·.size) = some 9 := by kernel_rfl
  have Htk := hid fun w => take_calls s w
  by_cases h1000 : 1000 < s.size
  · have hI : 1000 < (s.size : Int) := by omega
    go_enter Try.func5, Try.ntmps5
    go_wp2_with fail
    refine (awake_calls _).mono ?_
    rintro x w1 ⟨rfl, hb⟩
    have Hb := hid hb
    clear hb
    go_wp2_with fail
    go_ret
    exact ⟨rfl, Hb.out⟩
  have hI : (s.size : Int) ≤ 1000 := by omega
  cases ht : Cod.take (nums s) with
  | none =>
    have Ht := hid ht
    clear ht
    go_enter Try.func5, Try.ntmps5
    go_wp2_with fail
    refine (awake_calls _).mono ?_
    rintro x w1 ⟨rfl, hb⟩
    have Hb := hid hb
    clear hb
    go_wp2_with fail
    refine (Htk.out _).mono ?_
    rintro x w2 ⟨h1, -, hb⟩
    have hx := h1 Ht.out
    unfold noneV zeroF at hx
    subst hx
    have Hb2 := hid (via Hb.out hb)
    clear hb h1
    dsimp only [zero, List.length_nil]
    go_wp2_with fail
    refine (alike_zero _).mono ?_
    rintro x w3 ⟨rfl, hb⟩
    have Hb3 := hid (via (Hb2.out.alloc Hb2.out.size _) hb)
    clear hb
    go_wp2_with fail
    go_ret
    exact ⟨ret_bool (by simp), Hb3.out⟩
  | some er =>
    obtain ⟨e, r⟩ := er
    have hv := take_very ht
    have hm := (may_iff e).1 hv.1
    have hfit := hid (fits_of_may hm (take_n (nums_ok s) ht))
    have hlen := hm.len
    have hsum : strOfNums (put e) ++ strOfNums r = s := by rw [str_append, hv.2, str_nums]
    have Hmay := hid hv.1
    have Ht := hid ht
    clear ht hv hm
    go_enter Try.func5, Try.ntmps5
    go_wp2_with fail
    refine (awake_calls _).mono ?_
    rintro x w1 ⟨rfl, hb⟩
    have Hb := hid hb
    clear hb
    go_wp2_with fail
    refine (Htk.out _).mono ?_
    rintro x w2 ⟨-, h2, hb⟩
    obtain ⟨A, c, hx, hr, -⟩ := h2 e r Ht.out
    unfold someV at hx
    subst hx
    have Hb2 := hid (via Hb.out hb)
    have HR := hid hr
    have HA := hid (range_new w2 (evF e A c) 25)
    clear hb h2 hr
    go_wp2_with fail
    refine (may_calls e A c _ hfit (by omega) (HR.out.below (grow _ _))).mono ?_
    rintro x w3 ⟨rfl, hb⟩
    rw [Hmay.out]
    have Hb3 := hid (via (Hb2.out.alloc Hb2.out.size _) hb)
    have HA3 := hid (range_below hb HA.out)
    have HR3 := hid ((HR.out.below (grow _ _)).below hb)
    clear hb
    go_wp2_with (refine BigFrame.wpList_want rfl (fun K hK => wp_load_mid 25 _ rfl w2.heap.size 0 rfl (evF e A c).toList _ HA3.out Try.underlying25 rfl hi9 (hK _ _ ?_)))
    refine (put_calls e A c _ hfit (by omega) HR3.out).mono ?_
    rintro x w4 ⟨rfl, hb⟩
    have Hb4 := hid (via Hb3.out hb)
    clear hb
    generalize strOfNums (put e) = S1 at *
    generalize strOfNums r = S2 at *
    have hsz : ¬9223372036854775807 < S1.size + S2.size := by
      have := congrArg ByteArray.size hsum
      rw [ByteArray.size_append] at this
      omega
    go_wp2_with (fail)
    go_ret
    exact ⟨ret_bool (by simp), Hb4.out⟩
theorem codecVery_walk {H : Type} {enc : TypeId × Value → H} (W : World) (s0 : ByteArray) (y0 : s0.size ≤ 140737488351232) :
    Calls Try.prog 5 #[.string s0] W fun e w' => e = .returned (.bool true) ∧ Below W.heap.size W w' := by
  exact very_core s0 W y0
end Go.Proofs.Ytcfjefngfmnmaaa.C22
