/- The walk of the law WindowNobody. -/
import Derived.Test.YtaepffcnhieckaaC06L
namespace Go.Proofs.Ytaepffcnhieckaa.C06
open Go.RowKit Go.Proofs.Ytaepffcnhieckaa Go.Proofs.Ytaepffcnhieckaa.Win
set_option linter.unusedVariables false
set_option linter.unusedSimpArgs false
set_option linter.unnecessarySimpa false
attribute [local go_sem] C01.max2_mx C01.min2_mn C01.max_two C01.min_two
theorem below_via {B : Nat} {W X w1 : World} (hb : Below X.heap.size X w1) (h0 : Below B W X) (hB : B ≤ X.heap.size) : Below B W w1 := h0.trans (hb.mono hB)
theorem ret_bool {a b : Bool} (h : a = b) : Ending.returned (.bool a) = .returned (.bool b) := by rw [h]
theorem holds_fresh {n width : Int} (n1 : 1 ≤ n) (n8 : n ≤ 8) (w1 : 1 ≤ width) (w2 : width ≤ 1099511627776) : Holds (fresh n width) [] := by
  refine ⟨ok_fresh n1 n8 w1 w2, fun j => ?_, fun j hj => .inl rfl, fun e he => absurd he (List.not_mem_nil), fun j hj k => ?_⟩
  · show (0 : Int) ≤ 0 / width; simp
  · rw [tot_nil, cap_zero]; split <;> rfl
theorem time_fresh (n width t : Int) (t0 : 0 ≤ t) : (fresh n width).time t = t := by show Sat.mx 0 t = t; unfold Sat.mx; split <;> omega
theorem mx_self (t : Int) : Sat.mx t t = t := by unfold Sat.mx; split <;> rfl
theorem cap_id {n : Int} (h : n ≤ 18446744073709551615) : Sat.cap n = n := by unfold Sat.cap; split <;> omega
theorem one_told (t n : Int) (k : Nat) (t0 : 0 ≤ t) (t1 : t ≤ 18446744073709551615) (n0 : 0 ≤ n) (n1 : n ≤ 18446744073709551615) (i : Nat) : ((fresh 1 1).add t k n).told t i = if i = k then n else 0 := by
  have h := (holds_fresh (n := 1) (width := 1) (by omega) (by omega) (by omega) (by omega)).add t0 t1 k n0
  rw [h.told t0 t1 i]
  have e1 : (fresh 1 1).bkt t = t := by unfold Win.bkt; rw [time_fresh _ _ _ t0]; show t / 1 = t; simp
  have e2 : ((fresh 1 1).add t k n).bkt t = t := by
    show Sat.mx ((fresh 1 1).time t) t / 1 = t
    rw [time_fresh _ _ _ t0, mx_self]; simp
  rw [e1, e2]
  show Sat.cap (tot [⟨t, k, n⟩] fun e => decide (e.k = i ∧ t - 1 < e.q)) = _
  rw [tot_cons, tot_nil, Int.add_zero]
  by_cases h2 : i = k
  · subst h2
    rw [if_pos rfl, if_pos (by simp; omega), cap_id n1]
  · rw [if_neg h2, if_neg (by simp; omega), cap_zero]
theorem none_told (t : Int) (t0 : 0 ≤ t) (t1 : t ≤ 18446744073709551615) (i : Nat) : (fresh 1 1).told t i = 0 := by
  rw [(holds_fresh (n := 1) (width := 1) (by omega) (by omega) (by omega) (by omega)).told t0 t1 i, tot_nil, cap_zero]
set_option maxHeartbeats 2000000 in
theorem nobody_in (t n : Int) (k : Nat) (w : World) (hk : k < 5) (t0 : 0 ≤ t) (t1 : t ≤ 18446744073709551615) (n0 : 0 ≤ n) (n1 : n ≤ 18446744073709551615) (c : Nat → Int) (hc : Hid (∀ i, ((fresh 1 1).add t k n).told t i = c i)) (hs : Hid (c 0 + c 1 + c 2 + c 3 + c 4 = n)) (hc0 : Hid (∀ i, 0 ≤ c i ∧ c i ≤ n)) :
    Calls Try.prog 7 #[.int .u64 t, .int .i64 k, .int .u64 n] w fun e w' => e = .returned (.bool true) ∧ Below w.heap.size w w' := by
  have hk5 : (k : Int) ≤ 4 := by omega
  go_enter Try.func7, Try.ntmps7
  go_wp2_with fail
  refine (awake_calls _).mono ?_
  rintro e w1 ⟨rfl, hb⟩
  have Hb := hid hb
  clear hb
  go_wp2_with fail
  refine (reset_nil _).mono ?_
  rintro e w' ⟨rfl, rfl⟩
  go_wp2_with fail
  refine (new_has w 1 1 w1 Hb.out (by omega) (by omega) (by omega) (by omega)).mono ?_
  rintro e w2 ⟨rfl, h2, _, _⟩
  have H2 := hid h2
  clear h2
  go_wp2_with fail
  refine (add_has H2.out t n k t0 t1 hk n0 n1).mono ?_
  rintro e w3 ⟨rfl, h3, _⟩
  have H3 := hid h3
  clear h3
  go_wp2_with fail
  refine (counts_has H3.out t t0 t1).mono ?_
  rintro e w4 ⟨rfl, h4, _⟩
  have H4 := hid h4
  clear h4
  rw [hc.out, hc.out, hc.out, hc.out, hc.out]
  have b0 := (hc0.out 0).1
  have b1 := (hc0.out 1).1
  have b2 := (hc0.out 2).1
  have b3 := (hc0.out 3).1
  have b4 := (hc0.out 4).1
  have a1 : c 0 + c 1 ≤ 18446744073709551615 := by have := hs.out; omega
  have a2 : c 0 + c 1 + c 2 ≤ 18446744073709551615 := by have := hs.out; omega
  have a3 : c 0 + c 1 + c 2 + c 3 ≤ 18446744073709551615 := by have := hs.out; omega
  have a4 : c 0 + c 1 + c 2 + c 3 + c 4 ≤ 18446744073709551615 := by have := hs.out; omega
  go_wp2_with fail
  refine wp_loop_rounds 6 ?_
  iterate 6 (rw [rounds_succ]; go_wp2_with fail)
  refine (add_nil _ _ _ _ (by omega) (by omega)).mono ?_
  rintro e w' ⟨rfl, rfl⟩
  go_wp2_with fail
  refine (counts_nil _ _).mono ?_
  rintro e w5 ⟨rfl, hb5⟩
  have Hb5 := hid (below_via (B := w.heap.size) hb5 ((H4.out.below.alloc H4.out.below.size _)) (by simp; have := H4.out.below.size; omega))
  clear hb5
  have eqz := eq5 (a0 := 0) (a1 := 0) (a2 := 0) (a3 := 0) (a4 := 0) (b0 := 0) (b1 := 0) (b2 := 0) (b3 := 0) (b4 := 0) (by omega) (by omega) true (by simp)
  have hsum : (c 0 + c 1 + c 2 + c 3 + c 4 == n) = true := by rw [beq_iff_eq]; exact hs.out
  go_wp2_with fail
  go_ret
  exact ⟨ret_bool (by first | rfl | simp | (simp; omega)), Hb5.out⟩
set_option maxHeartbeats 2000000 in
theorem nobody_out (t n k : Int) (w : World) (hk : k < 0 ∨ 5 ≤ k) (k0 : -9223372036854775808 ≤ k) (k1 : k ≤ 9223372036854775807) (t0 : 0 ≤ t) (t1 : t ≤ 18446744073709551615) (n0 : 0 ≤ n) (n1 : n ≤ 18446744073709551615) (hc : Hid (∀ i, (fresh 1 1).told t i = 0)) :
    Calls Try.prog 7 #[.int .u64 t, .int .i64 k, .int .u64 n] w fun e w' => e = .returned (.bool true) ∧ Below w.heap.size w w' := by
  have eqz := eq5 (a0 := 0) (a1 := 0) (a2 := 0) (a3 := 0) (a4 := 0) (b0 := 0) (b1 := 0) (b2 := 0) (b3 := 0) (b4 := 0) (by omega) (by omega) true (by simp)
  have Hk := hid hk
  rcases hk with hk | hk
  all_goals
    go_enter Try.func7, Try.ntmps7
    go_wp2_with fail
    refine (awake_calls _).mono ?_
    rintro e w1 ⟨rfl, hb⟩
    have Hb := hid hb
    clear hb
    go_wp2_with fail
    refine (reset_nil _).mono ?_
    rintro e w' ⟨rfl, rfl⟩
    go_wp2_with fail
    refine (new_has w 1 1 w1 Hb.out (by omega) (by omega) (by omega) (by omega)).mono ?_
    rintro e w2 ⟨rfl, h2, _, _⟩
    have H2 := hid h2
    clear h2
    go_wp2_with fail
    refine (add_none _ t n k _ Hk.out k0 k1).mono ?_
    rintro e w' ⟨rfl, rfl⟩
    go_wp2_with fail
    refine (counts_has H2.out t t0 t1).mono ?_
    rintro e w4 ⟨rfl, h4, _⟩
    have H4 := hid h4
    clear h4
    rw [hc.out, hc.out, hc.out, hc.out, hc.out]
    go_wp2_with fail
    refine wp_loop_rounds 6 ?_
    iterate 6 (rw [rounds_succ]; go_wp2_with fail)
    refine (add_nil _ _ _ _ (by omega) (by omega)).mono ?_
    rintro e w' ⟨rfl, rfl⟩
    go_wp2_with fail
    refine (counts_nil _ _).mono ?_
    rintro e w5 ⟨rfl, hb5⟩
    have Hb5 := hid (below_via (B := w.heap.size) hb5 ((H4.out.below.alloc H4.out.below.size _)) (by simp; have := H4.out.below.size; omega))
    clear hb5
    go_wp2_with fail
    go_ret
    exact ⟨ret_bool (by first | rfl | simp | (simp; omega)), Hb5.out⟩
theorem sum_one (k : Nat) (hk : k < 5) (n : Int) : (if 0 = k then n else 0) + (if 1 = k then n else 0) + (if 2 = k then n else 0) + (if 3 = k then n else 0) + (if 4 = k then n else 0) = n := by
  match k, hk with
  | 0, _ => simp
  | 1, _ => simp
  | 2, _ => simp
  | 3, _ => simp
  | 4, _ => simp
theorem windowNobody_walk {H : Type} {enc : TypeId × Value → H} (W : World) (a0 : Int) (w0 : (Lit.int .u64 a0).wf = true) (a1 : Int) (w1 : (Lit.int .i64 a1).wf = true) (a2 : Int) (w2 : (Lit.int .u64 a2).wf = true) :
    Calls Try.prog 7 #[.int .u64 a0, .int .i64 a1, .int .u64 a2] W fun e w' => e = .returned (.bool true) ∧ Below W.heap.size W w' := by
  obtain ⟨p0, p1⟩ := Sat.wf_u64 w0
  obtain ⟨q0, q1⟩ := Sat.wf_i64 w1
  obtain ⟨r0, r1⟩ := Sat.wf_u64 w2
  by_cases hk : a1 < 0 ∨ 5 ≤ a1
  · exact nobody_out a0 a2 a1 W hk q0 q1 p0 (by omega) r0 (by omega) (hid fun i => none_told a0 p0 (by omega) i)
  · obtain ⟨k, rfl⟩ := Int.eq_ofNat_of_zero_le (a := a1) (by omega)
    exact nobody_in a0 a2 k W (by omega) p0 (by omega) r0 (by omega) (fun i => if i = k then a2 else 0) (hid fun i => one_told a0 a2 k p0 (by omega) r0 (by omega) i) (hid (sum_one k (by omega) a2)) (hid fun i => by split <;> omega)
end Go.Proofs.Ytaepffcnhieckaa.C06
