/- The walk of the law HistNobody. -/
import Derived.Test.YtmemafhdondfhaaC07D
namespace Go.Proofs.Ytmemafhdondfhaa.C06
open Go.RowKit Go.Proofs.Ytmemafhdondfhaa Go.Proofs.Ytmemafhdondfhaa.Win
set_option linter.unusedVariables false
set_option linter.unusedSimpArgs false
set_option linter.unnecessarySimpa false
attribute [local go_sem] C01.max2_mx C01.min2_mn C01.max_two C01.min_two
theorem below_via {B : Nat} {W X w1 : World} (hb : Below X.heap.size X w1) (h0 : Below B W X) (hB : B ≤ X.heap.size) : Below B W w1 := h0.trans (hb.mono hB)
theorem holds_fresh {n width : Int} (n1 : 1 ≤ n) (n8 : n ≤ 8) (w1 : 1 ≤ width) (w2 : width ≤ 1099511627776) : Holds (fresh n width) [] := by
  refine ⟨ok_fresh n1 n8 w1 w2, fun j => ?_, fun j hj => .inl rfl, fun e he => absurd he (List.not_mem_nil), fun j hj k => ?_⟩
  · show (0 : Int) ≤ 0 / width; simp
  · rw [tot_nil, cap_zero]; split <;> rfl
theorem time_fresh (n width t : Int) (t0 : 0 ≤ t) : (fresh n width).time t = t := by show Sat.mx 0 t = t; unfold Sat.mx; split <;> omega
theorem mx_self (t : Int) : Sat.mx t t = t := by unfold Sat.mx; split <;> rfl
theorem cap_id {n : Int} (h : n ≤ 18446744073709551615) : Sat.cap n = n := by unfold Sat.cap; split <;> omega
/-- Two arrays of sixty-five are compared. -/
theorem leaves42 : Opn.leaves Try.prog 3 42 = some (List.replicate 65 (.int .u64)) := by kernel_rfl
theorem litOk_rep : ∀ (l : List Int), (∀ x ∈ l, 0 ≤ x ∧ x ≤ 18446744073709551615) → Opn.LitOk (List.replicate l.length (.int .u64)) (l.map fun x => Value.int .u64 x) (l.map fun x => Lit.int .u64 x) := by
  intro l
  induction l with
  | nil => intro _; exact ⟨rfl, rfl⟩
  | cons x l ih =>
    intro h
    have h1 := h x List.mem_cons_self
    exact ⟨_, _, _, _, rfl, rfl, ⟨_, rfl, rfl, wf_u64 h1.1 h1.2⟩, ih fun y hy => h y (List.mem_cons_of_mem _ hy)⟩
theorem bl_map (f : Nat → Int) : bl f = ((List.range 65).map f).map fun x => Value.int .u64 x := by unfold bl; rw [List.map_map]; rfl
theorem eq65 (f g : Nat → Int) (hf : ∀ i, 0 ≤ f i ∧ f i ≤ 18446744073709551615) (hg : ∀ i, 0 ≤ g i ∧ g i ≤ 18446744073709551615) (r : Bool) (hr : r = true ↔ ∀ i, i < 65 → f i = g i) (w : World) :
    Sem.run Try.prog (Op.equalIn 10000 42 (.agg (bl f).toArray) (.agg (bl g).toArray)) w = .ok r w := by
  have hl : ∀ f : Nat → Int, (∀ i, 0 ≤ f i ∧ f i ≤ 18446744073709551615) → Opn.LitOk (List.replicate 65 (.int .u64)) (bl f).toArray.toList (((List.range 65).map f).map fun x => Lit.int .u64 x) := by
    intro f hf
    have := litOk_rep ((List.range 65).map f) (by
      intro x hx
      obtain ⟨i, _, rfl⟩ := List.mem_map.1 hx
      exact hf i)
    rw [List.length_map, List.length_range, ← bl_map] at this
    exact this
  refine Opn.eq_run (ls := List.replicate 65 (.int .u64)) 9997 3 10000 (by rfl) (by kernel_rfl) leaves42 (by kernel_rfl) (by rw [List.length_replicate]; kernel_rfl) (hl f hf) (hl g hg) r ?_ w
  rw [hr]
  constructor
  · intro h
    congr 1
    apply List.map_congr_left
    intro i hi
    exact h i (List.mem_range.1 hi)
  · intro h i hi
    have h2 := congrArg (fun l => l[i]?) h
    simp [hi] at h2
    exact h2
/-- One note alone. -/
theorem run_single {f : Nat → Int} (k : Nat) (v : Int) (v0 : 0 ≤ v) (v1 : v ≤ 18446744073709551615) (hf : ∀ i, f i = if i = k then v else 0) (m : Nat) : Hst.run f m = if m ≤ k then 0 else v := by
  induction m with
  | zero => rw [Hst.run_zero, if_pos (by omega)]
  | succ m ih =>
    rw [Hst.run_succ, ih, hf m]
    rcases Nat.lt_trichotomy m k with h | h | h
    · rw [if_pos (by omega), if_neg (by omega), if_pos (by omega)]; rfl
    · rw [if_pos (by omega), if_pos h, if_neg (by omega)]; exact Sat.zero_add v0 (by omega)
    · rw [if_neg (by omega), if_neg (by omega), if_neg (by omega)]; exact Sat.add_zero v0 (by omega)
theorem perc_single {f : Nat → Int} (k : Nat) (v : Int) (v0 : 1 ≤ v) (v1 : v ≤ 18446744073709551615) (hf : ∀ i, f i = if i = k then v else 0) (hk : k < 65) (p : Int) : Hst.percN f p = Hst.top k ∧ Hst.percB f p = true := by
  have hr := run_single k v (by omega) v1 hf
  have hc := Hst.clamp_in p
  have h65 : Hst.run f 65 = v := by rw [hr, if_neg (by omega)]
  refine Hst.perc_of (by rw [h65]; omega) hk (fun j hj => ?_) ?_
  · unfold Hst.hit
    rw [h65, hr, if_pos (by omega)]
    apply Bool.eq_false_iff.2
    intro h
    rw [Hst.atl_iff (by omega)] at h
    have := Int.mul_le_mul hc.1 v0 (by omega) (by omega)
    omega
  · unfold Hst.hit
    rw [h65, hr, if_neg (by omega), Hst.atl_iff (by omega)]
    exact Int.mul_le_mul_of_nonneg_right hc.2 (by omega)
theorem none_told (t : Int) (t0 : 0 ≤ t) (t1 : t ≤ 18446744073709551615) (i : Nat) : (fresh 1 1).told t i = 0 := by
  rw [(holds_fresh (n := 1) (width := 1) (by omega) (by omega) (by omega) (by omega)).told t0 t1 i, tot_nil, cap_zero]
theorem one_told (t : Int) (k : Nat) (t0 : 0 ≤ t) (t1 : t ≤ 18446744073709551615) (i : Nat) : (((fresh 1 1).tick t).add t k 1).told t i = if i = k then 1 else 0 := by
  have h := ((holds_fresh (n := 1) (width := 1) (by omega) (by omega) (by omega) (by omega)).tick t0 t1).add t0 t1 k (v := 1) (by omega)
  rw [h.told t0 t1 i]
  have e1 : ((fresh 1 1).tick t).bkt t = t := by
    show Sat.mx ((fresh 1 1).time t) t / 1 = t
    rw [time_fresh _ _ _ t0, mx_self]; simp
  have e2 : (((fresh 1 1).tick t).add t k 1).bkt t = t := by
    show Sat.mx (Sat.mx ((fresh 1 1).time t) t) t / 1 = t
    rw [time_fresh _ _ _ t0, mx_self, mx_self]; simp
  rw [e1, e2]
  show Sat.cap (tot [⟨t, k, 1⟩] fun e => decide (e.k = i ∧ t - 1 < e.q)) = _
  rw [tot_cons, tot_nil, Int.add_zero]
  by_cases h2 : i = k
  · subst h2
    rw [if_pos rfl, if_pos (by simp; omega)]; rfl
  · rw [if_neg h2, if_neg (by simp; omega), cap_zero]
set_option maxHeartbeats 2000000 in
theorem nobody_core (t p : Int) (x k : Nat) (w : World) (t0 : 0 ≤ t) (t1 : t ≤ 18446744073709551615) (hx : x < 18446744073709551616) (p0 : -9223372036854775808 ≤ p) (p1 : p ≤ 9223372036854775807) (hk : k ≤ 64) (hbk : Hid (Bits.blen x = k)) :
    Calls Try.prog 8 #[.int .u64 t, .int .u64 x, .int .i64 p] w fun e w' => e = .returned (.bool true) ∧ Below w.heap.size w w' := by
  obtain ⟨ZA, hZA⟩ : ∃ Z : Array Value, Hid (Z = (bl fun _ => 0).toArray) := ⟨_, hid rfl⟩
  have hz : ∀ w, (zeroValue 42).run Try.prog w = .ok (.agg ZA) w := by rw [hZA.out]; exact zero42
  have eqz : ∀ w, Sem.run Try.prog (Op.equalIn 10000 42 (.agg ZA) (.agg ZA)) w = .ok true w := by
    rw [hZA.out]
    exact eq65 (fun _ => 0) (fun _ => 0) (fun _ => by omega) (fun _ => by omega) true (by simp)
  have hx2 : (x : Int) ≤ 18446744073709551615 := by omega
  have e0 : Hst.percB ((fresh 1 1).told t) p = false := (Hst.perc_zero (by rw [Hst.run_congr (g := fun _ => 0) fun i _ => none_told t t0 t1 i]; exact run_zeros 65)).2
  have e1 := perc_single k 1 (by omega) (by omega) (one_told t k t0 t1) (by omega) p
  have E0 := hid e0
  have E1 := hid e1
  have hBin := hid fun w => bin_calls x hx w
  rw [hbk.out] at hBin
  have hTop := hid fun w => top_calls k k (by unfold Sat.mn Sat.mx; (repeat' split) <;> omega) hk (by omega) (by omega) w
  clear e0 e1
  go_enter Try.func8, Try.ntmps8
  go_wp2_with fail
  refine (awake_calls _).mono ?_
  rintro e w1 ⟨rfl, hb⟩
  have Hb := hid hb
  clear hb
  go_wp2_with fail
  refine (add_nil _ _ _).mono ?_
  rintro e w' ⟨rfl, rfl⟩
  go_wp2_with fail
  refine (perc_nil _ _ _ p0 p1).mono ?_
  rintro e w2 ⟨rfl, hb⟩
  have Hb2 := hid (below_via (B := w.heap.size) hb Hb.out Hb.out.size)
  clear hb
  go_wp2_with fail
  refine (new_has w 1 1 w2 Hb2.out (by omega) (by omega) (by omega) (by omega)).mono ?_
  rintro e w3 ⟨rfl, h3, _⟩
  have H3 := hid h3
  clear h3
  go_wp2_with fail
  refine (perc_has H3.out t p t0 t1 p0 p1).mono ?_
  rintro e w4 ⟨rfl, h4, _⟩
  rw [E0.out]
  have H4 := hid h4
  clear h4
  go_wp2_with fail
  refine (add_has H4.out t x t0 t1 hx).mono ?_
  rintro e w5 ⟨rfl, h5, _⟩
  rw [hbk.out] at h5
  have H5 := hid h5
  clear h5
  go_wp2_with fail
  refine (perc_has H5.out t p t0 t1 p0 p1).mono ?_
  rintro e w6 ⟨rfl, h6, _⟩
  rw [E1.out.1, E1.out.2]
  have H6 := hid h6
  clear h6
  go_wp2_with fail
  refine (all_nil _ _).mono ?_
  rintro e w7 ⟨rfl, hb⟩
  rw [← hZA.out]
  have Hb7 := hid (below_via (B := w.heap.size) hb H6.out.below H6.out.below.size)
  clear hb
  go_wp2_with fail
  refine (hBin.out _).mono ?_
  rintro e w' ⟨rfl, rfl⟩
  go_wp2_with fail
  refine (hTop.out _).mono ?_
  rintro e w' ⟨rfl, rfl⟩
  go_wp2_with fail
  go_ret
  exact ⟨ret_bool (by simp), Hb7.out⟩
theorem histNobody_walk {H : Type} {enc : TypeId × Value → H} (W : World) (a0 : Int) (w0 : (Lit.int .u64 a0).wf = true) (a1 : Int) (w1 : (Lit.int .u64 a1).wf = true) (a2 : Int) (w2 : (Lit.int .i64 a2).wf = true) :
    Calls Try.prog 8 #[.int .u64 a0, .int .u64 a1, .int .i64 a2] W fun e w' => e = .returned (.bool true) ∧ Below W.heap.size W w' := by
  obtain ⟨t0, t1⟩ := Sat.wf_u64 w0
  obtain ⟨x0, x1⟩ := Sat.wf_u64 w1
  obtain ⟨p0, p1⟩ := Sat.wf_i64 w2
  obtain ⟨x, rfl⟩ := Int.eq_ofNat_of_zero_le x0
  have hx : x < 18446744073709551616 := by omega
  exact nobody_core a0 a2 x (Bits.blen x) W t0 (by omega) hx p0 p1 (Bits.blen_le64 hx) (hid rfl)
end Go.Proofs.Ytmemafhdondfhaa.C06
