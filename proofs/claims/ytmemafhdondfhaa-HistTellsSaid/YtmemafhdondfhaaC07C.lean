/- What Percentile of the package hist tells. -/
import Derived.Test.YtmemafhdondfhaaC07B
namespace Go.Proofs.Ytmemafhdondfhaa.C06
open Go.RowKit Go.Proofs.Ytmemafhdondfhaa Go.Proofs.Ytmemafhdondfhaa.Win
set_option linter.unusedVariables false
set_option linter.unusedSimpArgs false
set_option linter.unnecessarySimpa false
attribute [local go_sem] C01.max2_mx C01.min2_mn C01.max_two C01.min_two
theorem told_in {W : Win} (h : Ok W) {t : Int} (t0 : 0 ≤ t) (t1 : t ≤ 18446744073709551615) (k : Nat) : 0 ≤ W.told t k ∧ W.told t k ≤ 18446744073709551615 := sumTo_in (h.tick t0 t1) _ _ _
theorem sum65 {w : World} {C : Nat} {f : Nat → Int} (h : Bins w C f) (hf : ∀ i, 0 ≤ f i ∧ f i ≤ 18446744073709551615) :
    Calls Try.prog 24 #[.slice (some ⟨C, 0, none⟩) 65 65] w fun e w' => e = .returned (.int .u64 (Hst.run f 65)) ∧ w = w' := by
  have hl : ((List.range 65).map f).length = 65 := by rw [List.length_map, List.length_range]
  have := C01.sum_calls ((List.range 65).map f) (some ⟨C, 0, none⟩) 65 w (by rw [hl]; omega) (by
    intro x hx
    obtain ⟨i, _, rfl⟩ := List.mem_map.1 hx
    have := hf i
    omega) (.inr ⟨C, 0, rfl, fun i hi => by
      rw [hl] at hi
      rw [Nat.zero_add, (h i hi).1, List.getD_eq_getElem?_getD, List.getElem?_map, List.getElem?_range hi]
      rfl⟩)
  rw [hl, Hst.run_sum] at this
  exact this
theorem ret_ib {a a' : Int} {b b' : Bool} (h : a = a') (h2 : b = b') : Ending.returned (.tuple #[.int .u64 a, .bool b]) = .returned (.tuple #[.int .u64 a', .bool b']) := by rw [h, h2]
set_option maxHeartbeats 2000000 in
/-- Percentile, whatever All tells. -/
theorem perc_core (p q : Int) (f : Nat → Int) (Ptr : Value) (t : Int) (w : World) (p0 : -9223372036854775808 ≤ p) (p1 : p ≤ 9223372036854775807) (hq : Sat.mn (Sat.mx p 1) 100 = q) (q0 : 1 ≤ q) (q1 : q ≤ 100) (R : World → Prop)
    (hall : Hid (Calls Try.prog 18 #[Ptr, .int .u64 t] w fun e w' => e = .returned (.agg (bl f).toArray) ∧ R w'))
    (hf : Hid (∀ i, 0 ≤ f i ∧ f i ≤ 18446744073709551615)) (hR : Hid (∀ w', R w' → ∀ (o : Obj) vs, R ((w'.alloc o).setCells w'.heap.size 0 vs))) :
    Calls Try.prog 15 #[Ptr, .int .u64 t, .int .i64 p] w fun e w' => e = .returned (.tuple #[.int .u64 (Hst.percN f p), .bool (Hst.percB f p)]) ∧ R w' := by
  obtain ⟨LA, hLA⟩ : ∃ Z : Array Value, Hid (Z = (bl f).toArray) := ⟨_, hid rfl⟩
  obtain ⟨ZA, hZA⟩ : ∃ Z : Array Value, Hid (Z = (bl fun _ => 0).toArray) := ⟨_, hid rfl⟩
  have hz : ∀ w, (zeroValue 42).run Try.prog w = .ok (.agg ZA) w := by rw [hZA.out]; exact zero42
  have hj65 : (Try.prog.info? 42).map (·.size) = some LA.size := by rw [hLA.out, List.size_toArray, bl_len]; kernel_rfl
  have hon : Hid (LA.all (·.oneCell') = true) := by
    show _ = true
    rw [hLA.out]
    exact all_oneCell_toArray (bl_one _)
  have hZB : ∀ w : World, Bins (w.alloc (.cells ZA 42)) w.heap.size (fun _ => 0) := fun w => bins_of (T := 42) (by rw [heap_alloc_new, hZA.out])
  have hth : Hid (∀ w : World, (w.alloc (.cells ZA 42)).there w.heap.size 0 LA.size) := by
    intro w i hi
    rw [hLA.out, List.size_toArray, bl_len] at hi
    rw [Nat.zero_add]
    exact ⟨by rw [(hZB w i hi).1]; rfl, (hZB w i hi).2⟩
  have HZ := hid hZB
  rw [← hLA.out] at hall
  clear hZB
  go_enter Try.func15, Try.ntmps15
  go_wp2_with fail
  refine hall.out.mono ?_
  rintro e w1 ⟨rfl, hr⟩
  have hR1 := hid (hR.out w1 hr (.cells ZA 42 (0, 0)) LA.toList)
  have hB1 : Hid (Bins ((w1.alloc (.cells ZA 42 (0, 0))).setCells w1.heap.size 0 LA.toList) w1.heap.size f) := by
    show Bins _ _ _
    rw [hLA.out]
    exact (HZ.out w1).sets f
  have hS1 := hid (fun w (h : Bins w w1.heap.size f) => sum65 h hf.out)
  clear hr
  go_wp2_with (refine wpList_store_mid rfl 42 _ _ rfl _ _ LA rfl rfl (hth.out _) hj65 hon.out ?_)
  generalize ((w1.alloc (Obj.cells ZA 42 (0, 0))).setCells w1.heap.size 0 LA.toList) = w2 at *
  generalize w1.heap.size = C at *
  refine (hS1.out _ hB1.out).mono ?_
  rintro e w' ⟨rfl, rfl⟩
  clear hz hj65 hon hth HZ hS1 hall
  by_cases h0 : Hst.run f 65 = 0
  · have hp := hid (Hst.perc_zero (p := p) h0)
    go_wp2_with fail
    go_ret2
    exact ⟨ret_ib hp.out.1.symm hp.out.2.symm, hR1.out⟩
  · have H0 := hid h0
    have hb0 : (Hst.run f 65 == 0) = false := by rw [beq_eq_false_iff_ne]; exact h0
    have hr65 := hid (Hst.rn_in (fun i => (hf.out i).1) 65)
    generalize hS : Hst.run f 65 = S at *
    have HS := hid hS
    clear h0 hS
    go_wp2_with fail
    go_loop [10, 19] (fun n i => ∃ k : Nat, k ≤ 65 ∧ i = .int .i64 k ∧ n = .int .u64 (Hst.run f k) ∧ ∀ j, j < k → Hst.hit f p j = false) (fun _ i => 65 - (intOf i).toNat)
    case atStart => exact ⟨0, Nat.zero_le _, rfl, rfl, fun j hj => absurd hj (Nat.not_lt_zero _)⟩
    case round =>
      obtain ⟨k, hk, rfl, rfl, hpre⟩ := hrel
      have Hpre := hid hpre
      clear hpre
      by_cases hlt : k < 65
      · have hc := (hB1.out k hlt).1
        have hfk := hf.out k
        have hrk := Hst.rn_in (fun i => (hf.out i).1) k
        have hrk1 := Hst.rn_in (fun i => (hf.out i).1) (k + 1)
        have Hadd := hid (fun w => C01.add_calls (Hst.run f k) (f k) hrk.1 hrk.2 hfk.1 (by omega) w)
        rw [← Hst.run_succ] at Hadd
        have Hatl := hid (fun w => C01.atLeast_calls (Hst.run f (k + 1)) S q hrk1.1 hrk1.2 hr65.out.1 hr65.out.2 (by omega) (by omega) w)
        have hhit : Hid (Sat.atl (Hst.run f (k + 1)) S q = Hst.hit f p k) := by
          show _ = _
          unfold Hst.hit Hst.clamp
          rw [hq, HS.out]
        have Htop := hid (fun w => top_calls k k (by unfold Sat.mn Sat.mx; (repeat' split) <;> omega) (by omega) (by omega) (by omega) w)
        rw [hhit.out] at Hatl
        have hlti : (k : Int) < 65 := by omega
        clear hrk hrk1 hfk
        generalize hh : Hst.hit f p k = b at *
        have HH := hid hh
        clear hh
        cases b with
        | true =>
          have hp := hid (Hst.perc_of (by rw [HS.out]; exact H0.out) hlt Hpre.out HH.out)
          go_wp2_with fail
          refine (Hadd.out _).mono ?_
          rintro e w' ⟨rfl, rfl⟩
          go_wp2_with fail
          refine (Hatl.out _).mono ?_
          rintro e w' ⟨rfl, rfl⟩
          go_wp2_with fail
          refine (Htop.out _).mono ?_
          rintro e w' ⟨rfl, rfl⟩
          go_wp2_with fail
          go_ret2
          exact ⟨ret_ib hp.out.1.symm hp.out.2.symm, hR1.out⟩
        | false =>
          go_wp2_with fail
          refine (Hadd.out _).mono ?_
          rintro e w' ⟨rfl, rfl⟩
          go_wp2_with fail
          refine (Hatl.out _).mono ?_
          rintro e w' ⟨rfl, rfl⟩
          go_wp2_with fail
          go_round
          case rel => exact ⟨k + 1, by omega, by go_num, rfl, fun j hj => by
            rcases Nat.lt_or_eq_of_le (Nat.lt_succ_iff.1 hj) with h | rfl
            · exact Hpre.out j h
            · exact HH.out⟩
          case measure => simp [intOf]; omega
      · obtain rfl : k = 65 := by omega
        have hp := hid (Hst.perc_end Hpre.out)
        go_wp2_with fail
        go_ret2
        exact ⟨ret_ib hp.out.1.symm hp.out.2.symm, hR1.out⟩
theorem below_sets {B C : Nat} {w w' : World} (h : Below B w w') (hC : B ≤ C) : ∀ (vs : List Value) (o : Nat), Below B w (w'.setCells C o vs) := by
  intro vs
  induction vs generalizing w' with
  | nil => intro o; exact h
  | cons v vs ih => intro o; exact ih (h.setCell hC v) (o + 1)
theorem run_zeros (k : Nat) : Hst.run (fun _ => 0) k = 0 := by
  induction k with
  | zero => rfl
  | succ k ih => rw [Hst.run_succ, ih]; rfl
theorem perc_calls (B : Nat) (W : Win) (t p : Int) (w : World) (h : At w B W) (hB : B < w.heap.size) (ok : Ok W) (t0 : 0 ≤ t) (t1 : t ≤ 18446744073709551615) (p0 : -9223372036854775808 ≤ p) (p1 : p ≤ 9223372036854775807) :
    Calls Try.prog 15 #[.pointer (some ⟨B, 0, none⟩), .int .u64 t, .int .i64 p] w fun e w' => e = .returned (.tuple #[.int .u64 (Hst.percN (W.told t) p), .bool (Hst.percB (W.told t) p)]) ∧ At w' B (W.tick t) ∧ Only B w w' := by
  have hc := Hst.clamp_in p
  exact perc_core p (Hst.clamp p) (fun k => W.told t k) _ t w p0 p1 rfl hc.1 hc.2 (fun w' => At w' B (W.tick t) ∧ Only B w w') (hid (all_calls B W t w h hB ok t0 t1)) (hid (told_in ok t0 t1)) (hid fun w' hw o vs => by
    have hs := hw.2.size
    exact ⟨hw.1.same ((heap_setCells _ _ (by omega) _ _ _).trans (Below.heap_alloc _ _ _ (by omega))), (hw.2.alloc o).farSets (by omega) _ _⟩)
theorem all_nil (t : Int) (w : World) : Calls Try.prog 18 #[.pointer none, .int .u64 t] w fun e w' => e = .returned (.agg (bl fun _ => 0).toArray) ∧ Below w.heap.size w w' := by
  obtain ⟨ZA, hZA⟩ : ∃ Z : Array Value, Hid (Z = (bl fun _ => 0).toArray) := ⟨_, hid rfl⟩
  have hz : ∀ w, (zeroValue 42).run Try.prog w = .ok (.agg ZA) w := by rw [hZA.out]; exact zero42
  have hi65 : (Try.prog.info? 42).map (·.size) = some ZA.toList.length := by rw [hZA.out, bl_len]; kernel_rfl
  have hj65 : (Try.prog.info? 42).map (·.size) = some ZA.size := by rw [hZA.out, List.size_toArray, bl_len]; kernel_rfl
  have hon : Hid (ZA.all (·.oneCell') = true) := by
    show _ = true
    rw [hZA.out]
    exact all_oneCell_toArray (bl_one _)
  have hZ1 : Hid (Bins ((w.alloc (.cells ZA 42 (0, 0))).alloc (.cells ZA 42 (0, 0))) w.heap.size (fun _ => 0)) := bins_of (T := 42) (by rw [heap_alloc2_old, hZA.out])
  have hZ2 : Hid (Bins ((w.alloc (.cells ZA 42 (0, 0))).alloc (.cells ZA 42 (0, 0))) (w.heap.size + 1) (fun _ => 0)) := bins_of (T := 42) (by rw [heap_alloc2_new, hZA.out])
  have hrg : Hid (((w.alloc (.cells ZA 42 (0, 0))).alloc (.cells ZA 42 (0, 0))).rangeAt (w.heap.size + 1) 0 ZA.toList) := by show World.rangeAt _ _ _ _; rw [hZA.out]; rw [← hZA.out]; have := hZ2.out.range; rw [hZA.out]; rw [← hZA.out]; simpa [hZA.out] using this
  have hth : Hid (((w.alloc (.cells ZA 42 (0, 0))).alloc (.cells ZA 42 (0, 0))).there w.heap.size 0 ZA.size) := by
    intro i hi
    rw [hZA.out, List.size_toArray, bl_len] at hi
    rw [Nat.zero_add]
    exact ⟨by rw [(hZ1.out i hi).1]; rfl, (hZ1.out i hi).2⟩
  go_enter Try.func18, Try.ntmps18
  go_wp2_with (first
    | refine wpList_load_mid rfl 42 _ rfl _ _ rfl ZA.toList _ hrg.out Try.underlying42 rfl hi65 ?_
    | refine wpList_store_mid rfl 42 _ _ rfl _ _ ZA rfl rfl hth.out hj65 hon.out ?_)
  have hres : (loadCellsFrom ⟨w.heap.size, 0, none⟩ 0 65 #[]).run Try.prog _ = _ := (hZ1.out.sets (fun _ => 0)).load _
  rw [show ZA.toList = bl (fun _ => 0) from by rw [hZA.out]]
  refine bodyPost_ret (v := .agg (bl fun _ => 0).toArray) (by simp only [results, Try.results18, go_sem]; simp; rw [hres]; rfl) rfl ⟨rfl, ?_⟩
  exact below_sets (((Below.refl _ _).alloc (Nat.le_refl _) _).alloc (by simp) _) (Nat.le_refl _) _ _
theorem perc_nil (t p : Int) (w : World) (p0 : -9223372036854775808 ≤ p) (p1 : p ≤ 9223372036854775807) :
    Calls Try.prog 15 #[.pointer none, .int .u64 t, .int .i64 p] w fun e w' => e = .returned (.tuple #[.int .u64 0, .bool false]) ∧ Below w.heap.size w w' := by
  have hc := Hst.clamp_in p
  have h0 : Hst.run (fun _ => 0) 65 = 0 := run_zeros 65
  have := perc_core p (Hst.clamp p) (fun _ => 0) (.pointer none) t w p0 p1 rfl hc.1 hc.2 (fun w' => Below w.heap.size w w') (hid (all_nil t w)) (hid fun _ => by omega) (hid fun w' hw o vs => below_sets (hw.alloc hw.size o) hw.size _ _)
  rw [(Hst.perc_zero h0).1, (Hst.perc_zero h0).2] at this
  exact this
end Go.Proofs.Ytmemafhdondfhaa.C06
