/- What Percentile of the reference of chapter 7 tells. -/
import Derived.Test.YtmemafhdondfhaaC07S
namespace Go.Proofs.Ytmemafhdondfhaa.C06
open Go.RowKit Go.Proofs.Ytmemafhdondfhaa Go.Proofs.Ytmemafhdondfhaa.Win
set_option linter.unusedVariables false
set_option linter.unusedSimpArgs false
set_option linter.unnecessarySimpa false
attribute [local go_sem] C01.max2_mx C01.min2_mn C01.max_two C01.min_two
theorem rsum65 {w : World} {C : Nat} {f : Nat → Int} (h : Bins w C f) (hf : ∀ i, 0 ≤ f i ∧ f i ≤ 18446744073709551615) :
    Calls Try.prog 29 #[.slice (some ⟨C, 0, none⟩) 65 65] w fun e w' => e = .returned (.int .u64 (Hst.run f 65)) ∧ w = w' := by
  have hl : ((List.range 65).map f).length = 65 := by rw [List.length_map, List.length_range]
  have := C01.rsum_calls ((List.range 65).map f) (some ⟨C, 0, none⟩) 65 w (by rw [hl]; omega) (by
    intro x hx
    obtain ⟨i, _, rfl⟩ := List.mem_map.1 hx
    have := hf i
    omega) (.inr ⟨C, 0, rfl, fun i hi => by
      rw [hl] at hi
      rw [Nat.zero_add, (h i hi).1, List.getD_eq_getElem?_getD, List.getElem?_map, List.getElem?_range hi]
      rfl⟩)
  rw [hl, Hst.run_sum] at this
  exact this
set_option maxHeartbeats 2000000 in
theorem rperc_core (p q : Int) (f : Nat → Int) (w : World) (p0 : -9223372036854775808 ≤ p) (p1 : p ≤ 9223372036854775807) (hq : Sat.mn (Sat.mx p 1) 100 = q) (q0 : 1 ≤ q) (q1 : q ≤ 100)
    (hf : Hid (∀ i, 0 ≤ f i ∧ f i ≤ 18446744073709551615)) :
    Calls Try.prog 22 #[.agg (bl f).toArray, .int .i64 p] w fun e w' => e = .returned (.tuple #[.int .u64 (Hst.percN f p), .bool (Hst.percB f p)]) ∧ Below w.heap.size w w' := by
  obtain ⟨LA, hLA⟩ : ∃ Z : Array Value, Hid (Z = (bl f).toArray) := ⟨_, hid rfl⟩
  have hB1 : Hid (Bins (w.alloc (.cells LA 42 (0, 0))) w.heap.size f) := hid (bins_of (T := 42) (by rw [heap_alloc_new, hLA.out]))
  have hS1 := hid (rsum65 hB1.out hf.out)
  rw [← hLA.out]
  go_enter Try.func22, Try.ntmps22
  go_wp2_with fail
  refine hS1.out.mono ?_
  rintro e w' ⟨rfl, rfl⟩
  clear hS1
  by_cases h0 : Hst.run f 65 = 0
  · have hp := hid (Hst.perc_zero (p := p) h0)
    go_wp2_with fail
    refine wp_loop_rounds 1 ?_
    rw [rounds_succ]
    go_wp2_with fail
    go_ret2
    exact ⟨ret_ib hp.out.1.symm hp.out.2.symm, grow _ _⟩
  · have H0 := hid h0
    have hr65 := hid (Hst.rn_in (fun i => (hf.out i).1) 65)
    have hpos : 0 < Hst.run f 65 := by have := hr65.out.1; omega
    generalize hS : Hst.run f 65 = S at *
    have HS := hid hS
    clear h0 hS
    go_wp2_with fail
    go_loop [8, 9] (fun n i => ∃ k : Nat, k ≤ 65 ∧ i = .int .i64 k ∧ n = .int .u64 (Hst.run f k) ∧ ∀ j, j < k → Hst.hit f p j = false) (fun _ i => 65 - (intOf i).toNat)
    case atStart => exact ⟨0, Nat.zero_le _, rfl, rfl, fun j hj => absurd hj (Nat.not_lt_zero _)⟩
    case round =>
      obtain ⟨k, hk, rfl, rfl, hpre⟩ := hrel
      have Hpre := hid hpre
      clear hpre
      by_cases hlt : k < 65
      · have hc := (hB1.out k hlt).1
        have hfk := hf.out k
        have hrk := Hst.rn_in (fun i => (hf.out i).1) k
        have hrk1 := Hst.rn_in (fun i => (hf.out i).1) (k + 1)
        have Hadd := hid (fun w => C01.radd_calls (Hst.run f k) (f k) hrk.1 hrk.2 hfk.1 (by omega) w)
        rw [← Hst.run_succ] at Hadd
        have Hatl := hid (fun w => C01.ratLeast_calls (Hst.run f (k + 1)) S q hrk1.1 hrk1.2 hr65.out.1 hr65.out.2 (by omega) (by omega) w)
        have hhit : Hid (Sat.atl (Hst.run f (k + 1)) S q = Hst.hit f p k) := by
          show _ = _
          unfold Hst.hit Hst.clamp
          rw [hq, HS.out]
        have Htop := hid (fun w => rtop_calls k (by omega) w)
        rw [hhit.out] at Hatl
        have hlti : (k : Int) < 65 := by omega
        clear hrk hrk1 hfk
        generalize hh : Hst.hit f p k = b at *
        have HH := hid hh
        clear hh
        cases b with
        | true =>
          have hp := hid (Hst.perc_of (by rw [HS.out]; exact H0.out) hlt Hpre.out HH.out)
          go_wp2_with fail
          refine (Hadd.out _).mono ?_
          rintro e w' ⟨rfl, rfl⟩
          go_wp2_with fail
          refine (Hatl.out _).mono ?_
          rintro e w' ⟨rfl, rfl⟩
          go_wp2_with fail
          refine (Htop.out _).mono ?_
          rintro e w' ⟨rfl, rfl⟩
          go_wp2_with fail
          go_ret2
          exact ⟨ret_ib hp.out.1.symm hp.out.2.symm, grow _ _⟩
        | false =>
          go_wp2_with fail
          refine (Hadd.out _).mono ?_
          rintro e w' ⟨rfl, rfl⟩
          go_wp2_with fail
          refine (Hatl.out _).mono ?_
          rintro e w' ⟨rfl, rfl⟩
          go_wp2_with fail
          go_round
          case rel => exact ⟨k + 1, by omega, by go_num, rfl, fun j hj => by
            rcases Nat.lt_or_eq_of_le (Nat.lt_succ_iff.1 hj) with h | rfl
            · exact Hpre.out j h
            · exact HH.out⟩
          case measure => simp [intOf]; omega
      · obtain rfl : k = 65 := by omega
        have hp := hid (Hst.perc_end Hpre.out)
        go_wp2_with fail
        go_ret2
        exact ⟨ret_ib hp.out.1.symm hp.out.2.symm, grow _ _⟩
theorem rperc_calls (p : Int) (f : Nat → Int) (w : World) (p0 : -9223372036854775808 ≤ p) (p1 : p ≤ 9223372036854775807) (hf : ∀ i, 0 ≤ f i ∧ f i ≤ 18446744073709551615) :
    Calls Try.prog 22 #[.agg (bl f).toArray, .int .i64 p] w fun e w' => e = .returned (.tuple #[.int .u64 (Hst.percN f p), .bool (Hst.percB f p)]) ∧ Below w.heap.size w w' := by
  have hc := Hst.clamp_in p
  exact rperc_core p (Hst.clamp p) f w p0 p1 rfl hc.1 hc.2 (hid hf)
end Go.Proofs.Ytmemafhdondfhaa.C06
