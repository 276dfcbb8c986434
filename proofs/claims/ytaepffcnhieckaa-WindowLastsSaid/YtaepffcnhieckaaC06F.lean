/- The walks of the laws WindowFull and WindowLasts. -/
import Derived.Test.YtaepffcnhieckaaC06N
import Derived.Test.YtaepffcnhieckaaR01
namespace Go.Proofs.Ytaepffcnhieckaa.C06
open Go.RowKit Go.Proofs.Ytaepffcnhieckaa Go.Proofs.Ytaepffcnhieckaa.Win
set_option linter.unusedVariables false
set_option linter.unusedSimpArgs false
set_option linter.unnecessarySimpa false
attribute [local go_sem] C01.max2_mx C01.min2_mn C01.max_two C01.min_two
/-- An element of an array of five, at an index that is reckoned. -/
theorem idx5 (f : Nat → Int) (k : Nat) (hk : k < 5) (w : World) : (Instr.index 30 (.agg #[.int .u64 (f 0), .int .u64 (f 1), .int .u64 (f 2), .int .u64 (f 3), .int .u64 (f 4)]) (.int .i64 k)).run Try.prog w = .ok (.int .u64 (f k)) w := by
  have h : k = 0 ∨ k = 1 ∨ k = 2 ∨ k = 3 ∨ k = 4 := by omega
  rcases h with rfl | rfl | rfl | rfl | rfl
  all_goals rfl
set_option maxHeartbeats 4000000 in
theorem full_core (a b q : Int) (k : Nat) (w : World) (hk : k < 5) (hq : q % 5 = k) (q0 : 0 ≤ q) (q1 : q ≤ 255) (a0 : 0 ≤ a) (a1 : a ≤ 18446744073709551615) (b0 : 0 ≤ b) (b1 : b ≤ 18446744073709551615) (s : Int)
    (h1 : Hid ((((fresh 2 10).add 1 k a).add 11 k b).told 11 k = s)) (h2 : Hid (((((fresh 2 10).add 1 k a).add 11 k b).tick 11).told 20 k = b))
    (hA : Hid (∀ w, Calls Try.prog 13 #[.int .u64 a, .int .u64 b] w fun e w' => e = .returned (.int .u64 s) ∧ w = w')) :
    Calls Try.prog 5 #[.int .u64 a, .int .u64 b, .int .u8 q] w fun e w' => e = .returned (.bool true) ∧ Below w.heap.size w w' := by
  go_enter Try.func5, Try.ntmps5
  go_wp2_with fail
  refine (awake_calls _).mono ?_
  rintro e w1 ⟨rfl, hb⟩
  have Hb := hid hb
  clear hb
  go_wp2_with fail
  refine (new_has w 2 10 w1 Hb.out (by omega) (by omega) (by omega) (by omega)).mono ?_
  rintro e w2 ⟨rfl, h, _, _⟩
  have H2 := hid h
  clear h
  go_wp2_with fail
  refine (add_has H2.out 1 a k (by omega) (by omega) hk a0 a1).mono ?_
  rintro e w3 ⟨rfl, h, _⟩
  have H3 := hid h
  clear h
  go_wp2_with fail
  refine (add_has H3.out 11 b k (by omega) (by omega) hk b0 b1).mono ?_
  rintro e w4 ⟨rfl, h, _⟩
  have H4 := hid h
  clear h
  have i1 := idx5 (fun i => (((fresh 2 10).add 1 k a).add 11 k b).told 11 i) k hk
  have i2 := idx5 (fun i => ((((fresh 2 10).add 1 k a).add 11 k b).tick 11).told 20 i) k hk
  simp only [h1.out] at i1
  simp only [h2.out] at i2
  go_wp2_with fail
  go_region_with (first
    | (go_at_call 13; refine (hA.out _).mono ?_; rintro e w' ⟨rfl, rfl⟩)
    | (go_at_call_of 11 (Value.int .u64 11); refine (counts_has (H4.out.drewN _) 11 (by omega) (by omega)).mono ?_; rintro e w5 ⟨rfl, h5, _⟩)
    | (go_at_call_of 11 (Value.int .u64 20); refine (counts_has h5 20 (by omega) (by omega)).mono ?_; rintro e w6 ⟨rfl, h6, _⟩))
  all_goals
    go_wp2_with fail
    go_ret
    exact ⟨ret_bool (by simp), h6.below⟩
theorem full_plain (a b : Int) (k : Nat) (a0 : 0 ≤ a) (b0 : 0 ≤ b) (b1 : b ≤ 18446744073709551615) :
    (((fresh 2 10).add 1 k a).add 11 k b).told 11 k = Sat.add a b ∧ ((((fresh 2 10).add 1 k a).add 11 k b).tick 11).told 20 k = b := by
  have h := ((holds_fresh (n := 2) (width := 10) (by omega) (by omega) (by omega) (by omega)).add (t := 1) (by omega) (by omega) k a0).add (t := 11) (by omega) (by omega) k b0
  have e1 : (fresh 2 10).bkt 1 = 0 := by decide
  have e2 : ((fresh 2 10).add 1 k a).bkt 11 = 1 := by show Sat.mx (Sat.mx 0 1) 11 / 10 = 1; decide
  have e3 : (((fresh 2 10).add 1 k a).add 11 k b).bkt 11 = 1 := by show Sat.mx (Sat.mx (Sat.mx 0 1) 11) 11 / 10 = 1; decide
  have e4 : ((((fresh 2 10).add 1 k a).add 11 k b).tick 11).bkt 20 = 2 := by show Sat.mx (Sat.mx (Sat.mx (Sat.mx 0 1) 11) 11) 20 / 10 = 2; decide
  rw [e1, e2] at h
  refine ⟨?_, ?_⟩
  · rw [h.told (t := 11) (by omega) (by omega) k, e3]
    show Sat.cap (tot [⟨0, k, a⟩, ⟨1, k, b⟩] fun e => decide (e.k = k ∧ (1 : Int) - 2 < e.q)) = _
    rw [tot_cons, tot_cons, tot_nil, if_pos (by simp), if_pos (by simp)]
    rw [Int.add_zero]
    rfl
  · rw [(h.tick (t := 11) (by omega) (by omega)).told (t := 20) (by omega) (by omega) k, e4]
    show Sat.cap (tot [⟨0, k, a⟩, ⟨1, k, b⟩] fun e => decide (e.k = k ∧ (2 : Int) - 2 < e.q)) = _
    rw [tot_cons, tot_cons, tot_nil, if_neg (by simp), if_pos (by simp), Int.zero_add, Int.add_zero, cap_id b1]
theorem windowFull_walk {H : Type} {enc : TypeId × Value → H} (W : World) (a0 : Int) (w0 : (Lit.int .u64 a0).wf = true) (a1 : Int) (w1 : (Lit.int .u64 a1).wf = true) (a2 : Int) (w2 : (Lit.int .u8 a2).wf = true) :
    Calls Try.prog 5 #[.int .u64 a0, .int .u64 a1, .int .u8 a2] W fun e w' => e = .returned (.bool true) ∧ Below W.heap.size W w' := by
  obtain ⟨p0, p1⟩ := Sat.wf_u64 w0
  obtain ⟨q0, q1⟩ := Sat.wf_u64 w1
  obtain ⟨r0, r1⟩ := Sat.wf_u8 w2
  obtain ⟨k, hk⟩ := Int.eq_ofNat_of_zero_le (a := a2 % 5) (by omega)
  have h := full_plain a0 a1 k p0 q0 (by omega)
  exact full_core a0 a1 a2 k W (by omega) hk r0 (by omega) p0 (by omega) q0 (by omega) (Sat.add a0 a1) (hid h.1) (hid h.2) (hid fun w => C01.radd_calls a0 a1 p0 (by omega) q0 (by omega) w)
end Go.Proofs.Ytaepffcnhieckaa.C06
