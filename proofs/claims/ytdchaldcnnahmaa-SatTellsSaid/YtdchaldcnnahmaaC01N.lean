/- The walk of the law SatTells. -/
import Derived.Test.YtdchaldcnnahmaaC01L
import Derived.Test.YtdchaldcnnahmaaR01
import Derived.Test.YtdchaldcnnahmaaOpen
namespace Go.Proofs.Ytdchaldcnnahmaa.C01
open Go.RowKit Go.Proofs.Ytdchaldcnnahmaa
set_option linter.unusedVariables false
theorem rowAt_of_slc {H : Type} {enc : TypeId × Value → H} {P : Program} {w : World} {e : TypeId} {a : Option Addr} {l c : Nat} (he : Opn.leaves P 1 e = some [.int .u64]) (hc : P.cellsOf e = 1) (h : (Opn.Lf.slc e).ok enc P w 0 (fun _ => true) true (.slice a l c)) :
    ∃ zs : List Int, zs.length = l ∧ (∀ x ∈ zs, 0 ≤ x ∧ x < 18446744073709551616) ∧ RowAt w a zs := by
  obtain ⟨a', l', c', hv, _, vs, hlen, hok, hcell⟩ := Opn.slc_cells 1 he (by rw [hc]; rfl) h
  injection hv with h1 h2 h3
  subst h1 h2 h3
  obtain ⟨zs, rfl, hz⟩ := Opn.list_of (fun z : Int => [Value.int .u64 z]) (fun z => 0 ≤ z ∧ z < 18446744073709551616) vs (fun x hx => by
    obtain ⟨_, _, rfl, ⟨n, rfl, wn⟩, rfl⟩ := hok x hx
    exact ⟨n, rfl, Sat.wf_u64 wn⟩)
  refine ⟨zs, by simpa using hlen, hz, ?_⟩
  by_cases hne : zs = []
  · exact .inl hne
  · right
    rcases hcell with h0 | ⟨ad, rfl, hcell⟩
    · exfalso
      apply hne
      exact List.eq_nil_of_length_eq_zero (by simpa [h0] using hlen)
    · obtain ⟨b, o, rfl, hat⟩ := Opn.slc_at (sz := 1) (by simp) (by omega) (by simpa using hne) hcell
      refine ⟨b, o, rfl, fun i hi => ?_⟩
      have := hat i 0 [Value.int .u64 (zs.getD i 0)] (Value.int .u64 (zs.getD i 0)) (by simp [hi]) rfl
      simpa using this
set_option maxHeartbeats 1000000 in
theorem tells_core (a b s d m t : Int) (A : Option Addr) (l c : Nat) (w : World)
    (h1 : Hid (∀ w, Calls Try.prog 10 #[.int .u64 a, .int .u64 b] w fun e w' => e = .returned (.int .u64 s) ∧ w = w'))
    (h2 : Hid (∀ w, Calls Try.prog 11 #[.int .u64 a, .int .u64 b] w fun e w' => e = .returned (.int .u64 s) ∧ w = w'))
    (h3 : Hid (∀ w, Calls Try.prog 12 #[.int .u64 a, .int .u64 b] w fun e w' => e = .returned (.int .u64 d) ∧ w = w'))
    (h4 : Hid (∀ w, Calls Try.prog 13 #[.int .u64 a, .int .u64 b] w fun e w' => e = .returned (.int .u64 d) ∧ w = w'))
    (h5 : Hid (∀ w, Calls Try.prog 14 #[.int .u64 a, .int .u64 b] w fun e w' => e = .returned (.int .u64 m) ∧ w = w'))
    (h6 : Hid (∀ w, Calls Try.prog 15 #[.int .u64 a, .int .u64 b] w fun e w' => e = .returned (.int .u64 m) ∧ w = w'))
    (h7 : Hid (∀ w', Below w.heap.size w w' → Calls Try.prog 16 #[.slice A l c] w' fun e w'' => e = .returned (.int .u64 t) ∧ w' = w''))
    (h8 : Hid (∀ w', Below w.heap.size w w' → Calls Try.prog 17 #[.slice A l c] w' fun e w'' => e = .returned (.int .u64 t) ∧ w' = w'')) :
    Calls Try.prog 3 #[.int .u64 a, .int .u64 b, .slice A l c] w fun e w' => e = .returned (.bool true) ∧ Below w.heap.size w w' := by
  go_enter Try.func3, Try.ntmps3
  go_wp2_with fail
  refine (awake_calls _).mono ?_
  rintro e w1 ⟨rfl, hb⟩
  have Hb := hid hb
  clear hb
  go_wp2_with fail
  refine (h1.out _).mono ?_
  rintro e w' ⟨rfl, rfl⟩
  go_wp2_with fail
  refine (h2.out _).mono ?_
  rintro e w' ⟨rfl, rfl⟩
  go_wp2_with fail
  refine (h3.out _).mono ?_
  rintro e w' ⟨rfl, rfl⟩
  go_wp2_with fail
  refine (h4.out _).mono ?_
  rintro e w' ⟨rfl, rfl⟩
  go_wp2_with fail
  refine (h5.out _).mono ?_
  rintro e w' ⟨rfl, rfl⟩
  go_wp2_with fail
  refine (h6.out _).mono ?_
  rintro e w' ⟨rfl, rfl⟩
  go_wp2_with fail
  refine (h7.out _ Hb.out).mono ?_
  rintro e w' ⟨rfl, rfl⟩
  go_wp2_with fail
  refine (h8.out _ Hb.out).mono ?_
  rintro e w' ⟨rfl, rfl⟩
  go_wp2_with fail
  go_ret
  exact ⟨rfl, Hb.out⟩
theorem RowAt.below {w w' : World} {A : Option Addr} {l : List Int} (h : RowAt w A l) (hb : Below w.heap.size w w') : RowAt w' A l := by
  rcases h with h | ⟨b, o, hA, h⟩
  · exact .inl h
  · refine .inr ⟨b, o, hA, fun i hi => ?_⟩
    have := h i hi
    rw [hb.cell (World.block_lt_of_cell? w _ this)]
    exact this
theorem satTells_walk {H : Type} {enc : TypeId × Value → H} (W : World) (a0 : Int) (w0 : (Lit.int .u64 a0).wf = true) (a1 : Int) (w1 : (Lit.int .u64 a1).wf = true) (a2 : Option Addr) (l2 c2 : Nat) (k2 : (Opn.Lf.slc 22).ok enc Try.prog W 0 (fun _ => true) true (.slice a2 l2 c2)) (y2 : l2 * 8 ≤ 140737488351232) :
    Calls Try.prog 3 #[.int .u64 a0, .int .u64 a1, .slice a2 l2 c2] W fun e w' => e = .returned (.bool true) ∧ Below W.heap.size W w' := by
  obtain ⟨p0, p1⟩ := Sat.wf_u64 w0
  obtain ⟨q0, q1⟩ := Sat.wf_u64 w1
  obtain ⟨zs, rfl, hz, hr⟩ := rowAt_of_slc (by rfl) (by kernel_rfl) k2
  exact tells_core a0 a1 _ _ _ _ a2 _ c2 W (hid fun w => add_calls a0 a1 p0 p1 q0 q1 w) (hid fun w => radd_calls a0 a1 p0 p1 q0 q1 w) (hid fun w => sub_calls a0 a1 p0 p1 q0 q1 w) (hid fun w => rsub_calls a0 a1 p0 p1 q0 q1 w) (hid fun w => mul_calls a0 a1 p0 p1 q0 q1 w) (hid fun w => rmul_calls a0 a1 p0 p1 q0 q1 w)
    (hid fun w hb => sum_calls zs a2 c2 w (by omega) hz (hr.below hb)) (hid fun w hb => rsum_calls zs a2 c2 w (by omega) hz (hr.below hb))
end Go.Proofs.Ytdchaldcnnahmaa.C01
