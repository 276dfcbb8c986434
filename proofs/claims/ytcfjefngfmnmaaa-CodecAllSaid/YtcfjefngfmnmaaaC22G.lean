/- The walk of the law CodecBegins. -/
import Derived.Test.YtcfjefngfmnmaaaC22F
import Derived.Test.YtcfjefngfmnmaaaOpen
namespace Go.Proofs.Ytcfjefngfmnmaaa.C22
open Go.RowKit Go.Proofs.Ytcfjefngfmnmaaa Go.Proofs.Ytcfjefngfmnmaaa.Cod
set_option linter.unusedVariables false
set_option linter.unusedSimpArgs false
set_option linter.unnecessarySimpa false
theorem few_calls (e : Ev) (A : Option Addr) (c : Nat) (w : World) (hl : e.vals.length ≤ 9223372036854775807) :
    Calls Try.prog 10 #[.agg (evF e A c)] w fun x w' => x = .returned (.bool (decide ((e.vals.length : Int) ≤ 50))) ∧ Below w.heap.size w w' := by
  have hli : (e.vals.length : Int) ≤ 9223372036854775807 := by omega
  go_enter Try.func10, Try.ntmps10
  go_wp2_with fail
  go_ret
  exact ⟨rfl, grow _ _⟩
set_option maxHeartbeats 2000000 in
theorem begins_core (e : Ev) (A : Option Addr) (c : Nat) (cut : Int) (w : World) (he : Hid e.Fits) (hl : e.vals.length ≤ 9223372036854775807) (hr : RowI w A e.vals) (q0 : 0 ≤ cut) (q1 : cut ≤ 255) :
    Calls Try.prog 6 #[.agg (evF e A c), .int .u8 cut] w fun x w' => x = .returned (.bool true) ∧ Below w.heap.size w w' := by
  have Hr := hid hr
  have Hfew := hid fun w => few_calls e A c w hl
  clear hr
  go_enter Try.func6, Try.ntmps6
  go_wp2_with fail
  refine (awake_calls _).mono ?_
  rintro x w1 ⟨rfl, hb⟩
  have c0 : w1.cell? ⟨w.heap.size, 0, none⟩ = some (.int .i64 e.kind) := cell_of hb (by simp [go_sem])
  have c1 : w1.cell? ⟨w.heap.size, 1, none⟩ = some (.int .i64 e.id) := cell_of hb (by simp [go_sem])
  have c2 : w1.cell? ⟨w.heap.size, 2, none⟩ = some (.int .i64 e.dep) := cell_of hb (by simp [go_sem])
  have c3 : w1.cell? ⟨w.heap.size, 3, none⟩ = some (.int .i64 e.scope) := cell_of hb (by simp [go_sem])
  have c4 : w1.cell? ⟨w.heap.size, 4, none⟩ = some (.int .i64 e.arg) := cell_of hb (by simp [go_sem])
  have c5 : w1.cell? ⟨w.heap.size, 5, none⟩ = some (.int .i64 e.step) := cell_of hb (by simp [go_sem])
  have c6 : w1.cell? ⟨w.heap.size, 6, none⟩ = some (.int .u64 e.n) := cell_of hb (by simp [go_sem])
  have c7 : w1.cell? ⟨w.heap.size, 7, none⟩ = some (.bool e.ok) := cell_of hb (by simp [go_sem])
  have c8 : w1.cell? ⟨w.heap.size, 8, none⟩ = some (.slice A e.vals.length c) := cell_of hb (by simp [go_sem])
  have Hb := hid (via (grow w _) hb)
  clear hb
  go_wp2_with fail
  refine (Hfew.out _).mono ?_
  rintro x w2 ⟨rfl, hb⟩
  by_cases hf : (e.vals.length : Int) ≤ 50
  case neg =>
    have Hb2 := hid (via Hb.out hb)
    rw [decide_eq_false hf]
    clear hb hf
    go_wp2_with fail
    go_ret
    exact ⟨rfl, Hb2.out⟩
  rw [decide_eq_true hf]
  have Hb2 := hid (via Hb.out hb)
  replace c0 := cell_of hb c0
  replace c1 := cell_of hb c1
  replace c2 := cell_of hb c2
  replace c3 := cell_of hb c3
  replace c4 := cell_of hb c4
  replace c5 := cell_of hb c5
  replace c6 := cell_of hb c6
  replace c7 := cell_of hb c7
  replace c8 := cell_of hb c8
  clear hb
  go_wp2_with fail
  refine (may_calls e A c _ he (by omega) (Hr.out.below Hb2.out)).mono ?_
  rintro x w3 ⟨rfl, hb⟩
  have Hb3 := hid (via Hb2.out hb)
  by_cases hm : may e = true
  case neg =>
    replace hm : may e = false := by simpa using hm
    rw [hm]
    clear hb hm
    go_wp2_with fail
    go_ret
    exact ⟨rfl, Hb3.out⟩
  have hp : put e = Cod.bytes e := by unfold put; rw [if_pos hm]
  have hlen : (put e).length = 17 + 4 * e.vals.length := by rw [hp, bytes_len]
  obtain ⟨n, hn⟩ : ∃ n, (put e).length = n := ⟨_, rfl⟩
  have hn0 : 17 ≤ n := by omega
  have hn1 : n ≤ 217 := by omega
  have hS : (strOfNums (put e)).size = n := by rw [strOfNums_size, hn]
  obtain ⟨j, hj⟩ := Int.eq_ofNat_of_zero_le (Int.emod_nonneg cut (show (n : Int) ≠ 0 by omega))
  have hjn : j < n := by have := Int.emod_lt_of_pos cut (show (0 : Int) < (n : Int) by omega); omega
  have hjI : (j : Int) ≤ (n : Int) := by omega
  have hnz : ((n : Int) == 0) = false := by rw [beq_eq_false_iff_ne]; omega
  have hnI : 17 ≤ (n : Int) := by omega
  have hnI2 : (n : Int) ≤ 217 := by omega
  have hcut : Cod.take (nums ((strOfNums (put e)).extract 0 j)) = none := by
    rw [nums_extract, nums_str (put_ok e), List.drop_zero, Nat.sub_zero]
    exact take_cut hm he.out.n j (by omega) fun e2 r h => take_n ((put_ok e).take j) h
  rw [hm]
  have Hcut := hid hcut
  replace c0 := cell_of hb c0
  replace c1 := cell_of hb c1
  replace c2 := cell_of hb c2
  replace c3 := cell_of hb c3
  replace c4 := cell_of hb c4
  replace c5 := cell_of hb c5
  replace c6 := cell_of hb c6
  replace c7 := cell_of hb c7
  replace c8 := cell_of hb c8
  clear hb hcut hp hlen hn hm
  go_wp2_with fail
  refine (put_calls e A c _ he (by omega) (Hr.out.below Hb3.out)).mono ?_
  rintro x w4 ⟨rfl, hb⟩
  have Hb4 := hid (via Hb3.out hb)
  clear hb c0 c1 c2 c3 c4 c5 c6 c7 c8
  generalize strOfNums (put e) = S at *
  go_wp2_with fail
  refine (take_calls _ _).mono ?_
  rintro x w5 ⟨h1, -, hb⟩
  have hx := h1 Hcut.out
  unfold noneV zeroF at hx
  subst hx
  have Hb5 := hid (via Hb4.out hb)
  clear hb h1
  dsimp only [zero, List.length_nil]
  go_wp2_with fail
  go_ret
  exact ⟨ret_bool (by simp), Hb5.out.alloc Hb5.out.size _⟩
theorem rowI_of_slc {H : Type} {enc : TypeId × Value → H} {P : Program} {w : World} {e : TypeId} {a : Option Addr} {l c : Nat} (he : Opn.leaves P 1 e = some [.int .i64]) (hc : P.cellsOf e = 1) (h : (Opn.Lf.slc e).ok enc P w 0 (fun _ => true) true (.slice a l c)) :
    ∃ zs : List Int, zs.length = l ∧ (∀ x ∈ zs, -9223372036854775808 ≤ x ∧ x ≤ 9223372036854775807) ∧ RowI w a zs ∧ l ≤ maxLen := by
  have h2 := h
  obtain ⟨a2, l2, c2, hv2, h2⟩ := h2
  injection hv2 with e1 e2 e3
  subst e1 e2 e3
  obtain ⟨a', l', c', hv, _, vs, hlen, hok, hcell⟩ := Opn.slc_cells 1 he (by rw [hc]; rfl) h
  injection hv with h1 h2' h3
  subst h1 h2' h3
  obtain ⟨zs, rfl, hz⟩ := Opn.list_of (fun z : Int => [Value.int .i64 z]) (fun z => -9223372036854775808 ≤ z ∧ z ≤ 9223372036854775807) vs (fun x hx => by
    obtain ⟨_, _, rfl, ⟨n, rfl, wn⟩, rfl⟩ := hok x hx
    exact ⟨n, rfl, Sat.wf_i64 wn⟩)
  refine ⟨zs, by simpa using hlen, hz, ?_, ?_⟩
  · by_cases hne : zs = []
    · exact .inl hne
    · right
      rcases hcell with h0 | ⟨ad, rfl, hcell⟩
      · exfalso
        apply hne
        exact List.eq_nil_of_length_eq_zero (by simpa [h0] using hlen)
      · obtain ⟨b, o, rfl, hat⟩ := Opn.slc_at (sz := 1) (by simp) (by omega) (by simpa using hne) hcell
        refine ⟨b, o, rfl, fun i hi => ?_⟩
        have := hat i 0 [Value.int .i64 (zs.getD i 0)] (Value.int .i64 (zs.getD i 0)) (by simp [hi]) rfl
        simpa using this
  · rcases h2 with ⟨_, h0, _⟩ | ⟨ad, _, _, q1, q2, _⟩
    · omega
    · omega
theorem codecBegins_walk {H : Type} {enc : TypeId × Value → H} (W : World) (a0_0 : Int) (a0_1 : Int) (a0_2 : Int) (a0_3 : Int) (a0_4 : Int) (a0_5 : Int) (a0_6 : Int) (a0_7 : Bool) (a0_8 : Option Addr) (l0_8 c0_8 : Nat) (w0_0 : (Lit.int .i64 a0_0).wf = true) (w0_1 : (Lit.int .i64 a0_1).wf = true) (w0_2 : (Lit.int .i64 a0_2).wf = true) (w0_3 : (Lit.int .i64 a0_3).wf = true) (w0_4 : (Lit.int .i64 a0_4).wf = true) (w0_5 : (Lit.int .i64 a0_5).wf = true) (w0_6 : (Lit.int .u64 a0_6).wf = true) (k0_8 : (Opn.Lf.slc 3).ok enc Try.prog W 0 (fun _ => true) true (.slice a0_8 l0_8 c0_8)) (a1 : Int) (w1 : (Lit.int .u8 a1).wf = true) :
    Calls Try.prog 6 #[.agg #[.int .i64 a0_0, .int .i64 a0_1, .int .i64 a0_2, .int .i64 a0_3, .int .i64 a0_4, .int .i64 a0_5, .int .u64 a0_6, .bool a0_7, .slice a0_8 l0_8 c0_8], .int .u8 a1] W fun e w' => e = .returned (.bool true) ∧ Below W.heap.size W w' := by
  obtain ⟨L, rfl, hx, hr, hl⟩ := rowI_of_slc (by kernel_rfl) (by kernel_rfl) k0_8
  obtain ⟨n0, n1⟩ := Sat.wf_u64 w0_6
  obtain ⟨n, rfl⟩ := Int.eq_ofNat_of_zero_le n0
  have q := Sat.wf_u8 w1
  exact begins_core ⟨a0_0, a0_1, a0_2, a0_3, a0_4, a0_5, n, a0_7, L⟩ a0_8 c0_8 a1 W (hid ⟨Sat.wf_i64 w0_0, Sat.wf_i64 w0_1, Sat.wf_i64 w0_2, Sat.wf_i64 w0_3, Sat.wf_i64 w0_4, Sat.wf_i64 w0_5, by show n ≤ _; omega, hx⟩) (by show L.length ≤ _; unfold maxLen at hl; omega) hr q.1 (by omega)
end Go.Proofs.Ytcfjefngfmnmaaa.C22
