/- The walk of the law WindowJoins. -/
import Derived.Test.YtaepffcnhieckaaC06J
import Derived.Test.YtaepffcnhieckaaC06E
namespace Go.Proofs.Ytaepffcnhieckaa.C06
open Go.RowKit Go.Proofs.Ytaepffcnhieckaa Go.Proofs.Ytaepffcnhieckaa.Win
set_option linter.unusedVariables false
set_option linter.unusedSimpArgs false
set_option linter.unnecessarySimpa false
attribute [local go_sem] C01.max2_mx C01.min2_mn C01.max_two C01.min_two
/-- Bools lie there. -/
def BoolsAt (w : World) (A : Option Addr) (l : List Bool) : Prop := l = [] ∨ ∃ b o, A = some ⟨b, o, none⟩ ∧ ∀ (i : Nat) (x : Bool), l[i]? = some x → w.cell? ⟨b, o + i, none⟩ = some (.bool x)
theorem boolsAt_of_slc {H : Type} {enc : TypeId × Value → H} {P : Program} {w : World} {e : TypeId} {a : Option Addr} {l c : Nat} (he : Opn.leaves P 1 e = some [.bool]) (hc : P.cellsOf e = 1) (h : (Opn.Lf.slc e).ok enc P w 0 (fun _ => true) true (.slice a l c)) :
    ∃ bs : List Bool, bs.length = l ∧ BoolsAt w a bs := by
  obtain ⟨a', l', c', hv, _, vs, hlen, hok, hcell⟩ := Opn.slc_cells 1 he (by rw [hc]; rfl) h
  injection hv with h1 h2 h3
  subst h1 h2 h3
  obtain ⟨bs, rfl, hz⟩ := Opn.list_of (fun b : Bool => [Value.bool b]) (fun _ => True) vs (fun x hx => by
    obtain ⟨_, _, rfl, ⟨n, rfl⟩, rfl⟩ := hok x hx
    exact ⟨n, rfl, trivial⟩)
  refine ⟨bs, by simpa using hlen, ?_⟩
  by_cases hne : bs = []
  · exact .inl hne
  · right
    rcases hcell with h0 | ⟨ad, rfl, hcell⟩
    · exfalso
      apply hne
      exact List.eq_nil_of_length_eq_zero (by simpa [h0] using hlen)
    · obtain ⟨b, o, rfl, hat⟩ := Opn.slc_at (sz := 1) (by intro x hx; obtain ⟨d, _, rfl⟩ := List.mem_map.1 hx; rfl) (by omega) (by simpa using hne) hcell
      refine ⟨b, o, rfl, fun i x hi => ?_⟩
      have := hat i 0 [Value.bool x] (Value.bool x) (by simp [hi]) rfl
      simpa using this
/-- What the row l says of i: the walk's own words. -/
theorem who_at {base : World} {A : Option Addr} {l : List Bool} (h : BoolsAt base A l) (i : Nat) (hi : i < l.length) : ∃ b o x, A = some ⟨b, o, none⟩ ∧ base.cell? ⟨b, o + i, none⟩ = some (.bool x) := by
  rcases h with h | ⟨b, o, rfl, h⟩
  · rw [h] at hi; simp at hi
  · exact ⟨b, o, _, rfl, h i _ (List.getElem?_eq_getElem hi)⟩
set_option maxRecDepth 20000 in
set_option maxHeartbeats 8000000 in
theorem joins_core (l : List Dd) (A : Option Addr) (c : Nat) (g : List Bool) (G : Option Addr) (d : Nat) (w : World) (hl : l.length ≤ 4398046511104) (hg : g.length ≤ 140737488351232) (hx : Hid (∀ x ∈ l, x.ok)) (hr : Hid (DeedsAt w A l)) (hb : Hid (BoolsAt w G g)) :
    Calls Try.prog 4 #[.slice A l.length c, .slice G g.length d] w fun e w' => e = .returned (.bool true) ∧ Below w.heap.size w w' := by
  go_enter Try.func4, Try.ntmps4
  go_wp2_with fail
  refine (awake_calls _).mono ?_
  rintro e w1 ⟨rfl, hb1⟩
  have Hb := hid hb1
  clear hb1
  go_wp2_with fail
  refine (new_has w 4 10 w1 Hb.out (by omega) (by omega) (by omega) (by omega)).mono ?_
  rintro e w2 ⟨rfl, h, -, -⟩
  have A2 := hid h
  clear h
  go_wp2_with fail
  refine (new_has w 4 10 w2 A2.out.below (by omega) (by omega) (by omega) (by omega)).mono ?_
  rintro e w3 ⟨rfl, h, hq, -⟩
  have A3 := hid (A2.out.quiet hq)
  have B3 := hid h
  clear h hq
  go_wp2_with fail
  refine (new_has w 4 10 w3 B3.out.below (by omega) (by omega) (by omega) (by omega)).mono ?_
  rintro e w4 ⟨rfl, h, hq, -⟩
  have A4 := hid (A3.out.quiet hq)
  have B4 := hid (B3.out.quiet hq)
  have C4 := hid h
  have nab : Hid (w1.heap.size ≠ w2.heap.size) := by show _ ≠ _; have := A2.out.lt; omega
  have nac : Hid (w1.heap.size ≠ w3.heap.size) := by show _ ≠ _; have := A3.out.lt; omega
  have nbc : Hid (w2.heap.size ≠ w3.heap.size) := by show _ ≠ _; have := B3.out.lt; omega
  clear h hq A2 A3 B3
  generalize hwa : w1.heap.size = BA at *
  generalize hwb : w2.heap.size = BB at *
  generalize hwc : w3.heap.size = BC at *
  clear hwa hwb hwc
  go_wp2_with fail
  go_loopw [9, 10] (fun s i wr => ∃ k : Nat, k ≤ l.length ∧ k ≤ 100 ∧ i = .int .i64 k ∧ ∃ now Va Vb Vc, s = .int .u64 now ∧ 0 ≤ now ∧ now ≤ 18446744073709551615 ∧ Has w BA Va wr ∧ Has w BB Vb wr ∧ Has w BC Vc wr ∧ Three Va Vb Vc now k) (fun _ i _ => l.length - (intOf i).toNat)
  case atStart => exact ⟨0, Nat.zero_le _, by omega, rfl, 0, _, _, _, rfl, by omega, by omega, A4.out, B4.out, C4.out, three_fresh⟩
  case round =>
    obtain ⟨j, hj, hj100, rfl, now, Va, Vb, Vc, rfl, n0, n1, ha, hbb, hc, h3⟩ := hrel
    have HA := hid ha
    have HB := hid hbb
    have HC := hid hc
    have H3 := hid h3
    clear ha hbb hc h3 A4 B4 C4
    by_cases hlt : j < l.length ∧ j < 100
    · obtain ⟨hj1, hj2⟩ := hlt
      have hge : l[j]? = some l[j] := List.getElem?_eq_getElem hj1
      have hok := hx.out _ (List.getElem_mem hj1)
      obtain ⟨-, ⟨k0, k1⟩, ⟨p0, p1⟩, r0, r1⟩ := hok
      rcases hr.out with h0 | ⟨b, o, rfl, hcc⟩
      · rw [h0] at hj1; simp at hj1
      · obtain ⟨c0, c1, c2, c3⟩ := hcc _ _ hge
        have hlt := hid (World.block_lt_of_cell? w _ c1)
        have C1 := hid c1
        have C3 := hid c3
        have d1 := below_cell HA.out.below hlt.out c1
        have d2 := below_cell HA.out.below hlt.out c2
        have d3 := below_cell HA.out.below hlt.out c3
        clear c0 c1 c2 c3 hcc hge
        generalize l[j].k = xk at *
        generalize l[j].t = xt at *
        generalize l[j].n = xn at *
        go_wp2_with fail
        refine (later_calls now xt n0 n1 p0 p1 _).mono ?_
        rintro e w' ⟨rfl, rfl⟩
        have s0 := (Sat.add_in n0 p0).1
        have s1 : Sat.add now xt ≤ 18446744073709551615 := by have := (Sat.add_in n0 p0).2; omega
        have s2 : now ≤ Sat.add now xt := by unfold Sat.add; split <;> omega
        have T3 := hid (H3.out.later s2)
        clear H3 s2
        generalize Sat.add now xt = nx at *
        have m0 : 0 ≤ xn % 1000 := by omega
        have m1 : xn % 1000 ≤ 1000 := by omega
        generalize hmn : xn % 1000 = mn at *
        go_wp2_with fail
        refine (add_any HC.out nx mn xk s0 s1 k0 k1 m0 (by omega)).mono ?_
        rintro e w5 ⟨rfl, h5, o5⟩
        have A5 := hid (HA.out.other o5 nac.out HC.out.ge)
        have B5 := hid (HB.out.other o5 nbc.out HC.out.ge)
        have C5 := hid h5
        have f1 := below_cell A5.out.below hlt.out C1.out
        have hwho : (∃ b2 o2, G = some ⟨b2, o2, none⟩ ∧ j < g.length ∧ w5.cell? ⟨b2, o2 + j, none⟩ = some (.bool true)) ∨ (∃ b2 o2, G = some ⟨b2, o2, none⟩ ∧ j < g.length ∧ w5.cell? ⟨b2, o2 + j, none⟩ = some (.bool false)) ∨ g.length ≤ j := by
          by_cases hw : j < g.length
          · obtain ⟨b2, o2, x, hG, hcx⟩ := who_at hb.out j hw
            have := below_cell A5.out.below (World.block_lt_of_cell? w _ hcx) hcx
            cases x
            · exact .inr (.inl ⟨b2, o2, hG, hw, this⟩)
            · exact .inl ⟨b2, o2, hG, hw, this⟩
          · exact .inr (.inr (by omega))
        clear d1 d2 d3 h5 o5 HA HB HC
        rcases hwho with ⟨b2, o2, rfl, hw, e1⟩ | ⟨b2, o2, rfl, hw, e1⟩ | hw
        all_goals
          go_wp2_with fail
          first
            | (go_at_call_of 10 (Addr.mk BA 0 none)
               refine (add_any A5.out nx mn xk s0 s1 k0 k1 m0 (by omega)).mono ?_
               rintro e w6 ⟨rfl, h6, o6⟩
               have hex : ∃ Wa Wb Wc, Has w BA Wa w6 ∧ Has w BB Wb w6 ∧ Has w BC Wc w6 ∧ Three Wa Wb Wc nx (j + 1) := ⟨_, _, _, h6, B5.out.other o6 nab.out.symm A5.out.ge, C5.out.other o6 nac.out.symm A5.out.ge, T3.out.left s0 s1 xk mn m0 m1⟩)
            | (go_at_call_of 10 (Addr.mk BB 0 none)
               refine (add_any B5.out nx mn xk s0 s1 k0 k1 m0 (by omega)).mono ?_
               rintro e w6 ⟨rfl, h6, o6⟩
               have hex : ∃ Wa Wb Wc, Has w BA Wa w6 ∧ Has w BB Wb w6 ∧ Has w BC Wc w6 ∧ Three Wa Wb Wc nx (j + 1) := ⟨_, _, _, A5.out.other o6 nab.out B5.out.ge, h6, C5.out.other o6 nbc.out.symm B5.out.ge, T3.out.right s0 s1 xk mn m0 m1⟩)
          obtain ⟨Wa, Wb, Wc, a6, b6, c6, t6⟩ := hex
          have A6 := hid a6
          have B6 := hid b6
          have C6 := hid c6
          have T7 := hid (t6.tick s0 s1)
          obtain ⟨z0, xa0, yb0, v0⟩ := t6.told (by omega) s0 s1 0
          obtain ⟨z1, xa1, yb1, v1⟩ := t6.told (by omega) s0 s1 1
          obtain ⟨z2, xa2, yb2, v2⟩ := t6.told (by omega) s0 s1 2
          obtain ⟨z3, xa3, yb3, v3⟩ := t6.told (by omega) s0 s1 3
          obtain ⟨z4, xa4, yb4, v4⟩ := t6.told (by omega) s0 s1 4
          have Z := hid (And.intro z0 (And.intro z1 (And.intro z2 (And.intro z3 z4))))
          clear a6 b6 c6 t6 h6 o6 z0 z1 z2 z3 z4 A5 B5 C5
          go_wp2_with fail
          refine (counts_has A6.out nx s0 s1).mono ?_
          rintro e w7 ⟨rfl, h7, o7⟩
          have A7 := hid h7
          have B7 := hid (B6.out.other o7 nab.out.symm A6.out.ge)
          have C7 := hid (C6.out.other o7 nac.out.symm A6.out.ge)
          generalize Wa.told nx 0 = x0 at *
          generalize Wa.told nx 1 = x1 at *
          generalize Wa.told nx 2 = x2 at *
          generalize Wa.told nx 3 = x3 at *
          generalize Wa.told nx 4 = x4 at *
          have X7 := hid (five_of (heap_alloc_new w7 (.cells #[.int .u64 x0, .int .u64 x1, .int .u64 x2, .int .u64 x3, .int .u64 x4] 30)))
          clear h7 o7
          go_wp2_with fail
          refine (counts_has (B7.out.alloc _) nx s0 s1).mono ?_
          rintro e w8 ⟨rfl, h8, o8⟩
          have A8 := hid ((A7.out.alloc _).other o8 nab.out B7.out.ge)
          have B8 := hid h8
          have C8 := hid ((C7.out.alloc _).other o8 nbc.out.symm B7.out.ge)
          have X8 := hid (X7.out.only o8 (by simp) (by have := B7.out.lt; omega))
          have L8 : Hid (w7.heap.size < w8.heap.size) := by show _ < _; have := o8.size; simp at this; omega
          generalize Wb.told nx 0 = y0 at *
          generalize Wb.told nx 1 = y1 at *
          generalize Wb.told nx 2 = y2 at *
          generalize Wb.told nx 3 = y3 at *
          generalize Wb.told nx 4 = y4 at *
          have Y8 := hid (five_of (heap_alloc_new w8 (.cells #[.int .u64 y0, .int .u64 y1, .int .u64 y2, .int .u64 y3, .int .u64 y4] 30)))
          clear h8 o8
          go_wp2_with fail
          refine (counts_has (C8.out.alloc _) nx s0 s1).mono ?_
          rintro e w9 ⟨rfl, h9, o9⟩
          rw [Z.out.1, Z.out.2.1, Z.out.2.2.1, Z.out.2.2.2.1, Z.out.2.2.2.2]
          have A9 := hid ((A8.out.alloc _).other o9 nac.out C8.out.ge)
          have B9 := hid ((B8.out.alloc _).other o9 nbc.out C8.out.ge)
          have C9 := hid h9
          have X9 := hid ((X8.out.alloc L8.out).only o9 (by simp; have := L8.out; omega) (by have := C7.out.lt; omega))
          have Y9 := hid (Y8.out.only o9 (by simp) (by have := C8.out.lt; omega))
          have L9 : Hid (w8.heap.size < w9.heap.size ∧ w7.heap.size < w8.heap.size) := by show _ ∧ _; have := o9.size; simp at this; have := L8.out; omega
          have xx := fun o => (X9.out.alloc (by have := L9.out; omega) (o := o)).full
          have yy := fun o => (Y9.out.alloc L9.out.1 (o := o)).full
          obtain ⟨xc0, xc1, xc2, xc3, xc4, -, -, -, -, -⟩ := forall_and10 xx
          obtain ⟨yc0, yc1, yc2, yc3, yc4, -, -, -, -, -⟩ := forall_and10 yy
          clear h9 o9 xx yy X7 X8 Y8 X9 Y9 A6 B6 C6 A7 B7 C7 A8 B8 C8 L8
          try clear e1
          go_wp2_with fail
          refine wp_loop_rounds 6 ?_
          iterate 5
            rw [rounds_succ]
            go_wp2_with fail
            go_quiet (fail)
            go_wp2_with fail
          rw [rounds_succ]
          go_wp2_with fail
          refine ⟨⟨j + 1, by omega, by omega, by go_num, nx, _, _, _, rfl, s0, s1, (A9.out.alloc _).drewN _, (B9.out.alloc _).drewN _, (C9.out.alloc _).drewN _, T7.out⟩, ?_⟩
          simp [intOf]
          omega
    · have hex : j < l.length ∧ 100 ≤ j ∨ l.length ≤ j := by omega
      clear hlt
      rcases hex with ⟨hj1, hj2⟩ | hj1
      all_goals
        go_wp2_with fail
        go_ret
        exact ⟨ret_bool (by simp), HA.out.below⟩
theorem windowJoins_walk {H : Type} {enc : TypeId × Value → H} (W : World) (a0 : Option Addr) (l0 c0 : Nat) (k0 : (Opn.Lf.slc 37).ok enc Try.prog W 0 (fun _ => true) true (.slice a0 l0 c0)) (y0 : l0 * 32 ≤ 140737488351232) (a1 : Option Addr) (l1 c1 : Nat) (k1 : (Opn.Lf.slc 4).ok enc Try.prog W 0 (fun _ => true) true (.slice a1 l1 c1)) (y1 : l1 * 1 ≤ 140737488351232) :
    Calls Try.prog 4 #[.slice a0 l0 c0, .slice a1 l1 c1] W fun e w' => e = .returned (.bool true) ∧ Below W.heap.size W w' := by
  obtain ⟨ds, rfl, hx, hr⟩ := deedsAt_of_slc (by kernel_rfl) (by kernel_rfl) k0
  obtain ⟨bs, rfl, hb⟩ := boolsAt_of_slc (by kernel_rfl) (by kernel_rfl) k1
  exact joins_core ds a0 c0 bs a1 c1 W (by omega) (by omega) (hid hx) (hid hr) (hid hb)
end Go.Proofs.Ytaepffcnhieckaa.C06
