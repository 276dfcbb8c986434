/- The walk of the law WindowReset. -/
import Derived.Test.YtaepffcnhieckaaC06D
namespace Go.Proofs.Ytaepffcnhieckaa.C06
open Go.RowKit Go.Proofs.Ytaepffcnhieckaa Go.Proofs.Ytaepffcnhieckaa.Win
set_option linter.unusedVariables false
set_option linter.unusedSimpArgs false
set_option linter.unnecessarySimpa false
attribute [local go_sem] C01.max2_mx C01.min2_mn C01.max_two C01.min_two
def clearW (W : Win) : Win := { W with a := fun _ => 0, c := fun _ _ => 0 }
theorem holds_clear {W : Win} (h : Ok W) : Holds (clearW W) [] := by
  refine ⟨⟨h.n1, h.n8, h.w1, h.w2, h.t0, h.t1, fun j => ⟨Int.le_refl _, by show (0 : Int) ≤ _; omega⟩, fun j k => ⟨Int.le_refl _, by show (0 : Int) ≤ _; omega⟩⟩, fun j => ?_, fun j hj => .inl rfl, fun e he => absurd he (List.not_mem_nil), fun j hj k => ?_⟩
  · show (0 : Int) ≤ W.now / W.width
    exact Int.ediv_nonneg h.t0 (by have := h.w1; omega)
  · rw [tot_nil, cap_zero]; split <;> rfl
theorem mx_mx (a b : Int) : Sat.mx (Sat.mx a b) b = Sat.mx a b := by unfold Sat.mx; (repeat' split) <;> omega
theorem reset_plain {V : Win} (ok : Ok V) (t : Int) (k : Nat) (t0 : 0 ≤ t) (t1 : t ≤ 18446744073709551615) :
    (∀ i, (clearW V).told t i = 0) ∧ ∀ i, (((clearW V).tick t).add 0 k 1).told 0 i = if i = k then 1 else 0 := by
  have h := holds_clear ok
  refine ⟨fun i => by rw [h.told t0 t1 i, tot_nil, cap_zero], fun i => ?_⟩
  have g := (h.tick t0 t1).add (t := 0) (by omega) (by omega) k (v := 1) (by omega)
  rw [g.told (t := 0) (by omega) (by omega) i]
  have e : (((clearW V).tick t).add 0 k 1).bkt 0 = ((clearW V).tick t).bkt 0 := by
    show Sat.mx (Sat.mx ((clearW V).tick t).now 0) 0 / _ = Sat.mx ((clearW V).tick t).now 0 / _
    rw [mx_mx]
    rfl
  rw [e]
  have hn := ok.n1
  show Sat.cap (tot [⟨((clearW V).tick t).bkt 0, k, 1⟩] fun e => decide (e.k = i ∧ ((clearW V).tick t).bkt 0 - V.n < e.q)) = _
  rw [tot_cons, tot_nil, Int.add_zero]
  by_cases h2 : i = k
  · subst h2
    rw [if_pos rfl, if_pos (by simp; omega)]
    show Sat.cap 1 = 1
    decide
  · rw [if_neg h2, if_neg (by simp; omega), cap_zero]
theorem reset_has {base w : World} {B : Nat} {W : Win} (h : Has base B W w) :
    Calls Try.prog 14 #[.pointer (some ⟨B, 0, none⟩)] w fun e w' => e = .returned (.tuple #[]) ∧ Has base B (clearW W) w' ∧ Only B w w' := by
  refine (reset_calls B W w h.here).mono ?_
  rintro e w' ⟨he, hat, ho⟩
  exact ⟨he, ⟨hat, (holds_clear h.ok).ok, Nat.lt_of_lt_of_le h.lt ho.size, h.ge, ho.toBelow h.below h.ge⟩, ho⟩
theorem zeros_new (w : World) (T : TypeId) (n : Nat) : Five ((w.alloc (.cells #[.int .u64 0, .int .u64 0, .int .u64 0, .int .u64 0, .int .u64 0] T)).drewN n) w.heap.size (fun _ => 0) := by
  intro i hi
  have := five_of (w := (w.alloc (.cells #[.int .u64 0, .int .u64 0, .int .u64 0, .int .u64 0, .int .u64 0] T)).drewN n) (heap_alloc_new _ _) i hi
  match i, hi with
  | 0, _ => exact this
  | 1, _ => exact this
  | 2, _ => exact this
  | 3, _ => exact this
  | 4, _ => exact this
theorem Five.all {w : World} {C : Nat} {f : Nat → Int} (h : Five w C f) : w.cell? ⟨C, 0, none⟩ = some (.int .u64 (f 0)) ∧ w.cell? ⟨C, 1, none⟩ = some (.int .u64 (f 1)) ∧ w.cell? ⟨C, 2, none⟩ = some (.int .u64 (f 2)) ∧ w.cell? ⟨C, 3, none⟩ = some (.int .u64 (f 3)) ∧ w.cell? ⟨C, 4, none⟩ = some (.int .u64 (f 4)) :=
  ⟨(h 0 (by omega)).1, (h 1 (by omega)).1, (h 2 (by omega)).1, (h 3 (by omega)).1, (h 4 (by omega)).1⟩
theorem Five.alloc {w : World} {C : Nat} {f : Nat → Int} (h : Five w C f) (hC : C < w.heap.size) {o : Obj} : Five (w.alloc o) C f := h.same (Below.heap_alloc _ _ _ hC)
theorem Five.full {w : World} {C : Nat} {f : Nat → Int} (h : Five w C f) : w.cell? ⟨C, 0, none⟩ = some (.int .u64 (f 0)) ∧ w.cell? ⟨C, 1, none⟩ = some (.int .u64 (f 1)) ∧ w.cell? ⟨C, 2, none⟩ = some (.int .u64 (f 2)) ∧ w.cell? ⟨C, 3, none⟩ = some (.int .u64 (f 3)) ∧ w.cell? ⟨C, 4, none⟩ = some (.int .u64 (f 4)) ∧
    w.frozen? ⟨C, 0, none⟩ = false ∧ w.frozen? ⟨C, 1, none⟩ = false ∧ w.frozen? ⟨C, 2, none⟩ = false ∧ w.frozen? ⟨C, 3, none⟩ = false ∧ w.frozen? ⟨C, 4, none⟩ = false :=
  ⟨(h 0 (by omega)).1, (h 1 (by omega)).1, (h 2 (by omega)).1, (h 3 (by omega)).1, (h 4 (by omega)).1, (h 0 (by omega)).2, (h 1 (by omega)).2, (h 2 (by omega)).2, (h 3 (by omega)).2, (h 4 (by omega)).2⟩
theorem forall_and10 {α : Type} {p0 p1 p2 p3 p4 p5 p6 p7 p8 p9 : α → Prop} (h : ∀ o, p0 o ∧ p1 o ∧ p2 o ∧ p3 o ∧ p4 o ∧ p5 o ∧ p6 o ∧ p7 o ∧ p8 o ∧ p9 o) : (∀ o, p0 o) ∧ (∀ o, p1 o) ∧ (∀ o, p2 o) ∧ (∀ o, p3 o) ∧ (∀ o, p4 o) ∧ (∀ o, p5 o) ∧ (∀ o, p6 o) ∧ (∀ o, p7 o) ∧ (∀ o, p8 o) ∧ (∀ o, p9 o) :=
  ⟨fun o => (h o).1, fun o => (h o).2.1, fun o => (h o).2.2.1, fun o => (h o).2.2.2.1, fun o => (h o).2.2.2.2.1, fun o => (h o).2.2.2.2.2.1, fun o => (h o).2.2.2.2.2.2.1, fun o => (h o).2.2.2.2.2.2.2.1, fun o => (h o).2.2.2.2.2.2.2.2.1, fun o => (h o).2.2.2.2.2.2.2.2.2⟩
theorem Five.only {w w' : World} {B C : Nat} {f : Nat → Int} (h : Five w C f) (ho : Only B w w') (hC : C < w.heap.size) (hne : C ≠ B) : Five w' C f := h.same (ho.block C hC hne)
set_option maxHeartbeats 2000000 in
theorem reset_core (l : List Dd) (A : Option Addr) (c : Nat) (t q : Int) (k : Nat) (w : World) (hl : l.length ≤ 4398046511104) (hx : Hid (∀ x ∈ l, x.ok)) (hr : Hid (DeedsAt w A l)) (t0 : 0 ≤ t) (t1 : t ≤ 18446744073709551615) (q0 : 0 ≤ q) (q1 : q ≤ 255) (hq : q % 5 = k) (k5 : k < 5) :
    Calls Try.prog 6 #[.slice A l.length c, .int .u64 t, .int .u8 q] w fun e w' => e = .returned (.bool true) ∧ Below w.heap.size w w' := by
  have eqz := eq5 (a0 := 0) (a1 := 0) (a2 := 0) (a3 := 0) (a4 := 0) (b0 := 0) (b1 := 0) (b2 := 0) (b3 := 0) (b4 := 0) (by omega) (by omega) true (by simp)
  go_enter Try.func6, Try.ntmps6
  go_wp2_with fail
  refine (awake_calls _).mono ?_
  rintro e w1 ⟨rfl, hb⟩
  have Hb := hid hb
  clear hb
  go_wp2_with fail
  refine (new_has w 4 10 w1 Hb.out (by omega) (by omega) (by omega) (by omega)).mono ?_
  rintro e w2 ⟨rfl, h, -, -⟩
  have H2 := hid h
  clear h
  generalize hB : w1.heap.size = B at *
  clear hB
  go_wp2_with fail
  go_loopw [9, 10] (fun s i wr => ∃ k : Nat, k ≤ l.length ∧ i = .int .i64 k ∧ ∃ now V, s = .int .u64 now ∧ 0 ≤ now ∧ now ≤ 18446744073709551615 ∧ Has w B V wr) (fun _ i _ => l.length - (intOf i).toNat)
  case atStart => exact ⟨0, Nat.zero_le _, rfl, 0, _, rfl, by omega, by omega, H2.out⟩
  case round =>
    obtain ⟨j, hj, rfl, now, V, rfl, n0, n1, h⟩ := hrel
    have H := hid h
    clear h H2
    by_cases hlt : j < l.length ∧ j < 100
    · obtain ⟨hj1, hj2⟩ := hlt
      have hge : l[j]? = some l[j] := List.getElem?_eq_getElem hj1
      have hok := hx.out _ (List.getElem_mem hj1)
      obtain ⟨-, ⟨k0, k1⟩, ⟨p0, p1⟩, r0, r1⟩ := hok
      rcases hr.out with h0 | ⟨b, o, rfl, hc⟩
      · rw [h0] at hj1; simp at hj1
      · obtain ⟨c0, c1, c2, c3⟩ := hc _ _ hge
        have hlt := World.block_lt_of_cell? w _ c1
        have d1 := below_cell H.out.below hlt c1
        have d2 := below_cell H.out.below hlt c2
        have d3 := below_cell H.out.below hlt c3
        clear c0 c1 c2 c3 hc hge
        generalize l[j].k = xk at *
        generalize l[j].t = xt at *
        generalize l[j].n = xn at *
        go_wp2_with fail
        refine (later_calls now xt n0 n1 p0 p1 _).mono ?_
        rintro e w' ⟨rfl, rfl⟩
        have s0 := (Sat.add_in n0 p0).1
        have s1 : Sat.add now xt ≤ 18446744073709551615 := by have := (Sat.add_in n0 p0).2; omega
        generalize Sat.add now xt = nx at *
        go_wp2_with fail
        go_region_with (first
          | (go_at_call 10; refine (add_any (H.out.drewN _) nx xn xk s0 s1 k0 k1 r0 r1).mono ?_; rintro e w4 ⟨rfl, h4, -⟩; have H4 := hid h4; clear h4))
        all_goals
          go_wp2_with fail
          go_round
          case rel => exact ⟨j + 1, by omega, by go_num, nx, _, rfl, s0, s1, H4.out⟩
          case measure => simp [intOf]; omega
    · have hx : Hid (∀ i : Nat, i < 5 → True) := hid (by intros; trivial)
      obtain ⟨h1, h2⟩ := reset_plain H.out.ok (Sat.add now t) k (Sat.add_in n0 t0).1 (by have := (Sat.add_in n0 t0).2; omega)
      have H1 := hid h1
      have H2 := hid h2
      clear h1 h2
      have hex : j < l.length ∧ 100 ≤ j ∨ l.length ≤ j := by omega
      clear hlt
      have s0 := (Sat.add_in n0 t0).1
      have s1 : Sat.add now t ≤ 18446744073709551615 := by have := (Sat.add_in n0 t0).2; omega
      rcases hex with ⟨hj1, hj2⟩ | hj1
      all_goals
        go_wp2_with fail
        refine (reset_has H.out).mono ?_
        rintro e w3 ⟨rfl, h3, -⟩
        have H3 := hid h3
        clear h3
        go_wp2_with fail
        refine (later_calls now t n0 n1 t0 t1 _).mono ?_
        rintro e w' ⟨rfl, rfl⟩
        generalize Sat.add now t = nt at *
        go_wp2_with fail
        refine (counts_has (H3.out.alloc _) nt s0 s1).mono ?_
        rintro e w4 ⟨rfl, h4, o4⟩
        rw [H1.out, H1.out, H1.out, H1.out, H1.out]
        have H4 := hid h4
        have Z4 := hid ((zeros_new w3 30 0).only o4 (by simp [World.drewN]) (by have := H3.out.lt; omega))
        have L4 : Hid (w3.heap.size < w4.heap.size) := by show _ < _; have := o4.size; simp at this; omega
        clear h4 o4
        go_wp2_with fail
        refine (add_has (H4.out.alloc _) 0 1 k (by omega) (by omega) k5 (by omega) (by omega)).mono ?_
        rintro e w5 ⟨rfl, h5, o5⟩
        have H5 := hid h5
        have Z5 := hid ((Z4.out.alloc L4.out).only o5 (by simp; have := L4.out; omega) (by have := H3.out.lt; omega))
        have Y5 := hid ((zeros_new w4 30 0).only o5 (by simp [World.drewN]) (by have := H4.out.lt; omega))
        have L5 : Hid (w4.heap.size < w5.heap.size) := by show _ < _; have := o5.size; simp at this; omega
        clear h5 o5
        go_wp2_with fail
        refine (counts_has H5.out 0 (by omega) (by omega)).mono ?_
        rintro e w6 ⟨rfl, h6, o6⟩
        rw [H2.out, H2.out, H2.out, H2.out, H2.out]
        have Hb := hid h6.below
        have Z6 := hid (Z5.out.only o6 (by have := L5.out; have := L4.out; omega) (by have := H3.out.lt; omega))
        have Y6 := hid (Y5.out.only o6 L5.out (by have := H4.out.lt; omega))
        have L6 : Hid (w3.heap.size < w6.heap.size ∧ w4.heap.size < w6.heap.size ∧ w.heap.size ≤ w3.heap.size) := by show _ ∧ _ ∧ _; have := o6.size; have := L4.out; have := L5.out; have := H3.out.below.size; omega
        have zz := fun o => (Z6.out.alloc L6.out.1 (o := o)).full
        have yy := fun o => (Y6.out.alloc L6.out.2.1 (o := o)).full
        obtain ⟨z0, z1, z2, z3, z4, f0, f1, f2, f3, f4⟩ := forall_and10 zz
        obtain ⟨y0, y1, y2, y3, y4, -, -, -, -, -⟩ := forall_and10 yy
        have L43 := L4
        clear zz yy h6 o6 H1 H2 H3 H4 H5 Z4 Z5 Y5 Z6 Y6 L4 L5
        have hk : k = 0 ∨ k = 1 ∨ k = 2 ∨ k = 3 ∨ k = 4 := by omega
        have eqf := eq5 (a0 := if 0 = k then 1 else 0) (a1 := if 1 = k then 1 else 0) (a2 := if 2 = k then 1 else 0) (a3 := if 3 = k then 1 else 0) (a4 := if 4 = k then 1 else 0) (b0 := if 0 = k then 1 else 0) (b1 := if 1 = k then 1 else 0) (b2 := if 2 = k then 1 else 0) (b3 := if 3 = k then 1 else 0) (b4 := if 4 = k then 1 else 0) (by refine ⟨⟨?_, ?_⟩, ⟨?_, ?_⟩, ⟨?_, ?_⟩, ⟨?_, ?_⟩, ?_, ?_⟩ <;> split <;> omega) (by refine ⟨⟨?_, ?_⟩, ⟨?_, ?_⟩, ⟨?_, ?_⟩, ⟨?_, ?_⟩, ?_, ?_⟩ <;> split <;> omega) true (by simp)
        have n34 : ¬ w3.heap.size = w4.heap.size := by have := L43.out; omega
        have n43 : ¬ w4.heap.size = w3.heap.size := by have := L43.out; omega
        have n36 : ¬ w3.heap.size = w6.heap.size := by have := L6.out; omega
        have n63 : ¬ w6.heap.size = w3.heap.size := by have := L6.out; omega
        rcases hk with rfl | rfl | rfl | rfl | rfl
        all_goals
          simp (config := { decide := true }) only [reduceIte] at eqf ⊢
          go_wp2_with fail
          go_ret
          exact ⟨ret_bool (by simp), (Hb.out.alloc Hb.out.size _).setCell L6.out.2.2 _⟩
theorem windowReset_walk {H : Type} {enc : TypeId × Value → H} (W : World) (a0 : Option Addr) (l0 c0 : Nat) (k0 : (Opn.Lf.slc 37).ok enc Try.prog W 0 (fun _ => true) true (.slice a0 l0 c0)) (y0 : l0 * 32 ≤ 140737488351232) (a1 : Int) (w1 : (Lit.int .u64 a1).wf = true) (a2 : Int) (w2 : (Lit.int .u8 a2).wf = true) :
    Calls Try.prog 6 #[.slice a0 l0 c0, .int .u64 a1, .int .u8 a2] W fun e w' => e = .returned (.bool true) ∧ Below W.heap.size W w' := by
  obtain ⟨q0, q1⟩ := Sat.wf_u64 w1
  obtain ⟨r0, r1⟩ := Sat.wf_u8 w2
  obtain ⟨ds, rfl, hx, hr⟩ := deedsAt_of_slc (by kernel_rfl) (by kernel_rfl) k0
  obtain ⟨k, hk⟩ := Int.eq_ofNat_of_zero_le (a := a2 % 5) (by omega)
  exact reset_core ds a0 c0 a1 a2 k W (by omega) (hid hx) (hid hr) q0 (by omega) r0 (by omega) hk (by omega)
end Go.Proofs.Ytaepffcnhieckaa.C06
