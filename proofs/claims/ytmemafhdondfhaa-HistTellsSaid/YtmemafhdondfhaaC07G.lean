/- The walk of the law HistLasts. -/
import Derived.Test.YtmemafhdondfhaaC07F
namespace Go.Proofs.Ytmemafhdondfhaa.C06
open Go.RowKit Go.Proofs.Ytmemafhdondfhaa Go.Proofs.Ytmemafhdondfhaa.Win
set_option linter.unusedVariables false
set_option linter.unusedSimpArgs false
set_option linter.unnecessarySimpa false
attribute [local go_sem] C01.max2_mx C01.min2_mn C01.max_two C01.min_two
theorem Has.farSets {base w : World} {B C : Nat} {W : Win} (h : Has base B W w) (hC : base.heap.size ≤ C) (hne : B ≠ C) : ∀ (vs : List Value) (o : Nat), Has base B W (w.setCells C o vs) := by
  intro vs
  induction vs generalizing w with
  | nil => intro o; exact h
  | cons v vs ih => intro o; exact ih (h.far hC hne o v) (o + 1)
theorem lasts_told {V : Win} {t : Int} {k : Nat} (h : Holds V [⟨t / 10, k, 1⟩, ⟨t / 10, k, 1⟩]) (hn : V.n = 3) (hw : V.width = 10) {u : Int} (u0 : 0 ≤ u) (u1 : u ≤ 18446744073709551615) (i : Nat) :
    V.told u i = if i = k ∧ Sat.mx V.now u / 10 - 3 < t / 10 then 2 else 0 := by
  rw [h.told u0 u1 i]
  have e : V.bkt u = Sat.mx V.now u / 10 := by unfold Win.bkt Win.time; rw [hw]
  rw [e, hn, tot_cons, tot_cons, tot_nil]
  by_cases hc : i = k ∧ Sat.mx V.now u / 10 - 3 < t / 10
  · rw [if_pos hc, if_pos (by simp; exact ⟨hc.1.symm, hc.2⟩)]; rfl
  · rw [if_neg hc, if_neg (by simp; intro h; have := fun h2 => hc ⟨h.symm, h2⟩; omega)]; rfl
def V2 (t : Int) (k : Nat) : Win := ((fresh 3 10).add t k 1).add 0 k 1
theorem holds2 (t : Int) (k : Nat) (t0 : 0 ≤ t) (t1 : t ≤ 65535) : Holds (V2 t k) [⟨t / 10, k, 1⟩, ⟨t / 10, k, 1⟩] := by
  have h := ((holds_fresh (n := 3) (width := 10) (by omega) (by omega) (by omega) (by omega)).add (t := t) t0 (by omega) k (v := 1) (by omega)).add (t := 0) (by omega) (by omega) k (v := 1) (by omega)
  have e1 : (fresh 3 10).bkt t = t / 10 := by unfold Win.bkt; rw [time_fresh _ _ _ t0]; rfl
  have e2 : ((fresh 3 10).add t k 1).bkt 0 = t / 10 := by
    show Sat.mx ((fresh 3 10).time t) 0 / 10 = t / 10
    rw [time_fresh _ _ _ t0]
    congr 1
    unfold Sat.mx; split <;> omega
  rw [e1, e2] at h
  exact h
/-- What all the looks tell. -/
theorem lasts_plain (t E : Int) (k : Nat) (t0 : 0 ≤ t) (t1 : t ≤ 65535) (hk : k ≤ 64) (hE : (t / 10 + 3) * 10 = E) :
    (V2 t k).told t k = 2 ∧ ((V2 t k).tick t).told (E - 1) k = 2 ∧ Hst.percB ((((V2 t k).tick t).tick (E - 1)).told (E - 1)) 50 = true ∧ (∀ i, ((((V2 t k).tick t).tick (E - 1)).tick (E - 1)).told E i = 0) ∧ Hst.percB ((((((V2 t k).tick t).tick (E - 1)).tick (E - 1)).tick E).told 0) 50 = false := by
  have hE0 : t < E ∧ 1 ≤ E ∧ E ≤ 1000000 := by omega
  have h2 := holds2 t k t0 t1
  have h3 := h2.tick (t := t) t0 (by omega)
  have h4 := h3.tick (t := E - 1) (by omega) (by omega)
  have h5 := h4.tick (t := E - 1) (by omega) (by omega)
  have h6 := h5.tick (t := E) (by omega) (by omega)
  have m0 : (V2 t k).now = t := by
    show Sat.mx ((fresh 3 10).time t) 0 = t
    rw [time_fresh _ _ _ t0]
    unfold Sat.mx; split <;> omega
  have m3 : ((V2 t k).tick t).now = t := by show Sat.mx (V2 t k).now t = t; rw [m0, mx_self]
  have m4 : (((V2 t k).tick t).tick (E - 1)).now = E - 1 := by show Sat.mx ((V2 t k).tick t).now (E - 1) = E - 1; rw [m3]; unfold Sat.mx; split <;> omega
  have m5 : ((((V2 t k).tick t).tick (E - 1)).tick (E - 1)).now = E - 1 := by show Sat.mx (((V2 t k).tick t).tick (E - 1)).now (E - 1) = E - 1; rw [m4, mx_self]
  have m6 : (((((V2 t k).tick t).tick (E - 1)).tick (E - 1)).tick E).now = E := by show Sat.mx ((((V2 t k).tick t).tick (E - 1)).tick (E - 1)).now E = E; rw [m5]; unfold Sat.mx; split <;> omega
  have l2 := fun u u0 u1 i => lasts_told h2 rfl rfl (u := u) u0 u1 i
  have l3 := fun u u0 u1 i => lasts_told h3 rfl rfl (u := u) u0 u1 i
  have l4 := fun u u0 u1 i => lasts_told h4 rfl rfl (u := u) u0 u1 i
  have l5 := fun u u0 u1 i => lasts_told h5 rfl rfl (u := u) u0 u1 i
  have l6 := fun u u0 u1 i => lasts_told h6 rfl rfl (u := u) u0 u1 i
  have x1 : Sat.mx t (E - 1) = E - 1 := by unfold Sat.mx; split <;> omega
  have x2 : Sat.mx (E - 1) E = E := by unfold Sat.mx; split <;> omega
  have x3 : Sat.mx E 0 = E := by unfold Sat.mx; split <;> omega
  refine ⟨?_, ?_, ?_, fun i => ?_, ?_⟩
  · rw [l2 t t0 (by omega), m0, mx_self, if_pos ⟨rfl, by omega⟩]
  · rw [l3 (E - 1) (by omega) (by omega), m3, x1, if_pos ⟨rfl, by omega⟩]
  · refine (perc_single k 2 (by omega) (by omega) (fun i => ?_) (by omega) 50).2
    rw [l4 (E - 1) (by omega) (by omega), m4, mx_self]
    by_cases hi : i = k
    · rw [if_pos hi, if_pos ⟨hi, by omega⟩]
    · rw [if_neg hi, if_neg fun hh => hi hh.1]
  · rw [l5 E (by omega) (by omega), m5, x2, if_neg fun hh => by omega]
  · refine (Hst.perc_zero ?_).2
    rw [Hst.run_congr (g := fun _ => 0) fun i _ => ?_]
    · exact run_zeros 65
    · rw [l6 0 (by omega) (by omega), m6, x3, if_neg fun hh => by omega]
set_option maxHeartbeats 2000000 in
set_option maxRecDepth 100000 in
theorem lasts_core (t E d : Int) (x k : Nat) (w : World) (t0 : 0 ≤ t) (t1 : t ≤ 65535) (hx : x < 18446744073709551616) (hk : k ≤ 64) (hbk : Hid (Bits.blen x = k)) (hd : t / 10 = d) (d0 : 0 ≤ d) (d1 : d ≤ 6553) (hE : (d + 3) * 10 = E) (E0 : 1 ≤ E) (E1 : E ≤ 1000000)
    (V : Win) (hV : Hid (V2 t k = V)) (c1 : Hid (V.told t k = 2)) (c2 : Hid ((V.tick t).told (E - 1) k = 2)) (c3 : Hid (Hst.percB (((V.tick t).tick (E - 1)).told (E - 1)) 50 = true)) (c4 : Hid (∀ i, (((V.tick t).tick (E - 1)).tick (E - 1)).told E i = 0)) (c5 : Hid (Hst.percB (((((V.tick t).tick (E - 1)).tick (E - 1)).tick E).told 0) 50 = false)) :
    Calls Try.prog 7 #[.int .u64 x, .int .u16 t] w fun e w' => e = .returned (.bool true) ∧ Below w.heap.size w w' := by
  obtain ⟨ZA, hZA⟩ : ∃ Z : Array Value, Hid (Z = (bl fun _ => 0).toArray) := ⟨_, hid rfl⟩
  have hz : ∀ w, (zeroValue 42).run Try.prog w = .ok (.agg ZA) w := by rw [hZA.out]; exact zero42
  have eqz : ∀ w, Sem.run Try.prog (Op.equalIn 10000 42 (.agg ZA) (.agg ZA)) w = .ok true w := by
    rw [hZA.out]
    exact eq65 (fun _ => 0) (fun _ => 0) (fun _ => by omega) (fun _ => by omega) true (by simp)
  have hi65 : (Try.prog.info? 42).map (·.size) = some ZA.toList.length := by rw [hZA.out, bl_len]; kernel_rfl
  have hj65 : (Try.prog.info? 42).map (·.size) = some ZA.size := by rw [hZA.out, List.size_toArray, bl_len]; kernel_rfl
  have hon : Hid (ZA.all (·.oneCell') = true) := by
    show _ = true
    rw [hZA.out]
    exact all_oneCell_toArray (bl_one _)
  have HZ : Hid (∀ w : World, Bins (w.alloc (.cells ZA 42)) w.heap.size (fun _ => 0)) := fun w => bins_of (T := 42) (by rw [heap_alloc_new, hZA.out])
  have hth : Hid (∀ w : World, (w.alloc (.cells ZA 42)).there w.heap.size 0 ZA.size) := by
    intro w i hi
    rw [hZA.out, List.size_toArray, bl_len] at hi
    rw [Nat.zero_add]
    exact ⟨by rw [(HZ.out w i hi).1]; rfl, (HZ.out w i hi).2⟩
  have hx2 : (x : Int) ≤ 18446744073709551615 := by omega
  have hBin := hid fun w => bin_calls x hx w
  rw [hbk.out] at hBin
  have wt : IntKind.u64.wrap t = t := Sat.u64_in (by omega) (by omega)
  have E2 : 0 ≤ E - 1 := by omega
  go_enter Try.func7, Try.ntmps7
  go_wp2_with fail
  refine (awake_calls _).mono ?_
  rintro e w1 ⟨rfl, hb⟩
  have Hb := hid hb
  clear hb
  go_wp2_with fail
  refine (new_has w 3 10 w1 Hb.out (by omega) (by omega) (by omega) (by omega)).mono ?_
  rintro e w2 ⟨rfl, h2, _⟩
  have H2 := hid h2
  clear h2
  go_wp2_with fail
  refine (add_has H2.out t x t0 (by omega) hx).mono ?_
  rintro e w3 ⟨rfl, h3, _⟩
  rw [hbk.out] at h3
  have H3 := hid h3
  clear h3
  go_wp2_with fail
  refine (add_has H3.out 0 x (by omega) (by omega) hx).mono ?_
  rintro e w4 ⟨rfl, h4, _⟩
  rw [hbk.out, show ((fresh 3 10).add t k 1).add 0 k 1 = V from hV.out] at h4
  have H4 := hid h4
  clear h4
  go_wp2_with fail
  refine (all_has H4.out t t0 (by omega)).mono ?_
  rintro e w5 ⟨rfl, h5, _⟩
  have H5 := hid h5
  clear h5
  obtain ⟨LA, hLA⟩ : ∃ Z : Array Value, Hid (Z = (bl fun k => V.told t k).toArray) := ⟨_, hid rfl⟩
  have i1 : ∀ w, (Instr.index 42 (.agg LA) (.int .i64 k)).run Try.prog w = .ok (.int .u64 2) w := by
    intro w
    have := idx65 (fun k => V.told t k) k (by omega) w
    rw [c1.out] at this
    rw [hLA.out]
    exact this
  rw [← hLA.out]
  go_wp2_with fail
  refine (hBin.out _).mono ?_
  rintro e w' ⟨rfl, rfl⟩
  go_wp2_with fail
  refine (all_has H5.out (E - 1) E2 (by omega)).mono ?_
  rintro e w6 ⟨rfl, h6, _⟩
  have H6 := hid h6
  clear h6
  obtain ⟨LB, hLB⟩ : ∃ Z : Array Value, Hid (Z = (bl fun k => (V.tick t).told (E - 1) k).toArray) := ⟨_, hid rfl⟩
  have i2 : ∀ w, (Instr.index 42 (.agg LB) (.int .i64 k)).run Try.prog w = .ok (.int .u64 2) w := by
    intro w
    have := idx65 (fun k => (V.tick t).told (E - 1) k) k (by omega) w
    rw [c2.out] at this
    rw [hLB.out]
    exact this
  rw [← hLB.out]
  go_wp2_with fail
  refine (hBin.out _).mono ?_
  rintro e w' ⟨rfl, rfl⟩
  go_wp2_with fail
  refine (perc_has H6.out (E - 1) 50 E2 (by omega) (by omega) (by omega)).mono ?_
  rintro e w7 ⟨rfl, h7, _⟩
  rw [c3.out]
  have H7 := hid h7
  clear h7
  go_wp2_with fail
  refine (all_has H7.out E (by omega) (by omega)).mono ?_
  rintro e w8 ⟨rfl, h8, _⟩
  rw [bl_congr (g := fun _ => 0) (fun i _ => c4.out i), ← hZA.out]
  have H9 := hid ((h8.alloc (.cells ZA 42 (0, 0))).farSets (C := w8.heap.size) h8.below.size (by have := h8.lt; omega) ZA.toList 0)
  have R9 : Hid (((w8.alloc (.cells ZA 42 (0, 0))).setCells w8.heap.size 0 ZA.toList).rangeAt w8.heap.size 0 ZA.toList) := World.rangeAt_setCells_same _ _ _ _ (by rw [Array.length_toList]; exact hth.out w8)
  have hne : Hid (w8.heap.size ≠ w1.heap.size) := by show _ ≠ _; have := h8.lt; omega
  clear h8
  go_wp2_with (refine wpList_store_mid rfl 42 _ _ rfl _ _ ZA rfl rfl (hth.out _) hj65 hon.out ?_)
  generalize ((w8.alloc (.cells ZA 42 (0, 0))).setCells w8.heap.size 0 ZA.toList) = w9 at *
  generalize w8.heap.size = C at *
  refine (perc_has H9.out 0 50 (by omega) (by omega) (by omega) (by omega)).mono ?_
  rintro e w10 ⟨rfl, h10, ho⟩
  rw [c5.out]
  have H10 := hid h10
  have R10 : Hid (w10.rangeAt C 0 ZA.toList) := fun j v hj => ho.cell (R9.out j v hj) hne.out
  clear h10 ho
  go_wp2_with (refine BigFrame.wpList_want rfl (fun K hK => wp_load_mid 42 _ rfl _ _ rfl ZA.toList _ R10.out Try.underlying42 rfl hi65 (hK _ _ ?_)))
  go_ret
  exact ⟨ret_bool (by simp), H10.out.below⟩
theorem histLasts_walk {H : Type} {enc : TypeId × Value → H} (W : World) (a0 : Int) (w0 : (Lit.int .u64 a0).wf = true) (a1 : Int) (w1 : (Lit.int .u16 a1).wf = true) :
    Calls Try.prog 7 #[.int .u64 a0, .int .u16 a1] W fun e w' => e = .returned (.bool true) ∧ Below W.heap.size W w' := by
  obtain ⟨x0, x1⟩ := Sat.wf_u64 w0
  have hw2 : 0 ≤ a1 ∧ a1 ≤ 65535 := by
    have h2 : IntKind.u16.min ≤ a1 ∧ a1 ≤ IntKind.u16.max := by simpa [Lit.wf] using w1
    have e1 : IntKind.u16.min = 0 := by decide
    have e2 : IntKind.u16.max = 65535 := by decide
    rw [e1, e2] at h2
    exact h2
  obtain ⟨x, rfl⟩ := Int.eq_ofNat_of_zero_le x0
  have hx : x < 18446744073709551616 := by omega
  obtain ⟨p1, p2, p3, p4, p5⟩ := lasts_plain a1 _ (Bits.blen x) hw2.1 hw2.2 (Bits.blen_le64 hx) rfl
  exact lasts_core a1 _ _ x (Bits.blen x) W hw2.1 hw2.2 hx (Bits.blen_le64 hx) (hid rfl) rfl (by omega) (by omega) rfl (by omega) (by omega) _ (hid rfl) (hid p1) (hid p2) (hid p3) (hid p4) (hid p5)
end Go.Proofs.Ytmemafhdondfhaa.C06
