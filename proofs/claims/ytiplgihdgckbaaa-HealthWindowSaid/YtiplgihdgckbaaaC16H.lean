/- What the reference's Of tells; the walk of the law HealthOf. -/
import Derived.Test.YtiplgihdgckbaaaC16G
namespace Go.Proofs.Ytiplgihdgckbaaa.C16
open Go.RowKit Go.Proofs.Ytiplgihdgckbaaa
set_option linter.unusedVariables false
set_option linter.unusedSimpArgs false
set_option linter.unnecessarySimpa false
attribute [local go_sem] C01.max2_mx C01.min2_mn C01.max_two C01.min_two
set_option maxHeartbeats 2000000 in
theorem rof_calls (L : List E) (A : Option Addr) (c : Nat) (t B W : Int) (w : World) (hl : L.length ≤ 1000000) (hx : Hid (∀ e ∈ L, EOk e)) (hr : RowE w A L) (t0 : 0 ≤ t) (t1 : t ≤ 18446744073709551615) (B0 : 1 ≤ B) (B1 : B ≤ 9223372036854775807) (W0 : 1 ≤ W) (W1 : W ≤ 18446744073709551615) :
    Calls Try.prog 21 #[.slice A L.length c, .int .u64 t, .int .i64 B, .int .u64 W] w fun e w' => e = .returned (.agg (vals (ofN L t B W))) ∧ Below w.heap.size w w' := by
  have Hr := hid hr
  have hli : (L.length : Int) ≤ 1000000 := by omega
  have Wz : (W == 0) = false := by rw [beq_eq_false_iff_ne]; omega
  have Wz2 : ¬ W = 0 := by omega
  have bt : 0 ≤ t / W ∧ t / W ≤ t := ⟨Int.ediv_nonneg t0 (by omega), Int.ediv_le_self _ t0⟩
  obtain ⟨b, hb⟩ : ∃ b, t / W = b := ⟨_, rfl⟩
  rw [hb] at bt
  obtain ⟨bt0, bt1⟩ := bt
  have bt2 : b ≤ 18446744073709551615 := by omega
  have Bw : IntKind.u64.wrap B = B := Sat.u64_in (by omega) (by omega)
  clear hr
  go_enter Try.func21, Try.ntmps21
  go_wp2_with fail
  go_loopw [11] (fun i wr => ∃ k : Nat, k ≤ L.length ∧ i = .int .i64 k ∧ Inv w w.heap.size (w.heap.size + 1) L t B W k wr) (fun i _ => L.length - (intOf i).toNat)
  case atStart =>
    refine ⟨0, Nat.zero_le _, rfl, ((Below.refl _ _).alloc (Nat.le_refl _) _).alloc (by simp) _, ?_, five_zero (heap_alloc2_old _ _ _), by simp⟩
    exact five_zero (heap_alloc2_new _ _ _)
  case round =>
    obtain ⟨k, hk, rfl, hI⟩ := hrel
    have HI := hid hI
    by_cases hlt : k < L.length
    · obtain ⟨bb, o, rfl, hcell⟩ : ∃ bb o, A = some ⟨bb, o, none⟩ ∧ (wr.cell? ⟨bb, o + k * 2, none⟩ = some (.int .u64 (L.getD k (0, 0)).1) ∧ wr.cell? ⟨bb, o + k * 2 + 1, none⟩ = some (.int .i64 (L.getD k (0, 0)).2)) := by
        rcases Hr.out.below hI.1 with rfl | ⟨bb, o, rfl, h⟩
        · exact absurd hlt (Nat.not_lt_zero _)
        · exact ⟨bb, o, rfl, h k hlt⟩
      obtain ⟨c0, c1⟩ := hcell
      have hek : EOk (L.getD k (0, 0)) := by
        rw [List.getD_eq_getElem?_getD, List.getElem?_eq_getElem hlt]
        exact hx.out _ (List.getElem_mem hlt)
      have hcnt : Hid (∀ j : Nat, counts t B W j (L.getD k (0, 0)) = decide ((L.getD k (0, 0)).2 = j ∧ (L.getD k (0, 0)).1 / W ≤ t / W ∧ t / W - (L.getD k (0, 0)).1 / W < B)) := hid fun j => rfl
      have hs := hI.2.2.2
      have hF := hid hI.2.1
      have hlti : (k : Int) < L.length := by omega
      obtain ⟨⟨x0, x1⟩, y0, y1⟩ := hek
      rw [hb] at hcnt
      have ab : 0 ≤ (L.getD k (0, 0)).1 / W ∧ (L.getD k (0, 0)).1 / W ≤ (L.getD k (0, 0)).1 := ⟨Int.ediv_nonneg x0 (by omega), Int.ediv_le_self _ x0⟩
      clear hI
      generalize (L.getD k (0, 0)).1 = x at *
      generalize (L.getD k (0, 0)).2 = y at *
      obtain ⟨a, ha⟩ : ∃ a, x / W = a := ⟨_, rfl⟩
      rw [ha] at ab hcnt
      obtain ⟨a0, a1⟩ := ab
      have a2 : a ≤ 18446744073709551615 := by omega
      by_cases hy : 0 ≤ y ∧ y < 5 ∧ a ≤ b ∧ b - a < B
      · obtain ⟨y2, y3, e1, e2⟩ := hy
        obtain ⟨j, rfl⟩ := Int.eq_ofNat_of_zero_le y2
        have hj : j < 5 := by omega
        have f1 := (hF.out j hj).1
        have f2 := (hF.out j hj).2
        have f3 := ofN_in (L.take k) t B W j
        have f4 : ofN (L.take k) t B W j ≤ 1000000 := by have := f3.2; rw [List.length_take] at this; omega
        have f5 := f3.1
        have hjc := hid (show counts t B W j (L.getD k (0, 0)) = true from by rw [hcnt.out]; simp; exact ⟨e1, e2⟩)
        clear f3 hF
        dsimp only at f1
        rw [← hb] at e1 e2 bt0 bt1 bt2
        clear hb
        go_wp2_with fail
        go_roundw
        case rel => exact ⟨k + 1, by omega, by go_num, HI.out.count hlt (by omega) (by omega) hjc.out⟩
        case measure => simp [intOf]; omega
      · have hno := hid (show ∀ i, i < 5 → counts t B W i (L.getD k (0, 0)) = false from fun i hi => by
          rw [hcnt.out, decide_eq_false_iff_not]
          rintro ⟨h1, h2, h3⟩
          exact hy ⟨by omega, by omega, h2, h3⟩)
        clear hF
        by_cases n1 : y < 0
        · go_wp2_with fail
          first
            | exact ⟨⟨k + 1, by omega, by go_num, HI.out.skip hlt hno.out⟩, by simp [intOf]; omega⟩
            | exact ⟨⟨.int .i64 ((k : Int) + 1), _, ⟨k + 1, by omega, by go_num, HI.out.skip hlt hno.out⟩, rfl, rfl⟩, by simp [intOf]; omega⟩
        by_cases n2 : 4 < y
        · go_wp2_with fail
          first
            | exact ⟨⟨k + 1, by omega, by go_num, HI.out.skip hlt hno.out⟩, by simp [intOf]; omega⟩
            | exact ⟨⟨.int .i64 ((k : Int) + 1), _, ⟨k + 1, by omega, by go_num, HI.out.skip hlt hno.out⟩, rfl, rfl⟩, by simp [intOf]; omega⟩
        by_cases n3 : b < a
        · go_wp2_with fail
          first
            | exact ⟨⟨k + 1, by omega, by go_num, HI.out.skip hlt hno.out⟩, by simp [intOf]; omega⟩
            | exact ⟨⟨.int .i64 ((k : Int) + 1), _, ⟨k + 1, by omega, by go_num, HI.out.skip hlt hno.out⟩, rfl, rfl⟩, by simp [intOf]; omega⟩
        · have n4 : B ≤ b - a := by
            apply Int.not_lt.1
            intro h
            exact hy ⟨by omega, by omega, by omega, h⟩
          go_wp2_with fail
          first
            | exact ⟨⟨k + 1, by omega, by go_num, HI.out.skip hlt hno.out⟩, by simp [intOf]; omega⟩
            | exact ⟨⟨.int .i64 ((k : Int) + 1), _, ⟨k + 1, by omega, by go_num, HI.out.skip hlt hno.out⟩, rfl, rfl⟩, by simp [intOf]; omega⟩
    · obtain rfl : k = L.length := by omega
      have F0 := hI.2.1 0 (by omega)
      have F1 := hI.2.1 1 (by omega)
      have F2 := hI.2.1 2 (by omega)
      have F3 := hI.2.1 3 (by omega)
      have F4 := hI.2.1 4 (by omega)
      have R0 := hI.2.2.1 0 (by omega)
      have R1 := hI.2.2.1 1 (by omega)
      have R2 := hI.2.2.1 2 (by omega)
      have R3 := hI.2.2.1 3 (by omega)
      have R4 := hI.2.2.1 4 (by omega)
      simp only [List.take_length] at F0 F1 F2 F3 F4
      clear hI
      go_wp2_with fail
      refine bodyPost_ret (v := .agg (vals (ofN L t B W))) (by simp [results, Try.results21, go_sem, R0, R1, R2, R3, R4]) rfl ⟨rfl, ?_⟩
      exact ((((HI.out.1.setCell (Nat.le_refl _) _).setCell (Nat.le_refl _) _).setCell (Nat.le_refl _) _).setCell (Nat.le_refl _) _).setCell (Nat.le_refl _) _
theorem rof_none (L : List E) (A : Option Addr) (c : Nat) (t B W : Int) (w : World) (h : B < 1 ∨ W = 0) (B0 : I B) (W0 : U W) :
    Calls Try.prog 21 #[.slice A L.length c, .int .u64 t, .int .i64 B, .int .u64 W] w fun e w' => e = .returned (.agg (vals fun _ => 0)) ∧ Below w.heap.size w w' := by
  by_cases hB : B < 1
  · go_enter Try.func21, Try.ntmps21
    go_wp2_with fail
    refine bodyPost_ret (v := .agg (vals fun _ => 0)) (by simp [results, Try.results21, go_sem]) rfl ⟨rfl, ?_⟩
    exact ((Below.refl _ _).alloc (Nat.le_refl _) _).alloc (by simp) _
  · obtain rfl : W = 0 := by omega
    go_enter Try.func21, Try.ntmps21
    go_wp2_with fail
    refine bodyPost_ret (v := .agg (vals fun _ => 0)) (by simp [results, Try.results21, go_sem]) rfl ⟨rfl, ?_⟩
    exact ((Below.refl _ _).alloc (Nat.le_refl _) _).alloc (by simp) _
theorem rowE_of_slc {H : Type} {enc : TypeId × Value → H} {P : Program} {w : World} {e : TypeId} {a : Option Addr} {l c : Nat} (he : Opn.leaves P 3 e = some [.int .u64, .int .i64]) (hc : P.cellsOf e = 2) (h : (Opn.Lf.slc e).ok enc P w 0 (fun _ => true) true (.slice a l c)) :
    ∃ L : List E, L.length = l ∧ (∀ e ∈ L, EOk e) ∧ RowE w a L := by
  obtain ⟨a', l', c', hv, _, vs, hlen, hok, hcell⟩ := Opn.slc_cells 3 he (by rw [hc]; rfl) h
  injection hv with h1 h2' h3
  subst h1 h2' h3
  obtain ⟨zs, rfl, hz⟩ := Opn.list_of (fun z : E => [Value.int .u64 z.1, Value.int .i64 z.2]) EOk vs (fun x hx => by
    obtain ⟨_, _, rfl, ⟨n, rfl, wn⟩, _, _, rfl, ⟨m, rfl, wm⟩, rfl⟩ := hok x hx
    exact ⟨(n, m), rfl, u_of wn, i_of wm⟩)
  refine ⟨zs, by simpa using hlen, hz, ?_⟩
  by_cases hne : zs = []
  · exact .inl hne
  · right
    rcases hcell with h0 | ⟨ad, rfl, hcell⟩
    · exfalso
      apply hne
      exact List.eq_nil_of_length_eq_zero (by simpa [h0] using hlen)
    · obtain ⟨b, o, rfl, hat⟩ := Opn.slc_at (sz := 2) (by intro x hx; obtain ⟨z, _, rfl⟩ := List.mem_map.1 hx; rfl) (by omega) (by simpa using hne) hcell
      refine ⟨b, o, rfl, fun i hi => ?_⟩
      have h1 := hat i 0 [Value.int .u64 (zs.getD i (0, 0)).1, Value.int .i64 (zs.getD i (0, 0)).2] (Value.int .u64 (zs.getD i (0, 0)).1) (by simp [hi]) rfl
      have h2 := hat i 1 [Value.int .u64 (zs.getD i (0, 0)).1, Value.int .i64 (zs.getD i (0, 0)).2] (Value.int .i64 (zs.getD i (0, 0)).2) (by simp [hi]) rfl
      exact ⟨by simpa using h1, by simpa using h2⟩
set_option maxHeartbeats 4000000 in
theorem hof_core (L : List E) (A : Option Addr) (c : Nat) (t B W : Int) (f : Nat → Int) (w : World) (hl : L.length ≤ 1000000) (hl2 : L.length ≤ 200) (hx : Hid (∀ e ∈ L, EOk e)) (hr : RowE w A L) (hf : ∀ i, U (f i))
    (hOf : Hid (∀ w A c, RowE w A L → Calls Try.prog 19 #[.slice A L.length c, .int .u64 t, .int .i64 B, .int .u64 W] w fun e w' => e = .returned (.agg (vals f)) ∧ Below w.heap.size w w'))
    (hR : Hid (∀ w, RowE w A L → Calls Try.prog 21 #[.slice A L.length c, .int .u64 t, .int .i64 B, .int .u64 W] w fun e w' => e = .returned (.agg (vals f)) ∧ Below w.heap.size w w')) :
    Calls Try.prog 7 #[.slice A L.length c, .int .u64 t, .agg #[.int .i64 B, .int .u64 W]] w fun e w' => e = .returned (.bool true) ∧ Below w.heap.size w w' := by
  have Hr := hid hr
  have hli : (L.length : Int) ≤ 200 := by omega
  have eqv := eq5 (a0 := f 0) (a1 := f 1) (a2 := f 2) (a3 := f 3) (a4 := f 4) (b0 := f 0) (b1 := f 1) (b2 := f 2) (b3 := f 3) (b4 := f 4) ⟨hf 0, hf 1, hf 2, hf 3, hf 4⟩ ⟨hf 0, hf 1, hf 2, hf 3, hf 4⟩ true (by simp)
  clear hr
  go_enter Try.func7, Try.ntmps7
  go_wp2_with fail
  refine (awake_calls _).mono ?_
  rintro e w1 ⟨rfl, hb⟩
  have c0 : w1.cell? ⟨w.heap.size, 0, none⟩ = some (.int .i64 B) := cell_of hb (by simp [go_sem])
  have c1 : w1.cell? ⟨w.heap.size, 1, none⟩ = some (.int .u64 W) := cell_of hb (by simp [go_sem])
  have Hb := hid (via ((Below.refl w.heap.size w).alloc (Nat.le_refl _) _) hb)
  have keepS := hid (fun (u1 u2 : World) (hS : Hid (Below w.heap.size w u1 ∧ u1.cell? ⟨w.heap.size, 0, none⟩ = some (.int .i64 B) ∧ u1.cell? ⟨w.heap.size, 1, none⟩ = some (.int .u64 W))) (hl : Below u1.heap.size u1 u2) => (show Hid (Below w.heap.size w u2 ∧ u2.cell? ⟨w.heap.size, 0, none⟩ = some (.int .i64 B) ∧ u2.cell? ⟨w.heap.size, 1, none⟩ = some (.int .u64 W)) from hid ⟨via hS.out.1 hl, cell_of hl hS.out.2.1, cell_of hl hS.out.2.2⟩))
  clear hb
  go_wp2_with fail
  have hS0 : Hid (Below w.heap.size w w1 ∧ w1.cell? ⟨w.heap.size, 0, none⟩ = some (.int .i64 B) ∧ w1.cell? ⟨w.heap.size, 1, none⟩ = some (.int .u64 W)) := hid ⟨Hb.out, c0, c1⟩
  refine Rg.start (S := fun w' => Hid (Below w.heap.size w w' ∧ w'.cell? ⟨w.heap.size, 0, none⟩ = some (.int .i64 B) ∧ w'.cell? ⟨w.heap.size, 1, none⟩ = some (.int .u64 W))) (by kernel_rfl) (fun _ _ _ _ _ h => h) (keepS.out _ _ hS0 (quiet _)) ?_
  intro Q hp hn wz hH0
  refine Rg.tk (i := 0) rfl hp ?_
  refine ⟨?_, ?_, by kernel_rfl, by kernel_rfl, by kernel_rfl, Or.inl ⟨by rfl, ?_⟩, hH0, ?_, ?_⟩
  rotate_left 2
  · (intro w hSw; clear hSw; go_simp; try with_reducible rfl)
  · ((try simp only [Act.put, List.setIfInBounds_toArray, List.set_cons_zero, List.set_cons_succ]); exact rfl)
  refine Rg.tk (i := 1) rfl hp ?_
  refine ⟨?_, ?_, by kernel_rfl, by kernel_rfl, by kernel_rfl, Or.inl ⟨by rfl, ?_⟩, hH0, ?_, ?_⟩
  rotate_left 2
  · (intro w hSw; clear hSw; go_simp; try with_reducible rfl)
  · ((try simp only [Act.put, List.setIfInBounds_toArray, List.set_cons_zero, List.set_cons_succ]); exact rfl)
  refine Rg.tk (i := 2) rfl hp ?_
  refine ⟨?_, ?_, by kernel_rfl, by kernel_rfl, by kernel_rfl, Or.inl ⟨by rfl, ?_⟩, hH0, ?_, ?_⟩
  rotate_left 2
  · (intro w hSw; clear hSw; go_simp; try with_reducible rfl)
  · ((try simp only [Act.put, List.setIfInBounds_toArray, List.set_cons_zero, List.set_cons_succ]); exact rfl)
  refine Rg.tk (i := 4) rfl hp ?_
  refine ⟨?_, ?_, by kernel_rfl, by kernel_rfl, by kernel_rfl, Or.inl ⟨by rfl, ?_⟩, hH0, ?_, ?_⟩
  rotate_left 2
  · (intro w hSw; clear hSw; go_simp; try with_reducible rfl)
  · ((try simp only [Act.put, List.setIfInBounds_toArray, List.set_cons_zero, List.set_cons_succ]); exact rfl)
  refine Rg.tk (i := 5) rfl hp ?_
  refine ⟨?_, ?_, by kernel_rfl, by kernel_rfl, by kernel_rfl, Or.inl ⟨by rfl, ?_⟩, hH0, ?_, ?_⟩
  rotate_left 2
  · (intro w hSw; clear hSw; go_simp; try with_reducible rfl)
  · ((try simp only [Act.put, List.setIfInBounds_toArray, List.set_cons_zero, List.set_cons_succ]); exact rfl)
  refine Rg.tk (i := 6) rfl hp ?_
  refine ⟨?_, ?_, by kernel_rfl, by kernel_rfl, by kernel_rfl, Or.inl ⟨by rfl, ?_⟩, hH0, ?_, ?_⟩
  rotate_left 2
  · (intro w hSw; have hc := hSw.out.2.1; clear hSw; go_simp; try with_reducible rfl)
  · ((try simp only [Act.put, List.setIfInBounds_toArray, List.set_cons_zero, List.set_cons_succ]); exact rfl)
  refine Rg.tk (i := 7) rfl hp ?_
  refine ⟨?_, ?_, by kernel_rfl, by kernel_rfl, by kernel_rfl, Or.inl ⟨by rfl, ?_⟩, hH0, ?_, ?_⟩
  rotate_left 2
  · (intro w hSw; clear hSw; go_simp; try with_reducible rfl)
  · ((try simp only [Act.put, List.setIfInBounds_toArray, List.set_cons_zero, List.set_cons_succ]); exact rfl)
  refine Rg.tk (i := 8) rfl hp ?_
  refine ⟨?_, ?_, by kernel_rfl, by kernel_rfl, by kernel_rfl, Or.inl ⟨by rfl, ?_⟩, hH0, ?_, ?_⟩
  rotate_left 2
  · (intro w hSw; have hc := hSw.out.2.2; clear hSw; go_simp; try with_reducible rfl)
  · ((try simp only [Act.put, List.setIfInBounds_toArray, List.set_cons_zero, List.set_cons_succ]); exact rfl)
  refine Rg.tk (i := 10) rfl hp ?_
  refine ⟨?_, ?_, by kernel_rfl, by kernel_rfl, by kernel_rfl, Or.inl ⟨by rfl, ?_⟩, hH0, ?_, ?_⟩
  rotate_left 2
  · (intro w hSw; clear hSw; go_simp; try with_reducible rfl)
  · ((try simp only [Act.put, List.setIfInBounds_toArray, List.set_cons_zero, List.set_cons_succ]); exact rfl)
  refine Rg.tk (i := 11) rfl hp ?_
  refine ⟨?_, ?_, by kernel_rfl, by kernel_rfl, by kernel_rfl, Or.inl ⟨by rfl, ?_⟩, hH0, ?_, ?_⟩
  rotate_left 2
  · (intro w hSw; clear hSw; go_simp; try with_reducible rfl)
  · ((try simp only [Act.put, List.setIfInBounds_toArray, List.set_cons_zero, List.set_cons_succ]); exact rfl)
  refine Rg.tk (i := 12) rfl hp ?_
  refine ⟨?_, ?_, by kernel_rfl, by kernel_rfl, by kernel_rfl, Or.inl ⟨by rfl, ?_⟩, hH0, ?_, ?_⟩
  rotate_left 2
  · (intro w hSw; clear hSw; go_simp; try with_reducible rfl)
  · ((try simp only [Act.put, List.setIfInBounds_toArray, List.set_cons_zero, List.set_cons_succ]); exact rfl)
  refine Rg.tk (i := 13) rfl hp ?_
  refine ⟨?_, ?_, by kernel_rfl, by kernel_rfl, by kernel_rfl, Or.inl ⟨by rfl, ?_⟩, hH0, ?_, ?_⟩
  rotate_left 2
  · (intro w hSw; have hc := hSw.out.2.1; clear hSw; go_simp; try with_reducible rfl)
  · ((try simp only [Act.put, List.setIfInBounds_toArray, List.set_cons_zero, List.set_cons_succ]); exact rfl)
  refine Rg.tk (i := 14) rfl hp ?_
  refine ⟨?_, ?_, by kernel_rfl, by kernel_rfl, by kernel_rfl, Or.inl ⟨by rfl, ?_⟩, hH0, ?_, ?_⟩
  rotate_left 2
  · (intro w hSw; clear hSw; go_simp; try with_reducible rfl)
  · ((try simp only [Act.put, List.setIfInBounds_toArray, List.set_cons_zero, List.set_cons_succ]); exact rfl)
  refine Rg.tk (i := 15) rfl hp ?_
  refine ⟨?_, ?_, by kernel_rfl, by kernel_rfl, by kernel_rfl, Or.inl ⟨by rfl, ?_⟩, hH0, ?_, ?_⟩
  rotate_left 2
  · (intro w hSw; have hc := hSw.out.2.2; clear hSw; go_simp; try with_reducible rfl)
  · ((try simp only [Act.put, List.setIfInBounds_toArray, List.set_cons_zero, List.set_cons_succ]); exact rfl)
  refine Rg.one (i := 3) rfl ⟨by kernel_rfl, by rfl, fun K hK => ?_⟩
  go_simp
  refine (made_calls L A c _ hl hx (Hr.out.below hH0.out.1)).mono ?_
  rintro e v0 ⟨A', c', rfl, hrow, hl0⟩
  refine hK.out _ _ ?_ (keepS.out _ _ hH0 hl0) ?_ (fun hH1 => ?_)
  rotate_left
  · ((try simp only [Act.put, List.setIfInBounds_toArray, List.set_cons_zero, List.set_cons_succ]); exact rfl)
  clear hK K hH0 hl0
  refine Rg.one (i := 9) rfl ⟨by kernel_rfl, by rfl, fun K hK => ?_⟩
  go_simp
  refine (hOf.out _ _ _ hrow).mono ?_
  rintro e v1 ⟨rfl, hl1⟩
  refine hK.out _ _ ?_ (keepS.out _ _ hH1 hl1) ?_ (fun hH2 => ?_)
  rotate_left
  · ((try simp only [Act.put, List.setIfInBounds_toArray, List.set_cons_zero, List.set_cons_succ]); exact rfl)
  clear hK K hH1 hl1
  refine Rg.one (i := 16) rfl ⟨by kernel_rfl, by rfl, fun K hK => ?_⟩
  go_simp
  refine (hR.out _ (Hr.out.below hH2.out.1)).mono ?_
  rintro e v2 ⟨rfl, hl2⟩
  refine hK.out _ _ ?_ (keepS.out _ _ hH2 hl2) ?_ (fun hH3 => ?_)
  rotate_left
  · ((try simp only [Act.put, List.setIfInBounds_toArray, List.set_cons_zero, List.set_cons_succ]); exact rfl)
  clear hK K hH2 hl2
  refine Rg.tk (i := 17) rfl hp ?_
  refine ⟨?_, ?_, by kernel_rfl, by kernel_rfl, by kernel_rfl, Or.inl ⟨by rfl, ?_⟩, hH3, ?_, ?_⟩
  rotate_left 2
  · (intro w hSw; clear hSw; go_simp; try with_reducible rfl)
  · ((try simp only [Act.put, List.setIfInBounds_toArray, List.set_cons_zero, List.set_cons_succ]); exact rfl)
  refine Rg.tk (i := 18) rfl hp ?_
  refine ⟨?_, ?_, by kernel_rfl, by kernel_rfl, by kernel_rfl, Or.inl ⟨by rfl, ?_⟩, hH3, ?_, ?_⟩
  rotate_left 2
  · (intro w hSw; clear hSw; go_simp; try with_reducible rfl)
  · ((try simp only [Act.put, List.setIfInBounds_toArray, List.set_cons_zero, List.set_cons_succ]); exact rfl)
  refine Rg.tk (i := 19) rfl hp ?_
  refine ⟨?_, ?_, by kernel_rfl, by kernel_rfl, by kernel_rfl, Or.inl ⟨by rfl, ?_⟩, hH3, ?_, ?_⟩
  rotate_left 2
  · (intro w hSw; clear hSw; go_simp; try with_reducible rfl)
  · ((try simp only [Act.put, List.setIfInBounds_toArray, List.set_cons_zero, List.set_cons_succ]); exact rfl)
  refine wpAnyH_done (by kernel_rfl) ?_ _
  refine hn.out _ _ ?_
  go_wp2_with fail
  go_ret
  exact ⟨ret_bool (by simp), hH3.out.1⟩
theorem hof_long (L : List E) (A : Option Addr) (c : Nat) (t B W : Int) (w : World) (hl2 : ¬ L.length ≤ 200) :
    Calls Try.prog 7 #[.slice A L.length c, .int .u64 t, .agg #[.int .i64 B, .int .u64 W]] w fun e w' => e = .returned (.bool true) ∧ Below w.heap.size w w' := by
  have hli : 200 < (L.length : Int) := by omega
  go_enter Try.func7, Try.ntmps7
  go_wp2_with fail
  refine (awake_calls _).mono ?_
  rintro e w1 ⟨rfl, hb⟩
  have Hb := hid (via ((Below.refl w.heap.size w).alloc (Nat.le_refl _) _) hb)
  clear hb
  go_wp2_with fail
  go_ret
  exact ⟨rfl, Hb.out⟩
theorem healthOf_walk {H : Type} {enc : TypeId × Value → H} (W : World) (a0 : Option Addr) (l0 c0 : Nat) (k0 : (Opn.Lf.slc 52).ok enc Try.prog W 0 (fun _ => true) true (.slice a0 l0 c0)) (y0 : l0 * 16 ≤ 140737488351232) (a1 : Int) (w1 : (Lit.int .u64 a1).wf = true) (a2_0 : Int) (a2_1 : Int) (w2_0 : (Lit.int .i64 a2_0).wf = true) (w2_1 : (Lit.int .u64 a2_1).wf = true) :
    Calls Try.prog 7 #[.slice a0 l0 c0, .int .u64 a1, .agg #[.int .i64 a2_0, .int .u64 a2_1]] W fun e w' => e = .returned (.bool true) ∧ Below W.heap.size W w' := by
  obtain ⟨L, rfl, hx, hr⟩ := rowE_of_slc (by kernel_rfl) (by kernel_rfl) k0
  have ut := u_of w1
  have iB := i_of w2_0
  have uW := u_of w2_1
  by_cases hl : L.length ≤ 200
  · by_cases hv : 1 ≤ a2_0 ∧ 1 ≤ a2_1
    · refine hof_core L a0 c0 a1 a2_0 a2_1 (ofN L a1 a2_0 a2_1) W (by omega) hl (hid hx) hr (fun i => ?_) (hid fun w A c hr => of_calls L A c a1 a2_0 a2_1 w (by omega) (hid hx) hr ut.1 ut.2 hv.1 iB.2 hv.2 uW.2) (hid fun w hr => rof_calls L a0 c0 a1 a2_0 a2_1 w (by omega) (hid hx) hr ut.1 ut.2 hv.1 iB.2 hv.2 uW.2)
      have := ofN_in L a1 a2_0 a2_1 i
      exact ⟨by omega, by omega⟩
    · have h2 : a2_0 < 1 ∨ a2_1 = 0 := by have := uW.1; omega
      exact hof_core L a0 c0 a1 a2_0 a2_1 (fun _ => 0) W (by omega) hl (hid hx) hr (fun i => by show (0 : Int) ≤ 0 ∧ (0 : Int) ≤ _; omega) (hid fun w A c hr => of_none L A c a1 a2_0 a2_1 w h2 iB uW) (hid fun w hr => rof_none L a0 c0 a1 a2_0 a2_1 w h2 iB uW)
  · exact hof_long L a0 c0 a1 a2_0 a2_1 W hl
end Go.Proofs.Ytiplgihdgckbaaa.C16
