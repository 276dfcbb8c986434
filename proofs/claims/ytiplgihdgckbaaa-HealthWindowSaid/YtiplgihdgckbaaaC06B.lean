/- What Counts of the package window tells: of each kind the sum over the buckets. -/
import Derived.Test.YtiplgihdgckbaaaC06A
namespace Go.Proofs.Ytiplgihdgckbaaa.C06
open Go.RowKit Go.Proofs.Ytiplgihdgckbaaa Go.Proofs.Ytiplgihdgckbaaa.Win
set_option linter.unusedVariables false
set_option linter.unusedSimpArgs false
set_option linter.unnecessarySimpa false
attribute [local go_sem] C01.max2_mx C01.min2_mn C01.max_two C01.min_two
/-- Five numbers in a block. -/
def Five (w : World) (C : Nat) (f : Nat → Int) : Prop := ∀ i, i < 5 → w.cell? ⟨C, i, none⟩ = some (.int .u64 (f i)) ∧ w.frozen? ⟨C, i, none⟩ = false
theorem Five.same {w w' : World} {C : Nat} {f : Nat → Int} (h : Five w C f) (hb : w'.heap[C]? = w.heap[C]?) : Five w' C f := by
  intro i hi
  refine ⟨?_, ?_⟩
  · rw [World.cell?_of_block (w := w) hb]; exact (h i hi).1
  · rw [World.frozen?_of_block (w := w) hb]; exact (h i hi).2
theorem five_of {w : World} {C : Nat} {a0 a1 a2 a3 a4 : Int} {T : TypeId} (hg : w.heap[C]? = some (.cells #[.int .u64 a0, .int .u64 a1, .int .u64 a2, .int .u64 a3, .int .u64 a4] T (0, 0))) : Five w C (fun i => match i with | 0 => a0 | 1 => a1 | 2 => a2 | 3 => a3 | _ => a4) := by
  intro i hi
  refine ⟨?_, frozen_of_row _ _ _ _ _ hg⟩
  rw [cell_of_row _ _ _ _ _ _ hg]
  match i, hi with
  | 0, _ => rfl
  | 1, _ => rfl
  | 2, _ => rfl
  | 3, _ => rfl
  | 4, _ => rfl
theorem At.same {w w' : World} {B : Nat} {W : Win} (h : At w B W) (hb : w'.heap[B]? = w.heap[B]?) : At w' B W := by
  intro i hi
  refine ⟨?_, ?_⟩
  · rw [World.cell?_of_block (w := w) hb]; exact (h i hi).1
  · rw [World.frozen?_of_block (w := w) hb]; exact (h i hi).2
theorem Only.far {B C : Nat} {w w' : World} (h : Only B w w') (hC : w.heap.size ≤ C) (i : Nat) (v : Value) : Only B w (w'.setCell ⟨C, i, none⟩ v) :=
  ⟨h.os, h.tape, h.output, by simpa [World.setCell] using h.size, fun k hk hb => (Below.heap_setCell _ _ _ _ (show k ≠ C by omega)).trans (h.block k hk hb)⟩
/-- Where the loop over the buckets stands: behind k of them. -/
def Inv (w : World) (B C : Nat) (V : Win) (b : Int) (k : Nat) (wr : World) : Prop := At wr B V ∧ Five wr C (fun q => V.sumTo b q k) ∧ Five wr w.heap.size (fun _ => 0) ∧ Only B w wr ∧ C < wr.heap.size
theorem Inv.alloc {w wr : World} {B C : Nat} {V : Win} {b : Int} {k : Nat} (h : Inv w B C V b k wr) (hB : B < w.heap.size) (hC : w.heap.size < C) (o : Obj) : Inv w B C V b k (wr.alloc o) := by
  obtain ⟨h1, h2, h3, h4, h5⟩ := h
  have hs := h4.size
  exact ⟨h1.same (Below.heap_alloc _ _ _ (by omega)), h2.same (Below.heap_alloc _ _ _ h5), h3.same (Below.heap_alloc _ _ _ (by omega)), h4.alloc o, by simp; omega⟩
theorem Inv.drewN {w wr : World} {B C : Nat} {V : Win} {b : Int} {k : Nat} (h : Inv w B C V b k wr) (n : Nat) : Inv w B C V b k (wr.drewN n) := ⟨h.1, h.2.1, h.2.2.1, h.2.2.2.1.drewN n, h.2.2.2.2⟩
theorem Inv.skip {w wr : World} {B C : Nat} {V : Win} {b : Int} {k : Nat} (h : Inv w B C V b k wr) (hs : V.n ≤ IntKind.u64.wrap (b - V.a k)) : Inv w B C V b (k + 1) wr := by
  refine ⟨h.1, ?_, h.2.2⟩
  intro i hi
  have e : V.sumTo b i (k + 1) = V.sumTo b i k := by rw [sumTo_succ]; unfold Win.part; rw [if_pos hs]
  show wr.cell? ⟨C, i, none⟩ = some (.int .u64 (V.sumTo b i (k + 1))) ∧ _
  rw [e]
  exact h.2.1 i hi
theorem Five.set {w : World} {C : Nat} {f : Nat → Int} (h : Five w C f) (j : Nat) (v : Int) : Five (w.setCell ⟨C, j, none⟩ (.int .u64 v)) C (upd f j v) := by
  intro i hi
  refine ⟨?_, by rw [World.frozen?_setCell]; exact (h i hi).2⟩
  by_cases hij : i = j
  · subst hij
    rw [upd_same]
    exact World.cell?_setCell_same _ _ _ (h i hi).1
  · rw [upd_ne _ _ hij, World.cell?_setCell_other _ _ _ _ (fun e => hij (by injection e with _ e _; exact e.symm))]
    exact (h i hi).1
theorem Inv.count {w wr : World} {B C : Nat} {V : Win} {b : Int} {k : Nat} (h : Inv w B C V b k wr) (hBC : B ≠ C) (hC : w.heap.size < C) (hs : ¬ V.n ≤ IntKind.u64.wrap (b - V.a k)) :
    Inv w B C V b (k + 1) (((((wr.setCell ⟨C, 0, none⟩ (.int .u64 (Sat.add (V.sumTo b 0 k) (V.c k 0)))).setCell ⟨C, 1, none⟩ (.int .u64 (Sat.add (V.sumTo b 1 k) (V.c k 1)))).setCell ⟨C, 2, none⟩ (.int .u64 (Sat.add (V.sumTo b 2 k) (V.c k 2)))).setCell ⟨C, 3, none⟩ (.int .u64 (Sat.add (V.sumTo b 3 k) (V.c k 3)))).setCell ⟨C, 4, none⟩ (.int .u64 (Sat.add (V.sumTo b 4 k) (V.c k 4)))) := by
  obtain ⟨h1, h2, h3, h4, h5⟩ := h
  have far : ∀ (u : World) (i : Nat) (v : Value) (K : Nat), K ≠ C → (u.setCell ⟨C, i, none⟩ v).heap[K]? = u.heap[K]? := fun u i v K hK => Below.heap_setCell _ _ _ _ hK
  have hsz : ∀ (u : World) (i : Nat) (v : Value), (u.setCell ⟨C, i, none⟩ v).heap.size = u.heap.size := fun u i v => by simp [World.setCell]
  refine ⟨?_, ?_, ?_, ?_, by rw [hsz, hsz, hsz, hsz, hsz]; exact h5⟩
  · exact h1.same (by rw [far _ _ _ _ hBC, far _ _ _ _ hBC, far _ _ _ _ hBC, far _ _ _ _ hBC, far _ _ _ _ hBC])
  · have := ((((h2.set 0 (Sat.add (V.sumTo b 0 k) (V.c k 0))).set 1 (Sat.add (V.sumTo b 1 k) (V.c k 1))).set 2 (Sat.add (V.sumTo b 2 k) (V.c k 2))).set 3 (Sat.add (V.sumTo b 3 k) (V.c k 3))).set 4 (Sat.add (V.sumTo b 4 k) (V.c k 4))
    intro i hi
    refine ⟨?_, (this i hi).2⟩
    have e : V.sumTo b i (k + 1) = Sat.add (V.sumTo b i k) (V.c k i) := by rw [sumTo_succ]; unfold Win.part; rw [if_neg hs]
    rw [(this i hi).1]
    show _ = some (Value.int .u64 (V.sumTo b i (k + 1)))
    rw [e]
    match i, hi with
    | 0, _ => rfl
    | 1, _ => rfl
    | 2, _ => rfl
    | 3, _ => rfl
    | 4, _ => rfl
  · have hne : w.heap.size ≠ C := by omega
    exact h3.same (by rw [far _ _ _ _ hne, far _ _ _ _ hne, far _ _ _ _ hne, far _ _ _ _ hne, far _ _ _ _ hne])
  · exact ((((h4.far (by omega) _ _).far (by omega) _ _).far (by omega) _ _).far (by omega) _ _).far (by omega) _ _
set_option maxHeartbeats 4000000 in
theorem counts_calls (B : Nat) (W : Win) (t : Int) (w : World) (h : At w B W) (hB : B < w.heap.size) (ok : Ok W) (t0 : 0 ≤ t) (t1 : t ≤ 18446744073709551615) :
    Calls Try.prog 24 #[.pointer (some ⟨B, 0, none⟩), .int .u64 t] w fun e w' => e = .returned (.agg #[.int .u64 (W.told t 0), .int .u64 (W.told t 1), .int .u64 (W.told t 2), .int .u64 (W.told t 3), .int .u64 (W.told t 4)]) ∧ At w' B (W.tick t) ∧ Only B w w' := by
  have Hat := hid fun w' (hw : At w' B W) => at_calls B W t w' hw ok t0 t1
  have H := hid h
  have HB := hid hB
  have okt := hid (ok.tick t0 t1)
  have s1 := (ok.slot t).1
  have s2 := hid (ok.slot t)
  have e1 : (W.tick t).a (W.slot t) = W.bkt t := by simp only [Win.tick]; exact upd_same _ _ _
  have E1 := hid e1
  have b0 := (ok.bkt t0 t1).1
  have b1 := (ok.bkt t0 t1).2
  have n1 : 1 ≤ (W.tick t).n := ok.n1
  have n8 : (W.tick t).n ≤ 8 := ok.n8
  have n0 : 0 ≤ (W.tick t).n := by omega
  clear h hB e1 ok
  go_enter Try.func24, Try.ntmps24
  go_wp2_with fail
  refine (Hat.out _ ?_).mono ?_
  · exact H.out.same ((Below.heap_alloc _ _ _ (by simp; have := HB.out; omega)).trans (Below.heap_alloc _ _ _ HB.out))
  rintro e w1 ⟨rfl, hat, ho⟩
  have hB := HB.out
  have hR := five_of ((ho.block w.heap.size (by simp; omega) (by omega)).trans (heap_alloc2_old _ _ _))
  have hC := five_of ((ho.block (w.heap.size + 1) (by simp) (by omega)).trans (heap_alloc2_new _ _ _))
  have hz : w.heap.size + 2 ≤ w1.heap.size := by have := ho.size; simpa using this
  have ho2 : Only B w w1 := (((Only.refl B w).alloc _).alloc _).trans ho
  have ca := (hat (W.slot t * 6) (by omega)).1
  rw [cell_a _ _ _ (by omega) s1, E1.out] at ca
  have cn := (hat 48 (by omega)).1
  obtain ⟨N, hN⟩ := Int.eq_ofNat_of_zero_le n0
  rw [show (48 : Nat) = 8 * 6 from rfl, cell_n, hN] at cn
  have HN := hid hN
  have N8 : N ≤ 8 := by omega
  have N8i : (N : Int) ≤ 8 := by omega
  have N0i : 0 ≤ (N : Int) := by omega
  have hI : Inv w B (w.heap.size + 1) (W.tick t) (W.bkt t) 0 w1 := ⟨hat, fun i hi => by
    have := hC i hi
    match i, hi with
    | 0, _ => exact this
    | 1, _ => exact this
    | 2, _ => exact this
    | 3, _ => exact this
    | 4, _ => exact this, fun i hi => by
    have := hR i hi
    match i, hi with
    | 0, _ => exact this
    | 1, _ => exact this
    | 2, _ => exact this
    | 3, _ => exact this
    | 4, _ => exact this, ho2, by omega⟩
  have HI := hid hI
  clear hat ho hR hC hN n0 n1 n8 hI
  go_wp2_with fail
  go_quiet (fail)
  go_wp2_with fail
  go_loopw [29] (fun i wr => ∃ k : Nat, k ≤ N ∧ i = .int .i64 k ∧ Inv w B (w.heap.size + 1) (W.tick t) (W.bkt t) k wr) (fun i _ => N - (intOf i).toNat)
  case atStart => exact ⟨0, Nat.zero_le _, rfl, HI.out.drewN _⟩
  case round =>
    obtain ⟨k, hk, rfl, hI⟩ := hrel
    by_cases hlt : k < N
    · have V0 := (hI.1 (k * 6) (by omega)).1
      have V1 := (hI.1 (k * 6 + 1) (by omega)).1
      have V2 := (hI.1 (k * 6 + 2) (by omega)).1
      have V3 := (hI.1 (k * 6 + 3) (by omega)).1
      have V4 := (hI.1 (k * 6 + 4) (by omega)).1
      have V5 := (hI.1 (k * 6 + 5) (by omega)).1
      rw [cell_a _ _ _ (by omega) (by omega)] at V0
      rw [cell_c (W.tick t) 6 k 0 (by omega) (by omega)] at V1
      rw [cell_c (W.tick t) 6 k 1 (by omega) (by omega)] at V2
      rw [cell_c (W.tick t) 6 k 2 (by omega) (by omega)] at V3
      rw [cell_c (W.tick t) 6 k 3 (by omega) (by omega)] at V4
      rw [cell_c (W.tick t) 6 k 4 (by omega) (by omega)] at V5
      have cn' := (hI.1 48 (by omega)).1
      rw [show (48 : Nat) = 8 * 6 from rfl, cell_n, HN.out] at cn'
      have hs1 := hI.2.2.2.1.size
      have hs2 := hI.2.2.2.2
      have HI := hid hI
      have hBlt : B < wr.heap.size := by have := HB.out; omega
      have hClt : w.heap.size + 1 < wr.heap.size := hs2
      clear hs1 hs2
      by_cases hsk : (N : Int) ≤ IntKind.u64.wrap ((W.bkt t) - (W.tick t).a k)
      · go_wp2_with fail
        go_quiet (fail)
        go_wp2_with fail
        go_roundw
        case rel => exact ⟨k + 1, by omega, by go_num, ((HI.out.alloc HB.out (by omega) _).drewN _).skip (by rw [HN.out]; exact hsk)⟩
        case measure => simp [intOf]; omega
      · have i0 : ∀ w, (Instr.index 23 (.agg #[.int .u64 ((W.tick t).c k 0), .int .u64 ((W.tick t).c k 1), .int .u64 ((W.tick t).c k 2), .int .u64 ((W.tick t).c k 3), .int .u64 ((W.tick t).c k 4)]) (.int .i64 0)).run Try.prog w = .ok (.int .u64 ((W.tick t).c k 0)) w := fun _ => by kernel_rfl
        have i1 : ∀ w, (Instr.index 23 (.agg #[.int .u64 ((W.tick t).c k 0), .int .u64 ((W.tick t).c k 1), .int .u64 ((W.tick t).c k 2), .int .u64 ((W.tick t).c k 3), .int .u64 ((W.tick t).c k 4)]) (.int .i64 1)).run Try.prog w = .ok (.int .u64 ((W.tick t).c k 1)) w := fun _ => by kernel_rfl
        have i2 : ∀ w, (Instr.index 23 (.agg #[.int .u64 ((W.tick t).c k 0), .int .u64 ((W.tick t).c k 1), .int .u64 ((W.tick t).c k 2), .int .u64 ((W.tick t).c k 3), .int .u64 ((W.tick t).c k 4)]) (.int .i64 2)).run Try.prog w = .ok (.int .u64 ((W.tick t).c k 2)) w := fun _ => by kernel_rfl
        have i3 : ∀ w, (Instr.index 23 (.agg #[.int .u64 ((W.tick t).c k 0), .int .u64 ((W.tick t).c k 1), .int .u64 ((W.tick t).c k 2), .int .u64 ((W.tick t).c k 3), .int .u64 ((W.tick t).c k 4)]) (.int .i64 3)).run Try.prog w = .ok (.int .u64 ((W.tick t).c k 3)) w := fun _ => by kernel_rfl
        have i4 : ∀ w, (Instr.index 23 (.agg #[.int .u64 ((W.tick t).c k 0), .int .u64 ((W.tick t).c k 1), .int .u64 ((W.tick t).c k 2), .int .u64 ((W.tick t).c k 3), .int .u64 ((W.tick t).c k 4)]) (.int .i64 4)).run Try.prog w = .ok (.int .u64 ((W.tick t).c k 4)) w := fun _ => by kernel_rfl
        have F0 := HI.out.2.1 0 (by omega)
        have F1 := HI.out.2.1 1 (by omega)
        have F2 := HI.out.2.1 2 (by omega)
        have F3 := HI.out.2.1 3 (by omega)
        have F4 := HI.out.2.1 4 (by omega)
        have Hadd := hid fun q w => C01.add_calls ((W.tick t).sumTo (W.bkt t) q k) ((W.tick t).c k q) (sumTo_in okt.out (W.bkt t) q k).1 (by have := (sumTo_in okt.out (W.bkt t) q k).2; omega) (okt.out.c0 k q).1 (by have := (okt.out.c0 k q).2; omega) w
        go_wp2_with fail
        go_quiet (fail)
        go_wp2_with fail
        refine wp_loop_rounds 6 ?_
        rw [rounds_succ]
        go_wp2_with fail
        refine (Hadd.out 0 _).mono ?_
        rintro e w' ⟨rfl, rfl⟩
        go_wp2_with fail
        rw [rounds_succ]
        go_wp2_with fail
        refine (Hadd.out 1 _).mono ?_
        rintro e w' ⟨rfl, rfl⟩
        go_wp2_with fail
        rw [rounds_succ]
        go_wp2_with fail
        refine (Hadd.out 2 _).mono ?_
        rintro e w' ⟨rfl, rfl⟩
        go_wp2_with fail
        rw [rounds_succ]
        go_wp2_with fail
        refine (Hadd.out 3 _).mono ?_
        rintro e w' ⟨rfl, rfl⟩
        go_wp2_with fail
        rw [rounds_succ]
        go_wp2_with fail
        refine (Hadd.out 4 _).mono ?_
        rintro e w' ⟨rfl, rfl⟩
        go_wp2_with fail
        rw [rounds_succ]
        go_wp2_with fail
        go_roundw
        case rel => exact ⟨k + 1, by omega, by go_num, ((HI.out.alloc HB.out (by omega) _).drewN _).count (by have := HB.out; omega) (by omega) (by rw [HN.out]; omega)⟩
        case measure => simp [intOf]; omega
    · obtain rfl : k = N := by omega
      have F0 := hI.2.1 0 (by omega)
      have F1 := hI.2.1 1 (by omega)
      have F2 := hI.2.1 2 (by omega)
      have F3 := hI.2.1 3 (by omega)
      have F4 := hI.2.1 4 (by omega)
      have R0 := hI.2.2.1 0 (by omega)
      have R1 := hI.2.2.1 1 (by omega)
      have R2 := hI.2.2.1 2 (by omega)
      have R3 := hI.2.2.1 3 (by omega)
      have R4 := hI.2.2.1 4 (by omega)
      have HI := hid hI
      have T := hid fun q => show (W.tick t).sumTo (W.bkt t) q k = W.told t q from by
        unfold Win.told
        have e : W.n = (k : Int) := HN.out
        rw [e]; rfl
      go_wp2_with fail
      rw [T.out, T.out, T.out, T.out, T.out]
      refine bodyPost_ret (v := .agg #[.int .u64 (W.told t 0), .int .u64 (W.told t 1), .int .u64 (W.told t 2), .int .u64 (W.told t 3), .int .u64 (W.told t 4)]) (by simp [results, Try.results24, go_sem, R0, R1, R2, R3, R4]) rfl ⟨rfl, ?_, ?_⟩
      · have hne : B ≠ w.heap.size := by have := HB.out; omega
        have far : ∀ (u : World) (i : Nat) (v : Value), (u.setCell ⟨w.heap.size, i, none⟩ v).heap[B]? = u.heap[B]? := fun u i v => Below.heap_setCell _ _ _ _ hne
        exact HI.out.1.same (by rw [far, far, far, far, far])
      · exact ((((HI.out.2.2.2.1.far (Nat.le_refl _) _ _).far (Nat.le_refl _) _ _).far (Nat.le_refl _) _ _).far (Nat.le_refl _) _ _).far (Nat.le_refl _) _ _
end Go.Proofs.Ytiplgihdgckbaaa.C06
