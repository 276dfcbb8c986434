/- What All of the package hist tells: of each bin the sum over the buckets. -/
import Derived.Test.YtmemafhdondfhaaC07A
namespace Go.Proofs.Ytmemafhdondfhaa.C06
open Go.RowKit Go.Proofs.Ytmemafhdondfhaa Go.Proofs.Ytmemafhdondfhaa.Win
set_option linter.unusedVariables false
set_option linter.unusedSimpArgs false
set_option linter.unnecessarySimpa false
attribute [local go_sem] C01.max2_mx C01.min2_mn C01.max_two C01.min_two
/-- Sixty-five numbers in a block. -/
def Bins (w : World) (C : Nat) (f : Nat → Int) : Prop := ∀ i, i < 65 → w.cell? ⟨C, i, none⟩ = some (.int .u64 (f i)) ∧ w.frozen? ⟨C, i, none⟩ = false
theorem Bins.same {w w' : World} {C : Nat} {f : Nat → Int} (h : Bins w C f) (hb : w'.heap[C]? = w.heap[C]?) : Bins w' C f := by
  intro i hi
  refine ⟨?_, ?_⟩
  · rw [World.cell?_of_block (w := w) hb]; exact (h i hi).1
  · rw [World.frozen?_of_block (w := w) hb]; exact (h i hi).2
/-- The sixty-five numbers as cells. -/
def bl (f : Nat → Int) : List Value := (List.range 65).map fun i => Value.int .u64 (f i)
theorem bl_len (f : Nat → Int) : (bl f).length = 65 := by unfold bl; rw [List.length_map, List.length_range]
theorem bl_get (f : Nat → Int) (i : Nat) (hi : i < 65) : (bl f)[i]? = some (.int .u64 (f i)) := by
  unfold bl
  rw [List.getElem?_map, List.getElem?_range hi]
  rfl
theorem bl_congr {f g : Nat → Int} (h : ∀ i, i < 65 → f i = g i) : bl f = bl g := by
  unfold bl
  apply List.map_congr_left
  intro i hi
  rw [h i (List.mem_range.1 hi)]
theorem bl_one (f : Nat → Int) : ∀ v ∈ bl f, v.oneCell' = true := by
  intro v hv
  obtain ⟨i, _, rfl⟩ := List.mem_map.1 hv
  rfl
theorem Bins.range {w : World} {C : Nat} {f : Nat → Int} (h : Bins w C f) : w.rangeAt C 0 (bl f) := by
  intro j v hj
  have hl := (List.getElem?_eq_some_iff.1 hj).1
  rw [bl_len] at hl
  rw [bl_get f j hl] at hj
  injection hj with hj
  rw [Nat.zero_add, (h j hl).1, hj]
theorem bins_of {w : World} {C : Nat} {f : Nat → Int} {T : TypeId} (hg : w.heap[C]? = some (.cells (bl f).toArray T (0, 0))) : Bins w C f := by
  intro i hi
  refine ⟨?_, frozen_of_row _ _ _ _ _ hg⟩
  rw [cell_of_row _ _ _ _ _ _ hg, List.getElem?_toArray]
  exact bl_get f i hi
theorem Bins.load {w : World} {C : Nat} {f : Nat → Int} (h : Bins w C f) (P : Program) : (loadCells ⟨C, 0, none⟩ 65).run P w = .ok (bl f).toArray w := by
  have := run_loadCells_list (P := P) w ⟨C, 0, none⟩ (bl f) (fun j v hv => by rw [Addr.add_mid]; exact h.range j v hv)
  rw [bl_len] at this
  exact this
theorem Bins.store {w : World} {C : Nat} {f : Nat → Int} (h : Bins w C f) (P : Program) (g : Nat → Int) : (storeCells ⟨C, 0, none⟩ (bl g)).run P w = .ok () (w.setCells C 0 (bl g)) :=
  run_storeCells_cells (P := P) C 0 (bl g) 0 w (fun i hi => by rw [bl_len] at hi; rw [Nat.add_zero, Nat.zero_add, (h i hi).1]; rfl) (fun i hi => by rw [bl_len] at hi; rw [Nat.add_zero, Nat.zero_add]; exact (h i hi).2) (bl_one g)
theorem Bins.sets {w : World} {C : Nat} {f : Nat → Int} (h : Bins w C f) (g : Nat → Int) : Bins (w.setCells C 0 (bl g)) C g := by
  intro i hi
  refine ⟨?_, by rw [World.frozen?_setCells]; exact (h i hi).2⟩
  have := World.cell?_setCells_in C (bl g) 0 w (fun j hj => by rw [bl_len] at hj; rw [Nat.zero_add, (h j hj).1]; rfl) i (by rw [bl_len]; exact hi)
  rw [Nat.zero_add] at this
  rw [this]
  have h2 := bl_get g i hi
  rw [List.getElem?_eq_getElem (by rw [bl_len]; exact hi)] at h2
  exact h2
theorem heap_setCells (C : Nat) (K : Nat) (hK : K ≠ C) : ∀ (vs : List Value) (o : Nat) (w : World), (w.setCells C o vs).heap[K]? = w.heap[K]? := by
  intro vs
  induction vs with
  | nil => intro o w; rfl
  | cons v vs ih => intro o w; exact (ih (o + 1) _).trans (Below.heap_setCell _ _ _ _ hK)
theorem At.same {w w' : World} {B : Nat} {W : Win} (h : At w B W) (hb : w'.heap[B]? = w.heap[B]?) : At w' B W := by
  intro i hi
  refine ⟨?_, ?_⟩
  · rw [World.cell?_of_block (w := w) hb]; exact (h i hi).1
  · rw [World.frozen?_of_block (w := w) hb]; exact (h i hi).2
theorem Only.far {B C : Nat} {w w' : World} (h : Only B w w') (hC : w.heap.size ≤ C) (i : Nat) (v : Value) : Only B w (w'.setCell ⟨C, i, none⟩ v) :=
  ⟨h.os, h.tape, h.output, by simpa [World.setCell] using h.size, fun k hk hb => (Below.heap_setCell _ _ _ _ (show k ≠ C by omega)).trans (h.block k hk hb)⟩
theorem Only.farSets {B C : Nat} {w w' : World} (h : Only B w w') (hC : w.heap.size ≤ C) : ∀ (vs : List Value) (o : Nat), Only B w (w'.setCells C o vs) := by
  intro vs
  induction vs generalizing w' with
  | nil => intro o; exact h
  | cons v vs ih => intro o; exact ih (h.far hC o v) (o + 1)
/-- Where the loop over the buckets stands: behind k of them. -/
def Inv (w : World) (B C : Nat) (V : Win) (b : Int) (k : Nat) (wr : World) : Prop := At wr B V ∧ Bins wr C (fun q => V.sumTo b q k) ∧ Bins wr w.heap.size (fun _ => 0) ∧ Only B w wr ∧ C < wr.heap.size
theorem Inv.alloc {w wr : World} {B C : Nat} {V : Win} {b : Int} {k : Nat} (h : Inv w B C V b k wr) (hB : B < w.heap.size) (hC : w.heap.size < C) (o : Obj) : Inv w B C V b k (wr.alloc o) := by
  obtain ⟨h1, h2, h3, h4, h5⟩ := h
  have hs := h4.size
  exact ⟨h1.same (Below.heap_alloc _ _ _ (by omega)), h2.same (Below.heap_alloc _ _ _ h5), h3.same (Below.heap_alloc _ _ _ (by omega)), h4.alloc o, by simp; omega⟩
theorem Inv.drewN {w wr : World} {B C : Nat} {V : Win} {b : Int} {k : Nat} (h : Inv w B C V b k wr) (n : Nat) : Inv w B C V b k (wr.drewN n) := ⟨h.1, h.2.1, h.2.2.1, h.2.2.2.1.drewN n, h.2.2.2.2⟩
theorem Inv.skip {w wr : World} {B C : Nat} {V : Win} {b : Int} {k : Nat} (h : Inv w B C V b k wr) (hs : V.n ≤ IntKind.u64.wrap (b - V.a k)) : Inv w B C V b (k + 1) wr := by
  refine ⟨h.1, ?_, h.2.2⟩
  intro i hi
  have e : V.sumTo b i (k + 1) = V.sumTo b i k := by rw [sumTo_succ]; unfold Win.part; rw [if_pos hs]
  show wr.cell? ⟨C, i, none⟩ = some (.int .u64 (V.sumTo b i (k + 1))) ∧ _
  rw [e]
  exact h.2.1 i hi
theorem Bins.set {w : World} {C : Nat} {f : Nat → Int} (h : Bins w C f) (j : Nat) (v : Int) : Bins (w.setCell ⟨C, j, none⟩ (.int .u64 v)) C (upd f j v) := by
  intro i hi
  refine ⟨?_, by rw [World.frozen?_setCell]; exact (h i hi).2⟩
  by_cases hij : i = j
  · subst hij
    rw [upd_same]
    exact World.cell?_setCell_same _ _ _ (h i hi).1
  · rw [upd_ne _ _ hij, World.cell?_setCell_other _ _ _ _ (fun e => hij (by injection e with _ e _; exact e.symm))]
    exact (h i hi).1
/-- Where the loop over the bins of bucket k stands: behind j of them. -/
def Mid (w : World) (B C : Nat) (V : Win) (b : Int) (k j : Nat) (wr : World) : Prop := At wr B V ∧ Bins wr C (fun q => if q < j then V.sumTo b q (k + 1) else V.sumTo b q k) ∧ Bins wr w.heap.size (fun _ => 0) ∧ Only B w wr ∧ C < wr.heap.size
theorem Mid.start {w wr : World} {B C : Nat} {V : Win} {b : Int} {k : Nat} (h : Inv w B C V b k wr) : Mid w B C V b k 0 wr := ⟨h.1, fun i hi => by simpa using h.2.1 i hi, h.2.2⟩
theorem Mid.done {w wr : World} {B C : Nat} {V : Win} {b : Int} {k : Nat} (h : Mid w B C V b k 65 wr) : Inv w B C V b (k + 1) wr := ⟨h.1, fun i hi => by have := h.2.1 i hi; simp only [if_pos hi] at this; exact this, h.2.2⟩
theorem Mid.next {w wr : World} {B C : Nat} {V : Win} {b : Int} {k j : Nat} (h : Mid w B C V b k j wr) (hj : j < 65) (hBC : B ≠ C) (hC : w.heap.size < C) (hs : ¬ V.n ≤ IntKind.u64.wrap (b - V.a k)) (n : Nat) :
    Mid w B C V b k (j + 1) ((wr.setCell ⟨C, j, none⟩ (.int .u64 (Sat.add (V.sumTo b j k) (V.c k j)))).drewN n) := by
  obtain ⟨h1, h2, h3, h4, h5⟩ := h
  refine ⟨?_, ?_, ?_, ?_, by simpa [World.setCell, World.drewN] using h5⟩
  · exact (h1.same (Below.heap_setCell _ _ _ _ hBC) : At (wr.setCell ⟨C, j, none⟩ _) B V)
  · have := h2.set j (Sat.add (V.sumTo b j k) (V.c k j))
    intro i hi
    refine ⟨?_, (this i hi).2⟩
    have e : V.sumTo b i (k + 1) = Sat.add (V.sumTo b i k) (V.c k i) := by rw [sumTo_succ]; unfold Win.part; rw [if_neg hs]
    have h6 := (this i hi).1
    show (wr.setCell ⟨C, j, none⟩ _).cell? _ = _
    rw [h6]
    unfold upd
    dsimp only
    by_cases hij : i = j
    · subst hij; rw [if_pos rfl, if_pos (by omega), e]
    · rw [if_neg hij]
      by_cases hlt : i < j
      · rw [if_pos hlt, if_pos (by omega)]
      · rw [if_neg hlt, if_neg (by omega)]
  · exact (h3.same (Below.heap_setCell _ _ _ _ (show w.heap.size ≠ C by omega)) : Bins (wr.setCell ⟨C, j, none⟩ _) w.heap.size _)
  · exact (h4.far (by omega) _ _).drewN n
/-- The sums that are told, as a function of the bin. -/
theorem zero42 (w : World) : (zeroValue 42).run Try.prog w = .ok (.agg (bl fun _ => 0).toArray) w := by kernel_rfl
theorem res42 {wr : World} {R : Nat} {f : Nat → Int} (h : Bins wr R f) : (loadVar 42 ⟨R, 0, none⟩).run Try.prog wr = .ok (.agg (bl f).toArray) wr :=
  run_loadVar_mid wr R 0 42 (bl f) _ h.range Try.underlying42 rfl (by rw [bl_len]; kernel_rfl)
set_option maxHeartbeats 4000000 in
set_option maxRecDepth 100000 in
theorem all_calls (B : Nat) (W : Win) (t : Int) (w : World) (h : At w B W) (hB : B < w.heap.size) (ok : Ok W) (t0 : 0 ≤ t) (t1 : t ≤ 18446744073709551615) :
    Calls Try.prog 18 #[.pointer (some ⟨B, 0, none⟩), .int .u64 t] w fun e w' => e = .returned (.agg (bl fun k => W.told t k).toArray) ∧ At w' B (W.tick t) ∧ Only B w w' := by
  have Hat := hid fun w' (hw : At w' B W) => at_calls B W t w' hw ok t0 t1
  have H := hid h
  have HB := hid hB
  have okt := hid (ok.tick t0 t1)
  have s1 := (ok.slot t).1
  have e1 : (W.tick t).a (W.slot t) = W.bkt t := by simp only [Win.tick]; exact upd_same _ _ _
  have E1 := hid e1
  have b0 := (ok.bkt t0 t1).1
  have b1 := (ok.bkt t0 t1).2
  have n1 : 1 ≤ (W.tick t).n := ok.n1
  have n8 : (W.tick t).n ≤ 8 := ok.n8
  have n0 : 0 ≤ (W.tick t).n := by omega
  obtain ⟨ZA, hZA⟩ : ∃ Z : Array Value, Hid (Z = (bl fun _ => 0).toArray) := ⟨_, hid rfl⟩
  have hz : ∀ w, (zeroValue 42).run Try.prog w = .ok (.agg ZA) w := by rw [hZA.out]; exact zero42
  clear h hB e1 ok
  go_enter Try.func18, Try.ntmps18
  go_wp2_with fail
  refine (Hat.out _ ?_).mono ?_
  · exact H.out.same ((Below.heap_alloc _ _ _ (by simp; have := HB.out; omega)).trans (Below.heap_alloc _ _ _ HB.out))
  rintro e w1 ⟨rfl, hat, ho⟩
  have hB := HB.out
  have hR : Bins w1 w.heap.size (fun _ => 0) := bins_of (T := 42) ((ho.block w.heap.size (by simp; omega) (by omega)).trans (by rw [heap_alloc2_old, hZA.out]))
  have hC : Bins w1 (w.heap.size + 1) (fun _ => 0) := bins_of (T := 42) ((ho.block (w.heap.size + 1) (by simp) (by omega)).trans (by rw [heap_alloc2_new, hZA.out]))
  have hz2 : w.heap.size + 2 ≤ w1.heap.size := by have := ho.size; simpa using this
  have ho2 : Only B w w1 := (((Only.refl B w).alloc _).alloc _).trans ho
  have ca := (hat (W.slot t * 66) (by omega)).1
  rw [cell_a _ _ _ (by omega) s1, E1.out] at ca
  have cn := (hat 528 (by omega)).1
  obtain ⟨N, hN⟩ := Int.eq_ofNat_of_zero_le n0
  rw [show (528 : Nat) = 8 * 66 from rfl, cell_n, hN] at cn
  have HN := hid hN
  have N8 : N ≤ 8 := by omega
  have N8i : (N : Int) ≤ 8 := by omega
  have N0i : 0 ≤ (N : Int) := by omega
  have HI : Hid (Inv w B (w.heap.size + 1) (W.tick t) (W.bkt t) 0 w1) := hid ⟨hat, hC, hR, ho2, by omega⟩
  clear hat ho hR hC hN n0 n1 n8 ho2 hz
  go_wp2_with fail
  go_quiet (fail)
  go_wp2_with fail
  go_loopw [28] (fun i wr => ∃ k : Nat, k ≤ N ∧ i = .int .i64 k ∧ Inv w B (w.heap.size + 1) (W.tick t) (W.bkt t) k wr) (fun i _ => N - (intOf i).toNat)
  case atStart => exact ⟨0, Nat.zero_le _, rfl, HI.out.drewN _⟩
  case round =>
    obtain ⟨k, hk, rfl, hI⟩ := hrel
    by_cases hlt : k < N
    · have V0 := (hI.1 (k * 66) (by omega)).1
      rw [cell_a _ _ _ (by omega) (by omega)] at V0
      have cn' := (hI.1 528 (by omega)).1
      rw [show (528 : Nat) = 8 * 66 from rfl, cell_n, HN.out] at cn'
      have hs2 := hI.2.2.2.2
      have HI := hid hI
      have hBlt : B < wr.heap.size := by have := HB.out; have := hI.2.2.2.1.size; omega
      have hClt : w.heap.size + 1 < wr.heap.size := hs2
      clear hs2 hI
      by_cases hsk : (N : Int) ≤ IntKind.u64.wrap ((W.bkt t) - (W.tick t).a k)
      · go_wp2_with fail
        go_quiet (fail)
        go_wp2_with fail
        go_roundw
        case rel => exact ⟨k + 1, by omega, by go_num, (HI.out.drewN _).skip (by rw [HN.out]; exact hsk)⟩
        case measure => simp [intOf]; omega
      · go_wp2_with fail
        go_quiet (fail)
        go_wp2_with fail
        go_loopw [47] (fun i wz => ∃ j : Nat, j ≤ 65 ∧ i = .int .i64 j ∧ Mid w B (w.heap.size + 1) (W.tick t) (W.bkt t) k j wz) (fun i _ => 65 - (intOf i).toNat)
        case atStart => exact ⟨0, Nat.zero_le _, rfl, Mid.start (HI.out.drewN _)⟩
        case round =>
          obtain ⟨j, hj, rfl, hM⟩ := hrel
          by_cases hlj : j < 65
          · have F := hM.2.1 j hlj
            dsimp only at F
            rw [if_neg (Nat.lt_irrefl _)] at F
            have F1 := F.1
            have F2 := F.2
            have V1 := (hM.1 (k * 66 + (j + 1)) (by omega)).1
            rw [cell_c (W.tick t) 66 k j (by omega) (by omega), show k * 66 + (j + 1) = k * 66 + 1 + j from by omega] at V1
            have HM := hid hM
            have Hadd := hid fun w => C01.add_calls ((W.tick t).sumTo (W.bkt t) j k) ((W.tick t).c k j) (sumTo_in okt.out (W.bkt t) j k).1 (by have := (sumTo_in okt.out (W.bkt t) j k).2; omega) (okt.out.c0 k j).1 (by have := (okt.out.c0 k j).2; omega) w
            have hj65 : (j : Int) < 65 := by omega
            clear F hM
            go_wp2_with fail
            go_region_with (go_at_call 25; refine (Hadd.out _).mono ?_; rintro e w' ⟨rfl, rfl⟩)
            go_wp2_with fail
            all_goals exact ⟨⟨j + 1, by omega, by go_num, HM.out.next hlj (by have := HB.out; omega) (by omega) (by rw [HN.out]; omega) 1⟩, by simp [intOf]; omega⟩
          · obtain rfl : j = 65 := by omega
            have HM := hid hM
            clear hM
            go_wp2_with fail
            go_roundw
            case rel => exact ⟨k + 1, by omega, by go_num, HM.out.done⟩
            case measure => simp [intOf]; omega
    · obtain rfl : k = N := by omega
      have HI := hid hI
      obtain ⟨LA, hLA⟩ : ∃ Z : Array Value, Hid (Z = (bl fun q => (W.tick t).sumTo (W.bkt t) q k).toArray) := ⟨_, hid rfl⟩
      have hi65 : (Try.prog.info? 42).map (·.size) = some LA.toList.length := by rw [hLA.out, bl_len]; kernel_rfl
      have hj65 : (Try.prog.info? 42).map (·.size) = some LA.size := by rw [hLA.out, List.size_toArray, bl_len]; kernel_rfl
      have hrg : Hid (wr.rangeAt (w.heap.size + 1) 0 LA.toList) := by show wr.rangeAt _ _ _; rw [hLA.out]; exact HI.out.2.1.range
      have hth : Hid (wr.there w.heap.size 0 LA.size) := by
        intro i hi
        rw [hLA.out, List.size_toArray, bl_len] at hi
        rw [Nat.zero_add]
        exact ⟨by rw [(HI.out.2.2.1 i hi).1]; rfl, (HI.out.2.2.1 i hi).2⟩
      have hon : Hid (LA.all (·.oneCell') = true) := by
        show _ = true
        rw [hLA.out]
        exact all_oneCell_toArray (bl_one _)
      clear hI
      go_wp2_with (first
        | refine wpList_load_mid rfl 42 _ rfl _ _ rfl LA.toList _ hrg.out Try.underlying42 rfl hi65 ?_
        | refine wpList_store_mid rfl 42 _ _ rfl _ _ LA rfl rfl hth.out hj65 hon.out ?_)
      have T := hid fun q => show (W.tick t).sumTo (W.bkt t) q k = W.told t q from by
        unfold Win.told
        have e : W.n = (k : Int) := HN.out
        rw [e]; rfl
      have hres : (loadCellsFrom ⟨w.heap.size, 0, none⟩ 0 65 #[]).run Try.prog _ = _ := (HI.out.2.2.1.sets (fun q => (W.tick t).sumTo (W.bkt t) q k)).load _
      have hbl : bl (fun q => (W.tick t).sumTo (W.bkt t) q k) = bl (fun q => W.told t q) := bl_congr fun i _ => T.out i
      rw [hLA.out]
      rw [hbl] at hres ⊢
      refine bodyPost_ret (v := .agg (bl fun q => W.told t q).toArray) (by simp only [results, Try.results18, go_sem]; simp; rw [hres]; rfl) rfl ⟨rfl, ?_, ?_⟩
      · exact HI.out.1.same (heap_setCells _ _ (by have := HB.out; omega) _ _ _)
      · exact HI.out.2.2.2.1.farSets (Nat.le_refl _) _ _
end Go.Proofs.Ytmemafhdondfhaa.C06
