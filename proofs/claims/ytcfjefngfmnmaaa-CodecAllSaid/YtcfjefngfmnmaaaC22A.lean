/- What Put of the package codec returns. -/
import Derived.Test.YtcfjefngfmnmaaaC22
import Derived.Test.YtcfjefngfmnmaaaReg2
import Derived.Laws.BytesArg
import Derived.Deep.WholeRow
namespace Go.Proofs.Ytcfjefngfmnmaaa.C22
open Go.RowKit Go.Proofs.Ytcfjefngfmnmaaa Go.Proofs.Ytcfjefngfmnmaaa.Cod
set_option linter.unusedVariables false
set_option linter.unusedSimpArgs false
set_option linter.unnecessarySimpa false
theorem below_grown {w0 w w' : World} {row : Option Nat} (hb : Below w0.heap.size w0 w) (hg : w.grownBy w' row) (hr : ∀ g, row = some g → w0.heap.size ≤ g) : Below w0.heap.size w0 w' :=
  ⟨hg.os.trans hb.os, hg.tape.trans hb.tape, hg.output.trans hb.output, Nat.le_trans hb.size hg.size, fun j hj => (hg.block j (Nat.lt_of_lt_of_le hj hb.size) (fun h => by have := hr j h.symm; omega)).trans (hb.block j hj)⟩
theorem owns_below {w w' : World} {base : Nat} {T : TypeId} {s : Nat} {v : Value} {n : Nat} {xs : List Value} (h : w.ownsRow base T s v n xs) (hb : Below w.heap.size w w') : w'.ownsRow base T s v n xs := by
  refine h.kept (row := none) ⟨hb.os, hb.tape, hb.output, hb.size, fun k hk _ => hb.block k hk⟩ ?_
  rcases hq : v.ownBlock with _ | g
  · exact .inl rfl
  · right; simp
theorem tail_succ (l : List Int) (k : Nat) (h : k < l.length) : tail (l.take (k + 1)) = tail (l.take k) ++ b4 (u64 (l.getD k 0)) := by
  unfold tail
  rw [List.take_succ_eq_append_getElem h, List.flatMap_append, List.getD_eq_getElem?_getD, List.getElem?_eq_getElem h]
  simp
theorem wrap_u64 (v : Int) : IntKind.u64.wrap v = ((u64 v : Nat) : Int) := by
  rw [Sat.wrap_u64]
  unfold u64
  omega
/-- Bytes as cells. -/
def cells (l : List Int) : List Value := l.map fun x => .int .u8 x
theorem cells_one (l : List Int) : ∀ u ∈ cells l, u.oneCell' = true := by
  intro u hu
  obtain ⟨x, _, rfl⟩ := List.mem_map.1 hu
  rfl
theorem cells_append (l m : List Int) : cells (l ++ m) = cells l ++ cells m := List.map_append
theorem range_below {w w' : World} {b o : Nat} {cs : List Value} (hb : Below w.heap.size w w') (h : w.rangeAt b o cs) : w'.rangeAt b o cs := fun j v hj => cell_of hb (h j v hj)
theorem range_alloc {w : World} {b o : Nat} {cs : List Value} {ob : Obj} (h : w.rangeAt b o cs) : (w.alloc ob).rangeAt b o cs := range_below (grow w ob) h
theorem range_grown {w w' : World} {b o : Nat} {cs : List Value} {row : Option Nat} (hg : w.grownBy w' row) (hne : some b ≠ row) (h : w.rangeAt b o cs) : w'.rangeAt b o cs := fun j v hj => by
  have hc := h j v hj
  have hlt := World.block_lt_of_cell? w _ hc
  rw [World.cell?_of_block (w := w) (hg.block b hlt hne)]
  exact hc
theorem range_new (w : World) (C : Array Value) (t : TypeId) : (w.alloc (.cells C t (0, 0))).rangeAt w.heap.size 0 C.toList := by
  intro j v hj
  have hh : (w.alloc (.cells C t (0, 0))).heap[w.heap.size]? = some (.cells C t (0, 0)) := heap_alloc_new _ _
  rw [Nat.zero_add, cell_of_row _ _ _ _ _ _ hh]
  simpa using hj
theorem two_cells (w : World) (a b : Value) : (w.alloc (.cells #[a, b] 5 (0, 0))).rangeAt w.heap.size 0 [a, b] := range_new w #[a, b] _
theorem infoB : ∃ i, Try.prog.info? 5 = some i ∧ i.zero = some (.int .u8 0) ∧ i.size = 1 ∧ i.bytes = 1 := by
  have h : (Try.prog.info? 5).map (fun i => (i.zero, i.size, i.bytes)) = some (some (.int .u8 0), 1, 1) := by kernel_rfl
  cases hq : Try.prog.info? 5 with
  | none => rw [hq] at h; exact absurd h (by simp)
  | some i => rw [hq] at h; simp at h; exact ⟨i, rfl, h.1, h.2.1, h.2.2⟩
theorem b8_cells (x : Nat) : C02.b8 x = (cells (b8 x)).toArray := rfl
set_option maxRecDepth 20000 in
set_option maxHeartbeats 8000000 in
theorem put_core (e : Ev) (A : Option Addr) (c : Nat) (w : World) (he : Hid e.Fits) (hr : RowI w A e.vals) (hm : May e) (hmay : may e = true) :
    Calls Try.prog 15 #[.agg (evF e A c)] w fun x w' => x = .returned (.string (strOfNums (put e))) ∧ Below w.heap.size w w' := by
  have Hr := hid hr
  obtain ⟨i0, i1, i2, i3, i4⟩ := infoB
  obtain ⟨_, hlen, ⟨k0, k1⟩, ⟨id0, id1⟩, ⟨d0, d1⟩, ⟨s0, s1⟩, ⟨a0, a1⟩, ⟨t0, t1⟩⟩ := hm
  have hli : (e.vals.length : Int) ≤ 8 := by omega
  have Hmay := hid fun w (hr : RowI w A e.vals) => may_calls e A c w he (by omega) hr
  rw [hmay] at Hmay
  have hn := he.out.n
  have hn0 : 0 ≤ (e.n : Int) := by omega
  have hn1 : (e.n : Int) ≤ 18446744073709551615 := by omega
  have Hbytes := hid fun x hx w => C02.bytes_calls x hx w
  have Hflag := hid fun w => flag_calls e.ok w
  have hput := hid (show put e = Cod.bytes e by unfold put; rw [if_pos hmay])
  clear hr hmay
  go_enter Try.func15, Try.ntmps15
  go_wp2_with fail
  refine (Hmay.out _ (Hr.out.below (grow _ _))).mono ?_
  rintro x w1 ⟨rfl, hb⟩
  have c0 : w1.cell? ⟨w.heap.size, 0, none⟩ = some (.int .i64 e.kind) := cell_of hb (by simp [go_sem])
  have c1 : w1.cell? ⟨w.heap.size, 1, none⟩ = some (.int .i64 e.id) := cell_of hb (by simp [go_sem])
  have c2 : w1.cell? ⟨w.heap.size, 2, none⟩ = some (.int .i64 e.dep) := cell_of hb (by simp [go_sem])
  have c3 : w1.cell? ⟨w.heap.size, 3, none⟩ = some (.int .i64 e.scope) := cell_of hb (by simp [go_sem])
  have c4 : w1.cell? ⟨w.heap.size, 4, none⟩ = some (.int .i64 e.arg) := cell_of hb (by simp [go_sem])
  have c5 : w1.cell? ⟨w.heap.size, 5, none⟩ = some (.int .i64 e.step) := cell_of hb (by simp [go_sem])
  have c6 : w1.cell? ⟨w.heap.size, 6, none⟩ = some (.int .u64 e.n) := cell_of hb (by simp [go_sem])
  have d7 : w1.cell? ⟨w.heap.size, 7, none⟩ = some (.bool e.ok) := cell_of hb (by simp [go_sem])
  have d8 : w1.cell? ⟨w.heap.size, 8, none⟩ = some (.slice A e.vals.length c) := cell_of hb (by simp [go_sem])
  have g6 := fun o => cell_of (grow w1 o) c6
  have Hb := hid (via (grow w _) hb)
  have H1 := hid (Hr.out.below (via (grow w _) hb))
  clear hb
  go_wp2_with fail
  refine (Hbytes.out e.n hn _).mono ?_
  rintro x w2 ⟨rfl, hb⟩
  have HB2 := hid (via (grow w1 _) hb)
  have O2 : Hid (w2.ownsRow w1.heap.size 5 1 (.slice (some ⟨w1.heap.size, 0, none⟩) 7 7) 7 (cells (head e))) := by
    refine hid (owns_below ⟨rfl, .inr ⟨w1.heap.size, 7, _, rfl, Nat.le_refl _, heap_alloc_new _ _, Nat.le_refl _, by unfold maxLen; omega, rfl, rfl⟩⟩ hb)
  have hlt2 : w1.heap.size < w2.heap.size := by have := hb.size; simp at this; omega
  rw [b8_cells]
  obtain ⟨BA, hBA⟩ : ∃ Z : Array Value, Hid (Z = (cells (b8 e.n)).toArray) := ⟨_, hid rfl⟩
  obtain ⟨ZA, hZA⟩ : ∃ Z : Array Value, Hid (Z = (cells [0, 0, 0, 0, 0, 0, 0, 0]).toArray) := ⟨_, hid rfl⟩
  have hz : ∀ w, (zeroValue 54).run Try.prog w = .ok (.agg ZA) w := by
    intro w
    rw [hZA.out]
    kernel_rfl
  have hst : ∀ w : World, Sem.run Try.prog (storeCells ⟨w.heap.size, 0, none⟩ BA.toList) (w.alloc (.cells ZA 54 (0, 0))) = .ok () (w.alloc (.cells BA 54 (0, 0))) := by
    intro w
    exact run_storeCells_new w _ ZA BA (by rw [hBA.out]; kernel_rfl) (by rw [hBA.out, hZA.out]; rfl) (by rw [hBA.out]; exact all_oneCell_toArray (cells_one _))
  have hBs : BA.size = 8 := by rw [hBA.out]; rfl
  rw [← hBA.out]
  clear hb
  go_wp2_with fail
  have HB3 := hid (HB2.out.alloc HB2.out.size (.cells BA 54 (0, 0)))
  obtain ⟨B4, hB4⟩ : ∃ B4, w2.heap.size = B4 := ⟨_, rfl⟩
  have T3 : Hid ((w2.alloc (.cells BA 54 (0, 0))).ownsRow w1.heap.size 5 1 (.slice (some ⟨w1.heap.size, 0, none⟩) 7 7) 7 (cells (head e)) ∧ (w2.alloc (.cells BA 54 (0, 0))).rangeAt B4 0 (cells (b8 e.n)) ∧ w1.heap.size < B4) := by
    refine hid ⟨O2.out.alloc _, ?_, by omega⟩
    rw [← hB4, hBA.out]
    exact range_new _ _ _
  simp only [hB4]
  generalize (w2.alloc (.cells BA 54 (0, 0))) = w3 at *
  clear hst hz hBs g6
  have wl : IntKind.u8.wrap (e.vals.length : Int) = (e.vals.length : Int) := by simp [IntKind.wrap, IntKind.bits, IntKind.signed]; omega
  refine Rg.start2 (S := fun w' => Hid (Below w1.heap.size w1 w')) (T := fun w' => Hid (w'.ownsRow w1.heap.size 5 1 (.slice (some ⟨w1.heap.size, 0, none⟩) 7 7) 7 (cells (head e)) ∧ w'.rangeAt B4 0 (cells (b8 e.n)) ∧ w1.heap.size < B4)) (by kernel_rfl) (fun _ _ _ _ _ h => h) (hid HB3.out.drew) (hid T3.out) ?_
  intro Q hp hn wz hH0 hT0
  refine Rg.tk (i := 0) rfl hp ?_
  refine ⟨?_, ?_, by kernel_rfl, by kernel_rfl, by kernel_rfl, Or.inl ⟨by rfl, ?_⟩, hH0, ?_, ?_⟩
  rotate_left 2
  · (intro w hSw; clear hSw; go_simp; try with_reducible rfl)
  · ((try simp only [Act.put, List.setIfInBounds_toArray, List.set_cons_zero, List.set_cons_succ]); exact rfl)
  refine Rg.tk (i := 1) rfl hp ?_
  refine ⟨?_, ?_, by kernel_rfl, by kernel_rfl, by kernel_rfl, Or.inl ⟨by rfl, ?_⟩, hH0, ?_, ?_⟩
  rotate_left 2
  · (intro w hSw; clear hSw; go_simp; try with_reducible rfl)
  · ((try simp only [Act.put, List.setIfInBounds_toArray, List.set_cons_zero, List.set_cons_succ]); exact rfl)
  refine Rg.tk (i := 3) rfl hp ?_
  refine ⟨?_, ?_, by kernel_rfl, by kernel_rfl, by kernel_rfl, Or.inl ⟨by rfl, ?_⟩, hH0, ?_, ?_⟩
  rotate_left 2
  · (intro w hSw; clear hSw; go_simp; try with_reducible rfl)
  · ((try simp only [Act.put, List.setIfInBounds_toArray, List.set_cons_zero, List.set_cons_succ]); exact rfl)
  refine Rg.tk (i := 4) rfl hp ?_
  refine ⟨?_, ?_, by kernel_rfl, by kernel_rfl, by kernel_rfl, Or.inl ⟨by rfl, ?_⟩, hH0, ?_, ?_⟩
  rotate_left 2
  · (intro w hSw; have hc := cell_of hSw.out d7; clear hSw; go_simp; try with_reducible rfl)
  · ((try simp only [Act.put, List.setIfInBounds_toArray, List.set_cons_zero, List.set_cons_succ]); exact rfl)
  refine Rg.tk (i := 6) rfl hp ?_
  refine ⟨?_, ?_, by kernel_rfl, by kernel_rfl, by kernel_rfl, Or.inl ⟨by rfl, ?_⟩, hH0, ?_, ?_⟩
  rotate_left 2
  · (intro w hSw; clear hSw; go_simp; try with_reducible rfl)
  · ((try simp only [Act.put, List.setIfInBounds_toArray, List.set_cons_zero, List.set_cons_succ]); exact rfl)
  refine Rg.tk (i := 7) rfl hp ?_
  refine ⟨?_, ?_, by kernel_rfl, by kernel_rfl, by kernel_rfl, Or.inl ⟨by rfl, ?_⟩, hH0, ?_, ?_⟩
  rotate_left 2
  · (intro w hSw; have hc := cell_of hSw.out d8; clear hSw; go_simp; try with_reducible rfl)
  · ((try simp only [Act.put, List.setIfInBounds_toArray, List.set_cons_zero, List.set_cons_succ]); exact rfl)
  refine Rg.tk (i := 8) rfl hp ?_
  refine ⟨?_, ?_, by kernel_rfl, by kernel_rfl, by kernel_rfl, Or.inl ⟨by rfl, ?_⟩, hH0, ?_, ?_⟩
  rotate_left 2
  · (intro w hSw; clear hSw; go_simp; try with_reducible rfl)
  · ((try simp only [Act.put, List.setIfInBounds_toArray, List.set_cons_zero, List.set_cons_succ]); exact rfl)
  refine Rg.tk (i := 9) rfl hp ?_
  refine ⟨?_, ?_, by kernel_rfl, by kernel_rfl, by kernel_rfl, Or.inl ⟨by rfl, ?_⟩, hH0, ?_, ?_⟩
  rotate_left 2
  · (intro w hSw; clear hSw; go_simp; try with_reducible rfl)
  · ((try simp only [Act.put, List.setIfInBounds_toArray, List.set_cons_zero, List.set_cons_succ]); exact rfl)
  refine Rg.one (i := 2) rfl ⟨by kernel_rfl, by rfl, fun K hK => ?_⟩
  have hO := hT0.out.1
  have hC := hT0.out.2.1
  refine wp_append_own _ _ _ 49 rfl w1.heap.size 5 i0 (.int .u8 0) 1 1 Try.underlying49 i1 i2 i3 i4 rfl (by decide) (.slice (some ⟨w1.heap.size, 0, none⟩) 7 7) 7 (cells (head e)) rfl hO ⟨B4, 0, none⟩ 8 8 (cells (b8 e.n)) rfl rfl (fun j u hj => by rw [Addr.add_mid]; exact hC j u hj) (cells_one _) ?_ ?_ ?_ ?_
  · unfold maxLen; omega
  · omega
  · have := hH0.out.size; omega
  intro v1 wn hown1 hgrow1 _
  have hbw := below_grown hH0.out hgrow1 (fun g hg => (hO.lt g hg).1)
  have hO1 := hid hown1
  refine hK.out _ _ ?_ (hid hbw) ?_ (fun hH1 => ?_)
  rotate_left
  · ((try simp only [Act.put, List.setIfInBounds_toArray, List.set_cons_zero, List.set_cons_succ]); exact rfl)
  clear hK K
  refine Rg.one (i := 5) rfl ⟨by kernel_rfl, by rfl, fun K hK => ?_⟩
  go_simp
  refine (Hflag.out _).mono ?_
  rintro x w' ⟨rfl, rfl⟩
  refine hK.out _ _ ?_ hH1 ?_ (fun hH2 => ?_)
  rotate_left
  · ((try simp only [Act.put, List.setIfInBounds_toArray, List.set_cons_zero, List.set_cons_succ]); exact rfl)
  clear hK K
  refine Rg.one (i := 10) rfl ⟨by kernel_rfl, by rfl, fun K hK => ?_⟩
  go_simp
  refine hK.out _ _ ?_ (hid (hH2.out.alloc hH2.out.size _)) ?_ (fun hH3 => ?_)
  rotate_left
  · ((try simp only [Act.put, List.setIfInBounds_toArray, List.set_cons_zero, List.set_cons_succ]); exact rfl)
  clear hK K
  refine Rg.one (i := 11) rfl ⟨by kernel_rfl, by rfl, fun K hK => ?_⟩
  have hO := hO1.out.alloc (.cells #[.int .u8 (flag e.ok), .int .u8 (e.vals.length : Int)] 5 (0, 0))
  have hC : _ := two_cells wn (.int .u8 (flag e.ok)) (.int .u8 (e.vals.length : Int))
  refine wp_append_own _ _ _ 49 rfl w1.heap.size 5 i0 (.int .u8 0) 1 1 Try.underlying49 i1 i2 i3 i4 rfl (by decide) (v1) 15 (cells (head e) ++ cells (b8 e.n)) rfl hO ⟨wn.heap.size, 0, none⟩ 2 2 ([.int .u8 (flag e.ok), .int .u8 (e.vals.length : Int)]) rfl rfl (fun j u hj => by rw [Addr.add_mid]; exact hC j u hj) (by intro u hu; simp at hu; rcases hu with rfl | rfl <;> rfl) ?_ ?_ ?_ ?_
  · unfold maxLen; omega
  · omega
  · have := hH3.out.size; omega
  intro v2 wf hown2 hgrow2 _
  have hbw2 := below_grown hH3.out hgrow2 (fun g hg => (hO.lt g hg).1)
  have OF := hid hown2
  refine hK.out _ _ ?_ (hid hbw2) ?_ (fun hHF => ?_)
  rotate_left
  · ((try simp only [Act.put, List.setIfInBounds_toArray, List.set_cons_zero, List.set_cons_succ]); exact rfl)
  clear hK K
  refine Rg.tk (i := 12) rfl hp ?_
  refine ⟨?_, ?_, by kernel_rfl, by kernel_rfl, by kernel_rfl, Or.inl ⟨by rfl, ?_⟩, hHF, ?_, ?_⟩
  rotate_left 2
  · (intro w hSw; clear hSw; go_simp; try with_reducible rfl)
  · ((try simp only [Act.put, List.setIfInBounds_toArray, List.set_cons_zero, List.set_cons_succ]); exact rfl)
  refine wpAnyH_done (by kernel_rfl) ?_ _
  refine hn.out _ _ ?_
  have HF := hHF
  have OG : Hid (wf.ownsRow w1.heap.size 5 1 v2 (17 + 4 * 0) (cells (head e ++ b8 e.n ++ [flag e.ok, (e.vals.length : Int)] ++ tail (e.vals.take 0)))) := by
    show World.ownsRow _ _ _ _ _ _ _
    have := OF.out
    rw [List.take_zero, show tail [] = [] from rfl, List.append_nil, cells_append, cells_append]
    exact this
  have e8 := cell_of HF.out d8
  have hpre : Hid (head e ++ b8 e.n ++ [flag e.ok, (e.vals.length : Int)] ++ tail e.vals = put e) := by
    show _ = _
    rw [hput.out]
    rfl
  clear hH0 hT0 hO hC hown1 hgrow1 hO1 hown2 hgrow2 OF hbw hbw2 hH1 hH2 hH3 hp hn Q d7 d8 HB3 T3
  obtain ⟨pre, hpr⟩ : ∃ pre : List Int, head e ++ b8 e.n ++ [flag e.ok, (e.vals.length : Int)] = pre := ⟨_, rfl⟩
  rw [hpr] at OG hpre
  clear hpr
  as_aux_lemma =>
    go_wp2_with fail
    go_loopw [3, 52] (fun s i wr => ∃ (k : Nat) (v : Value), s = v ∧ k ≤ e.vals.length ∧ i = .int .i64 k ∧ wr.ownsRow w1.heap.size 5 1 v (17 + 4 * k) (cells (pre ++ tail (e.vals.take k))) ∧ Below w1.heap.size w1 wr) (fun _ i _ => e.vals.length - (intOf i).toNat)
    case atStart => exact ⟨0, _, rfl, Nat.zero_le _, rfl, OG.out, HF.out⟩
    case round =>
      obtain ⟨k, v, hv, hk, rfl, hO, hB⟩ := hrel
      have hv' := hv.symm
      clear hv
      subst hv'
      have HO := hid hO
      have HB := hid hB
      clear hO hB
      by_cases hlt : k < e.vals.length
      · obtain ⟨b, o, rfl, hc0⟩ : ∃ b o, A = some ⟨b, o, none⟩ ∧ wr.cell? ⟨b, o + k, none⟩ = some (.int .i64 (e.vals.getD k 0)) := by
          rcases H1.out.below HB.out with h | ⟨b, o, rfl, h⟩
          · rw [h] at hlt; exact absurd hlt (Nat.not_lt_zero _)
          · exact ⟨b, o, rfl, h k hlt⟩
        have hvb := he.out.vals (e.vals.getD k 0) (by rw [List.getD_eq_getElem?_getD, List.getElem?_eq_getElem hlt]; exact List.getElem_mem hlt)
        have hs := hid (tail_succ e.vals k hlt)
        have hwr := wrap_u64 (e.vals.getD k 0)
        have hul := u64_lt (e.vals.getD k 0)
        have hlti : (k : Int) < e.vals.length := by omega
        obtain ⟨v0, v1⟩ := hvb
        generalize e.vals.getD k 0 = y at *
        have hub := hid hul
        generalize u64 y = u at *
        clear hul
        go_wp2_with fail
        refine (Hbytes.out u hub.out _).mono ?_
        rintro x w4 ⟨rfl, hb4⟩
        have O4 := hid (owns_below HO.out hb4)
        have B4' := hid (via HB.out hb4)
        rw [b8_cells]
        obtain ⟨BA, hBA⟩ : ∃ Z : Array Value, Hid (Z = (cells (b8 u)).toArray) := ⟨_, hid rfl⟩
        obtain ⟨ZA, hZA⟩ : ∃ Z : Array Value, Hid (Z = (cells [0, 0, 0, 0, 0, 0, 0, 0]).toArray) := ⟨_, hid rfl⟩
        have hz : ∀ w, (zeroValue 54).run Try.prog w = .ok (.agg ZA) w := by
          intro w
          rw [hZA.out]
          kernel_rfl
        have hst : ∀ w : World, Sem.run Try.prog (storeCells ⟨w.heap.size, 0, none⟩ BA.toList) (w.alloc (.cells ZA 54 (0, 0))) = .ok () (w.alloc (.cells BA 54 (0, 0))) := by
          intro w
          exact run_storeCells_new w _ ZA BA (by rw [hBA.out]; kernel_rfl) (by rw [hBA.out, hZA.out]; rfl) (by rw [hBA.out]; exact all_oneCell_toArray (cells_one _))
        have hBs : BA.size = 8 := by rw [hBA.out]; rfl
        rw [← hBA.out]
        clear hb4 hc0
        go_wp2_with (refine wpList_append_own _ rfl _ _ 49 rfl w1.heap.size 5 i0 (.int .u8 0) 1 1 Try.underlying49 i1 i2 i3 i4 rfl (by decide) v (17 + 4 * k) (cells (pre ++ tail (e.vals.take k))) rfl (O4.out.alloc _) ⟨w4.heap.size, 4, none⟩ 4 4 (cells (b4 u)) rfl rfl ?c1 (cells_one _) ?c3 ?c4 ?c5 ?_)
        case c1 =>
          intro j z hj
          rw [Addr.add_mid]
          have h8 := range_new w4 BA 54 (4 + j) z (by
            rw [hBA.out]
            have hj4 := (List.getElem?_eq_some_iff.1 hj).1
            match j, hj with
            | 0, hj => exact hj
            | 1, hj => exact hj
            | 2, hj => exact hj
            | 3, hj => exact hj)
          rw [Nat.zero_add] at h8
          exact h8
        case c3 => unfold maxLen; omega
        case c4 => omega
        case c5 => have := B4'.out.size; simp; omega
        intro v' w5 hown hgrow _
        have O5 : Hid (w5.ownsRow w1.heap.size 5 1 v' (17 + 4 * (k + 1)) (cells (pre ++ tail (e.vals.take (k + 1))))) := by
          show World.ownsRow _ _ _ _ _ _ _
          rw [hs.out, ← List.append_assoc, cells_append, show 17 + 4 * (k + 1) = 17 + 4 * k + 4 from by omega]
          exact hown
        have B5 := hid (below_grown (B4'.out.alloc B4'.out.size _) hgrow (fun g hg => (O4.out.lt g hg).1))
        clear hown hgrow
        go_wp2_with fail
        go_roundw
        case rel => exact ⟨k + 1, _, rfl, by omega, by go_num, O5.out, B5.out⟩
        case measure => simp [intOf]; omega
      · obtain rfl : k = e.vals.length := by omega
        rw [List.take_length, hpre.out] at HO
        have hconv : ∃ g cap, v = .slice (some ⟨g, 0, none⟩) (17 + 4 * e.vals.length) cap ∧ wr.rangeAt g 0 (cells (put e)) ∧ (put e).length = 17 + 4 * e.vals.length := by
          have h := HO.out
          rcases h.2 with ⟨_, h0⟩ | ⟨g, cap, cur, hvv, _⟩
          · omega
          · refine ⟨g, cap, hvv, fun j z hj => ?_, by have := h.1; unfold cells at this; simpa using this⟩
            have := h.cells (g := g) (by rw [hvv]; rfl) j z hj
            rw [Addr.add_mid] at this
            exact this
        obtain ⟨g, cap, rfl, hrg, hpl⟩ := hconv
        have hcv := run_convert_bytes_arg (w := wr) 49 5 Try.underlying49 Try.underlying5 g 0 (17 + 4 * e.vals.length) cap (put e) hpl (fun i hi => by
          apply hrg
          unfold cells
          rw [List.getElem?_map, List.getElem?_eq_getElem (by omega), List.getD_eq_getElem?_getD, List.getElem?_eq_getElem (by omega)]
          rfl) 9 Try.underlying9
        clear hrg
        obtain ⟨S, hS⟩ : ∃ S, Hid (S = strOfNums (put e)) := ⟨_, hid rfl⟩
        rw [← hS.out] at hcv
        go_wp2_with fail
        go_ret
        exact ⟨by show Ending.returned (Value.string S) = _; rw [hS.out], (Hb.out.trans (HB.out.mono Hb.out.size))⟩
theorem put_calls (e : Ev) (A : Option Addr) (c : Nat) (w : World) (he : Hid e.Fits) (hl : e.vals.length ≤ 1000000) (hr : RowI w A e.vals) :
    Calls Try.prog 15 #[.agg (evF e A c)] w fun x w' => x = .returned (.string (strOfNums (put e))) ∧ Below w.heap.size w w' := by
  by_cases hm : may e = true
  · exact put_core e A c w he hr ((may_iff e).1 hm) hm
  · have Hmay := hid fun w (hr : RowI w A e.vals) => may_calls e A c w he hl hr
    have Hr := hid hr
    replace hm : may e = false := by simpa using hm
    rw [hm] at Hmay
    have hp : Hid (put e = []) := by show _ = _; unfold put; rw [hm]; rfl
    clear hr hm
    go_enter Try.func15, Try.ntmps15
    go_wp2_with fail
    refine (Hmay.out _ (Hr.out.below (grow _ _))).mono ?_
    rintro x w1 ⟨rfl, hb⟩
    have Hb := hid (via (grow w _) hb)
    clear hb
    go_wp2_with fail
    go_ret
    exact ⟨by rw [hp.out]; rfl, Hb.out⟩
end Go.Proofs.Ytcfjefngfmnmaaa.C22
