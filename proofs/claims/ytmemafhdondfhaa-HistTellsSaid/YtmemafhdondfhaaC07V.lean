/- The walk of the law HistTells. -/
import Derived.Test.YtmemafhdondfhaaC07U
import Derived.Test.YtmemafhdondfhaaC07H
namespace Go.Proofs.Ytmemafhdondfhaa.C06
open Go.RowKit Go.Proofs.Ytmemafhdondfhaa Go.Proofs.Ytmemafhdondfhaa.Win
set_option linter.unusedVariables false
set_option linter.unusedSimpArgs false
set_option linter.unnecessarySimpa false
attribute [local go_sem] C01.max2_mx C01.min2_mn C01.max_two C01.min_two
theorem there_lt {w : World} {b n : Nat} (h : w.there b 0 (n + 1)) : b < w.heap.size := by
  obtain ⟨v, hv⟩ := Option.isSome_iff_exists.1 (h 0 (by omega)).1
  exact World.block_lt_of_cell? w _ hv
set_option maxHeartbeats 8000000 in
set_option maxRecDepth 100000 in
theorem tells_core (n wd p : Int) (l : List O) (A : Option Addr) (c : Nat) (w : World) (hl : l.length ≤ 9223372036854775807) (hx : Hid (∀ e ∈ l, 0 ≤ e.1 ∧ e.1 ≤ 18446744073709551615 ∧ e.2 < 18446744073709551616)) (hr : Hid (RowO w A l)) (n0 : 1 ≤ n) (n1 : n ≤ 8) (w0 : 1 ≤ wd) (wd1 : wd ≤ 1099511627776) (p0_ : -9223372036854775808 ≤ p) (p1_ : p ≤ 9223372036854775807) :
    Calls Try.prog 9 #[.int .i64 n, .int .u64 wd, .slice A l.length c, .int .i64 p] w fun e w' => e = .returned (.bool true) ∧ Below w.heap.size w w' := by
  have hli : (l.length : Int) ≤ 9223372036854775807 := by omega
  have hi4 : ∀ (t : Int) (V : Option Addr) (a b : Nat), (Try.prog.info? 49).map (·.size) = some (rh n wd t V a b).toList.length := by intros; kernel_rfl
  have hj4 : ∀ (t : Int) (V : Option Addr) (a b : Nat), (Try.prog.info? 49).map (·.size) = some (rh n wd t V a b).size := by intros; kernel_rfl
  have Hmay := hid fun w => rmay_calls n wd w (by omega) (by omega) (by omega) (by omega)
  rw [decide_eq_true (show 1 ≤ n ∧ n ≤ 8 ∧ 1 ≤ wd ∧ wd ≤ 1099511627776 from ⟨n0, n1, w0, wd1⟩)] at Hmay
  go_enter Try.func9, Try.ntmps9
  go_wp2_with fail
  refine (awake_calls _).mono ?_
  rintro y w1 ⟨rfl, hb⟩
  have Hb := hid hb
  clear hb
  go_wp2_with fail
  refine (new_has w n wd w1 Hb.out n0 n1 w0 (by omega)).mono ?_
  rintro y w2 ⟨rfl, hh, hb⟩
  have HH := hid hh
  have hsz : w1.heap.size < w2.heap.size := hh.lt
  clear hh hb
  obtain ⟨H, hH⟩ : ∃ H, w1.heap.size = H := ⟨_, rfl⟩
  rw [hH] at HH hsz
  rw [hH]
  clear hH
  go_wp2_with fail
  refine (Hmay.out _).mono ?_
  rintro y w' ⟨rfl, rfl⟩
  go_wp2_with fail
  obtain ⟨X, hX⟩ : ∃ X, w2.heap.size = X := ⟨_, rfl⟩
  have HX : Hid (w.heap.size ≤ X ∧ X ≠ H) := hid ⟨by have := HH.out.below.size; omega, by omega⟩
  have HL : Hid (Lp w H X n wd 0 (fresh n wd) none 0 [] (w2.alloc (.cells (rh n wd 0 none 0 0) 49 (0, 0)))) := hid {
    has := HH.out.alloc _
    holds := holds_fresh n0 n1 w0 wd1
    en := rfl
    ewd := rfl
    enow := rfl
    t0 := by omega
    t1 := by omega
    rng := range_of w2 _ _ X hX
    thr := there_of w2 _ _ X 4 hX (by simp)
    row := .inl rfl
    nil := fun _ => ⟨rfl, rfl⟩
    far := fun _ _ h => by cases h
    bnd := fun _ h => absurd h List.not_mem_nil }
  rw [hX]
  obtain ⟨w3, hw3⟩ : ∃ w3, w2.alloc (.cells (rh n wd 0 none 0 0) 49 (0, 0)) = w3 := ⟨_, rfl⟩
  have hw3' : w2.alloc (.cells #[.int .i64 n, .int .u64 wd, .int .u64 0, .slice none 0 0] 49 (0, 0)) = w3 := hw3
  rw [hw3] at HL
  rw [hw3']
  clear hX hw3 hw3'
  go_loopw [12, 13, 14, 15, 16, 17, 18, 19] (fun tv iv _ _ _ _ _ _ wr => ∃ (k : Nat) (t : Int) (W : Win) (V : Option Addr) (cv : Nat) (rl : List O), tv = .int .u64 t ∧ iv = .int .i64 k ∧ k ≤ l.length ∧ k ≤ 100 ∧ rl.length = k ∧ Lp w H X n wd t W V cv rl wr) (fun _ iv _ _ _ _ _ _ _ => 100 - (intOf iv).toNat)
  case atStart => exact ⟨0, 0, _, _, _, [], rfl, rfl, Nat.zero_le _, Nat.zero_le _, rfl, HL.out⟩
  case round =>
    obtain ⟨k, t, W, V, cv, rl, rfl, rfl, hk, hk100, hrl, hL⟩ := hrel
    have HL := hid hL
    have hXb := HX.out.1
    have hXH := HX.out.2
    clear hL
    by_cases hgo : k < l.length ∧ k < 100
    · obtain ⟨hlt, h100⟩ := hgo
      have hlti : (k : Int) < l.length := by omega
      have h100i : (k : Int) < 100 := by omega
      have hxe := hx.out (l.getD k oz) (by rw [List.getD_eq_getElem?_getD, List.getElem?_eq_getElem hlt]; exact List.getElem_mem hlt)
      obtain ⟨B, o, hA, hcell⟩ : ∃ B o, A = some ⟨B, o, none⟩ ∧ w.cell? ⟨B, o + k * 2, none⟩ = some (.int .u64 (l.getD k oz).1) ∧ w.cell? ⟨B, o + k * 2 + 1, none⟩ = some (.int .u64 (l.getD k oz).2) := by
        rcases hr.out with h | ⟨B, o, hA, h⟩
        · rw [h] at hlt; exact absurd hlt (Nat.not_lt_zero _)
        · exact ⟨B, o, hA, h k hlt⟩
      subst hA
      generalize l.getD k oz = e at *
      obtain ⟨q, x⟩ := e
      dsimp only at hcell hxe
      obtain ⟨hc1, hc2⟩ := hcell
      obtain ⟨q0, q1, x1⟩ := hxe
      have C1 := hid fun (w' : World) (hb : Below w.heap.size w w') => cell_far hb hc1
      have C2 := hid fun (w' : World) (hb : Below w.heap.size w w') => cell_far hb hc2
      have t0 := HL.out.t0
      have t1 := HL.out.t1
      obtain ⟨d, hd⟩ : ∃ d, Sat.mn q (18446744073709551615 - t) = d := ⟨_, rfl⟩
      have hd0 : 0 ≤ d := by rw [← hd]; unfold Sat.mn; split <;> omega
      have hd1 : d ≤ 18446744073709551615 - t := by rw [← hd]; unfold Sat.mn; split <;> omega
      obtain ⟨t', ht'⟩ : ∃ t', t + d = t' := ⟨_, rfl⟩
      have t0' : 0 ≤ t' := by omega
      have t1' : t' ≤ 18446744073709551615 := by omega
      have htt : t ≤ t' := by omega
      have hm : Sat.mx t t' = t' := by unfold Sat.mx; split <;> omega
      have hm2 : Sat.mx t' t' = t' := mx_self t'
      obtain ⟨b, hbb⟩ : ∃ b, t' / wd = b := ⟨_, rfl⟩
      have hb0 : 0 ≤ b := by rw [← hbb]; exact Int.ediv_nonneg t0' (by omega)
      have hb1 : b ≤ 18446744073709551615 := by
        have := Int.ediv_le_self wd t0'
        omega
      have hbk : W.bkt t' = b := by unfold Win.bkt Win.time; rw [HL.out.enow, HL.out.ewd, hm, hbb]
      have hHadd := HL.out.holds.add t0' t1' (Bits.blen x) (show (0 : Int) ≤ 1 by omega)
      rw [hbk, ← evs_snoc rl (b, x)] at hHadd
      obtain ⟨W1, hW1⟩ : ∃ W1, W.add t' (Bits.blen x) 1 = W1 := ⟨_, rfl⟩
      have Hadd := hid (add_has HL.out.has t' x t0' t1' x1)
      rw [hW1] at Hadd hHadd
      have en1 : W1.n = n := by rw [← hW1]; exact HL.out.en
      have ewd1 : W1.width = wd := by rw [← hW1]; exact HL.out.ewd
      have enow1 : W1.now = t' := by rw [← hW1]; show Sat.mx W.now t' = t'; rw [HL.out.enow, hm]
      have hbk1 : W1.bkt t' = b := by unfold Win.bkt Win.time; rw [enow1, ewd1, hm2, hbb]
      have hbk2 : (W1.tick t').bkt t' = b := by
        unfold Win.bkt Win.time
        show Sat.mx (Sat.mx W1.now t') t' / W1.width = b
        rw [enow1, hm2, hm2, ewd1, hbb]
      have hrl2 : (rl ++ [(b, x)]).length = k + 1 := by rw [List.length_append, hrl]; rfl
      have htold1 := hid (told_cnt hHadd t0' t1' hbk1 en1 (by omega))
      have htold2 := hid (told_cnt (hHadd.tick t0' t1') t0' t1' hbk2 (show (W1.tick t').n = n from en1) (by omega))
      have HW1 := hid (⟨hHadd, en1, ewd1, enow1⟩ : Holds W1 (evs (rl ++ [(b, x)])) ∧ W1.n = n ∧ W1.width = wd ∧ W1.now = t')
      have HW3 : Hid (Holds ((W1.tick t').tick t') (evs (rl ++ [(b, x)])) ∧ ((W1.tick t').tick t').n = n ∧ ((W1.tick t').tick t').width = wd ∧ ((W1.tick t').tick t').now = t') := hid ⟨(hHadd.tick t0' t1').tick t0' t1', en1, ewd1, by show Sat.mx (Sat.mx W1.now t') t' = t'; rw [enow1, hm2, hm2]⟩
      have Hradd := hid fun w hr => radd_calls n wd t t' x V cv rl w (hid hr) (hid HL.out.nil) (by omega) t0' t1' t0 t1 w0 wd1 (by omega) t' b hm t0' t1' hbb
      have hbnd2 : Hid (∀ e ∈ rl ++ [(b, x)], 0 ≤ e.1 ∧ e.1 ≤ 18446744073709551615 ∧ e.2 < 18446744073709551616) := hid fun e he => by
        rcases List.mem_append.1 he with he | he
        · exact HL.out.bnd e he
        · obtain rfl := List.mem_singleton.1 he
          exact ⟨hb0, hb1, x1⟩
      have Hrall := hid fun w V2 cv2 hr => rall_calls n wd t' t' V2 cv2 (rl ++ [(b, x)]) w (hid hr) (by omega) hbnd2 t0' t1' t0' t1' w0 wd1 n0 n1 t' b hm2 t0' t1' hbb hb0 hb1
      have Hrperc := hid fun w => rperc_calls p (rcnt b n (rl ++ [(b, x)])) w p0_ p1_ (rcnt_in b n _ (by omega))
      have c1 := C1.out _ HL.out.has.below
      have c2 := C2.out _ HL.out.has.below
      have hx2 : (x : Int) ≤ 18446744073709551615 := by omega
      obtain ⟨N, hN⟩ : ∃ N, (rl ++ [(b, x)]).length = N := ⟨_, rfl⟩
      rw [hN] at Hradd Hrall
      have HN := hid hN
      have Hrl := hid hrl
      clear hN hHadd hbk hbk1 hbk2 en1 ewd1 enow1 hW1 hm hm2 hbb hc1 hc2 hrl2 hrl
      go_wp2_with fail
      refine Hadd.out.mono ?_
      rintro y w4 ⟨rfl, hh, ho⟩
      have H1 := hid hh
      have R1 := hid (range_only HL.out.rng ho hXH)
      have T1 := hid (there_only HL.out.thr ho hXH)
      have V1 := hid (HL.out.row.only ho (fun b o h => (HL.out.far b o h).1))
      clear hh ho c1 c2 Hadd hd ht'
      go_wp2_with fail
      refine Rg.start2 (S := fun w' => Hid (Has w H W1 w' ∧ w'.there X 0 4)) (T := fun w' => Hid (w'.rangeAt X 0 (rh n wd t V rl.length cv).toList ∧ RowO w' V rl)) (by kernel_rfl) (fun _ _ _ _ _ h => h) (hid ⟨H1.out.drew, T1.out⟩) (hid ⟨R1.out, V1.out⟩) ?_
      intro Q hp hn wz hH0 hT0
      refine Rg.tk (i := 1) rfl hp ?_
      refine ⟨?_, ?_, by kernel_rfl, by kernel_rfl, by kernel_rfl, Or.inl ⟨by rfl, ?_⟩, hH0, ?_, ?_⟩
      rotate_left 2
      · (intro w hSw; clear hSw; go_simp; try with_reducible rfl)
      · ((try simp only [Act.put, List.setIfInBounds_toArray, List.set_cons_zero, List.set_cons_succ]); exact rfl)
      refine Rg.tk (i := 2) rfl hp ?_
      refine ⟨?_, ?_, by kernel_rfl, by kernel_rfl, by kernel_rfl, Or.inl ⟨by rfl, ?_⟩, hH0, ?_, ?_⟩
      rotate_left 2
      · (intro w hSw; clear hSw; go_simp; try with_reducible rfl)
      · ((try simp only [Act.put, List.setIfInBounds_toArray, List.set_cons_zero, List.set_cons_succ]); exact rfl)
      refine Rg.tk (i := 3) rfl hp ?_
      refine ⟨?_, ?_, by kernel_rfl, by kernel_rfl, by kernel_rfl, Or.inl ⟨by rfl, ?_⟩, hH0, ?_, ?_⟩
      rotate_left 2
      · (intro w hSw; clear hSw; go_simp; try with_reducible rfl)
      · ((try simp only [Act.put, List.setIfInBounds_toArray, List.set_cons_zero, List.set_cons_succ]); exact rfl)
      refine Rg.tk (i := 4) rfl hp ?_
      refine ⟨?_, ?_, by kernel_rfl, by kernel_rfl, by kernel_rfl, Or.inl ⟨by rfl, ?_⟩, hH0, ?_, ?_⟩
      rotate_left 2
      · (intro w hSw; clear hSw; go_simp; try with_reducible rfl)
      · ((try simp only [Act.put, List.setIfInBounds_toArray, List.set_cons_zero, List.set_cons_succ]); exact rfl)
      refine Rg.tk (i := 5) rfl hp ?_
      refine ⟨?_, ?_, by kernel_rfl, by kernel_rfl, by kernel_rfl, Or.inl ⟨by rfl, ?_⟩, hH0, ?_, ?_⟩
      rotate_left 2
      · (intro w hSw; clear hSw; go_simp; try with_reducible rfl)
      · ((try simp only [Act.put, List.setIfInBounds_toArray, List.set_cons_zero, List.set_cons_succ]); exact rfl)
      refine Rg.tk (i := 6) rfl hp ?_
      refine ⟨?_, ?_, by kernel_rfl, by kernel_rfl, by kernel_rfl, Or.inl ⟨by rfl, ?_⟩, hH0, ?_, ?_⟩
      rotate_left 2
      · (intro w hSw; have hc := C2.out _ hSw.out.1.below; clear hSw; go_simp; try with_reducible rfl)
      · ((try simp only [Act.put, List.setIfInBounds_toArray, List.set_cons_zero, List.set_cons_succ]); exact rfl)
      refine Rg.one (i := 0) rfl ⟨by kernel_rfl, by rfl, fun K hK => ?_⟩
      refine wp_load_mid 49 _ rfl X 0 rfl (rh n wd t V rl.length cv).toList _ hT0.out.1 Try.underlying49 rfl (hi4 _ _ _ _) ?_
      refine hK.out _ _ ?_ (hH0) ?_ (fun hH0b => ?_)
      rotate_left
      · ((try simp only [Act.put, List.setIfInBounds_toArray, List.set_cons_zero, List.set_cons_succ]); exact rfl)
      clear hK K
      refine Rg.one (i := 7) rfl ⟨by kernel_rfl, by rfl, fun K hK => ?_⟩
      go_simp
      refine (Hradd.out _ hT0.out.2).mono ?_
      rintro y u1 ⟨V2, cv2, rfl, hr2, hn2, hf2, hl1⟩
      have HV2 := hid hr2
      have HF2 : Hid (∀ b o, V2 = some ⟨b, o, none⟩ → b ≠ H ∧ b ≠ X) := hid fun b o h => by have q1 := hf2 b o h; have q2 := hH0.out.1.lt; have q3 := there_lt hH0.out.2; omega
      have HN2 := hid hn2
      refine hK.out _ _ ?_ (hid ⟨hH0.out.1.quiet hl1, there_grow hH0.out.2 hl1⟩) ?_ (fun hH1 => ?_)
      rotate_left
      · ((try simp only [Act.put, List.setIfInBounds_toArray, List.set_cons_zero, List.set_cons_succ]); exact rfl)
      clear hK K
      clear hr2 hn2 hf2 hl1
      refine Rg.one (i := 8) rfl ⟨by kernel_rfl, by rfl, fun K hK => ?_⟩
      refine wp_store_mid 49 _ _ rfl X 0 (rh n wd t' V2 N cv2) rfl rfl hH1.out.2 (hj4 _ _ _ _) (rh_one _ _ _ _ _ _) ?_
      have E1 := hid (hH1.out.1.farSets hXb hXH.symm (rh n wd t' V2 N cv2).toList 0)
      have E2 := hid (World.rangeAt_setCells_same _ _ _ (rh n wd t' V2 N cv2).toList hH1.out.2)
      have E3 := hid (Rg4.sets hH1.out.2 (rh n wd t' V2 N cv2).toList (Nat.le_refl 4))
      have E4 := hid (RowO.sets (fun b o h => (HF2.out b o h).2) HV2.out (rh n wd t' V2 N cv2).toList 0)
      obtain ⟨wq, hwq⟩ : ∃ wq, World.setCells u1 X 0 (rh n wd t' V2 N cv2).toList = wq := ⟨_, rfl⟩
      rw [hwq] at E1 E2 E3 E4 ⊢
      clear hwq
      refine hK.out _ _ ?_ (hid ⟨E1.out, E3.out⟩) ?_ (fun hHF => ?_)
      rotate_left
      · ((try simp only [Act.put, List.setIfInBounds_toArray, List.set_cons_zero, List.set_cons_succ]); exact rfl)
      clear hK K
      refine wpAnyH_done (by kernel_rfl) ?_ _
      refine hn.out _ _ ?_
      have HL2 := HL
      clear hn hp Q hH0 hH0b hT0 hH1 hHF H1 R1 T1 V1 HL2
      obtain ⟨ZA, hZA⟩ : ∃ Z : Array Value, Hid (Z = (bl fun _ => 0).toArray) := ⟨_, hid rfl⟩
      obtain ⟨LA, hLA⟩ : ∃ Z : Array Value, Hid (Z = (bl (rcnt b n (rl ++ [(b, x)]))).toArray) := ⟨_, hid rfl⟩
      rw [← hLA.out] at Hrall Hrperc
      have hz : ∀ w, (zeroValue 42).run Try.prog w = .ok (.agg ZA) w := by rw [hZA.out]; exact zero42
      have hi65 : (Try.prog.info? 42).map (·.size) = some LA.toList.length := by rw [hLA.out, bl_len]; kernel_rfl
      go_wp2_with (first
        | refine BigFrame.wpList_want rfl (fun K hK => wp_load_mid 49 _ rfl X 0 rfl (rh n wd t' V2 N cv2).toList _ E2.out Try.underlying49 rfl (hi4 _ _ _ _) (hK _ _ ?_)))
      refine (Hrall.out _ V2 cv2 E4.out).mono ?_
      rintro y w5 ⟨rfl, hr5, hb5⟩
      have H5 := hid (E1.out.quiet hb5)
      have R5 := hid (range_grow E2.out hb5)
      have T5 := hid (there_grow E3.out hb5)
      have V5 := hid hr5
      clear hr5 hb5
      have hst : ∀ (a : Obj), Sem.run Try.prog (storeCells ⟨w5.heap.size + 1, 0, none⟩ LA.toList) ((w5.alloc a).alloc (.cells ZA 42 (0, 0))) = .ok () ((w5.alloc a).alloc (.cells LA 42 (0, 0))) := by
        intro a
        rw [show w5.heap.size + 1 = (w5.alloc a).heap.size from by simp]
        exact run_storeCells_new _ _ ZA LA (by rw [hLA.out]; kernel_rfl) (by rw [hLA.out, hZA.out, List.size_toArray, List.size_toArray, bl_len, bl_len]) (by rw [hLA.out]; exact all_oneCell_toArray (bl_one _))
      have hLs : LA.size = 65 := by rw [hLA.out, List.size_toArray, bl_len]
      have R5b := fun (a b : Obj) => range_grow (range_grow R5.out (grow _ a)) (grow _ b)
      have T5b := fun (a b : Obj) => there_grow (there_grow T5.out (grow _ a)) (grow _ b)
      have p0 : ∀ a b : Obj, ((w5.alloc a).alloc b).cell? ⟨X, 0, none⟩ = some (.int .i64 n) := fun a b => R5b a b 0 _ rfl
      have p1 : ∀ a b : Obj, ((w5.alloc a).alloc b).cell? ⟨X, 1, none⟩ = some (.int .u64 wd) := fun a b => R5b a b 1 _ rfl
      have p2 : ∀ a b : Obj, ((w5.alloc a).alloc b).cell? ⟨X, 2, none⟩ = some (.int .u64 t') := fun a b => R5b a b 2 _ rfl
      have p3 : ∀ a b : Obj, ((w5.alloc a).alloc b).cell? ⟨X, 3, none⟩ = some (.slice V2 N cv2) := fun a b => R5b a b 3 _ rfl
      have f0 : ∀ a b : Obj, ((w5.alloc a).alloc b).frozen? ⟨X, 0, none⟩ = false := fun a b => (T5b a b 0 (by omega)).2
      have f1 : ∀ a b : Obj, ((w5.alloc a).alloc b).frozen? ⟨X, 1, none⟩ = false := fun a b => (T5b a b 1 (by omega)).2
      have f2 : ∀ a b : Obj, ((w5.alloc a).alloc b).frozen? ⟨X, 2, none⟩ = false := fun a b => (T5b a b 2 (by omega)).2
      have f3 : ∀ a b : Obj, ((w5.alloc a).alloc b).frozen? ⟨X, 3, none⟩ = false := fun a b => (T5b a b 3 (by omega)).2
      clear R5b T5b
      go_wp2_with fail
      obtain ⟨wb, hwb⟩ : ∃ wb, (w5.alloc (.cells #[.int .i64 n, .int .u64 wd, .int .u64 t', .slice V2 N cv2] 49 (0, 0))).alloc (.cells LA 42 (0, 0)) = wb := ⟨_, rfl⟩
      obtain ⟨CB, hCB⟩ : ∃ CB, w5.heap.size + 1 = CB := ⟨_, rfl⟩
      have g5 : Below w5.heap.size w5 wb := by rw [← hwb]; exact ((grow w5 _).alloc (by simp) _)
      have RCb : wb.rangeAt CB 0 LA.toList := by rw [← hwb, ← hCB]; exact range_of _ LA 42 _ (by simp)
      have hXlt : X < w5.heap.size := there_lt T5.out
      have hCX : CB ≠ X := by omega
      have H6 := hid (((H5.out.quiet g5)).farSets hXb hXH.symm (rh n wd t' V2 N cv2).toList 0)
      have R6 := hid (World.rangeAt_setCells_same wb X 0 (rh n wd t' V2 N cv2).toList (there_grow T5.out g5))
      have T6 := hid (Rg4.sets (there_grow T5.out g5) (rh n wd t' V2 N cv2).toList (Nat.le_refl 4))
      have V6 := hid (RowO.sets (fun b o h => (HF2.out b o h).2) (V5.out.below g5) (rh n wd t' V2 N cv2).toList 0)
      have RC := hid (range_sets hCX RCb (rh n wd t' V2 N cv2).toList 0)
      have hCBH : Hid (CB ≠ H) := hid (by have := H5.out.lt; omega)
      rw [hwb, hCB]
      obtain ⟨w7, hw7⟩ : ∃ w7, World.setCells wb X 0 (rh n wd t' V2 N cv2).toList = w7 := ⟨_, rfl⟩
      have hw7' : (((wb.setCell ⟨X, 0, none⟩ (.int .i64 n)).setCell ⟨X, 1, none⟩ (.int .u64 wd)).setCell ⟨X, 2, none⟩ (.int .u64 t')).setCell ⟨X, 3, none⟩ (.slice V2 N cv2) = w7 := hw7
      rw [hw7] at H6 R6 T6 V6 RC
      rw [hw7']
      clear hw7 hw7' hwb hCB g5 RCb hXlt hCX p0 p1 p2 p3 f0 f1 f2 f3 hst hz
      refine (perc_has H6.out t' p t0' t1' p0_ p1_).mono ?_
      rintro y w8 ⟨rfl, hh, ho⟩
      have H8 := hid hh
      have R8 := hid (range_only R6.out ho hXH)
      have T8 := hid (there_only T6.out ho hXH)
      have V8 := hid (V6.out.only ho (fun b o h => (HF2.out b o h).1))
      replace RC := hid (range_only RC.out ho hCBH.out)
      have hpc := Hst.perc_congr (f := W1.told t') (g := rcnt b n (rl ++ [(b, x)])) (fun i _ => htold1.out i) p
      rw [hpc.1, hpc.2]
      clear hh ho hpc
      obtain ⟨PN, hPN⟩ : ∃ q, Hst.percN (rcnt b n (rl ++ [(b, x)])) p = q := ⟨_, rfl⟩
      obtain ⟨PB, hPB⟩ : ∃ q, Hst.percB (rcnt b n (rl ++ [(b, x)])) p = q := ⟨_, rfl⟩
      rw [hPN, hPB] at Hrperc
      rw [hPN, hPB]
      clear hPN hPB
      go_wp2_with (refine BigFrame.wpList_want rfl (fun K hK => wp_load_mid 42 _ rfl CB 0 rfl LA.toList _ RC.out Try.underlying42 rfl hi65 (hK _ _ ?_)))
      refine (Hrperc.out _).mono ?_
      rintro y w9 ⟨rfl, hb9⟩
      have H9 := hid (H8.out.quiet hb9)
      have R9 := hid (range_grow R8.out hb9)
      have T9 := hid (there_grow T8.out hb9)
      have V9 := hid (V8.out.below hb9)
      replace RC := hid (range_grow RC.out hb9)
      have heq : ∀ w, Sem.run Try.prog (Op.equalIn 10000 42 (.agg LA) (.agg LA)) w = .ok true w := by
        rw [hLA.out]
        exact eq65 _ _ (rcnt_in b n _ (by rw [List.length_append, Hrl.out]; show k + 1 ≤ 1000; omega)) (rcnt_in b n _ (by rw [List.length_append, Hrl.out]; show k + 1 ≤ 1000; omega)) true (by simp)
      have e1 : (PN != PN) = false := by simp
      have e2 : (PB != PB) = false := by simp
      clear hb9
      go_wp2_with fail
      refine Rg.start2 (S := fun w' => Hid (Only H w9 w' ∧ w'.rangeAt CB 0 LA.toList)) (T := fun w' => Hid (Has w H (W1.tick t') w')) (by kernel_rfl) (fun _ _ _ _ _ h => h) (hid ⟨(Only.refl H w9).drew, RC.out⟩) (hid H9.out.drew) ?_
      intro Q hp hn wz hH0 hT0
      refine Rg.tk (i := 0) rfl hp ?_
      refine ⟨?_, ?_, by kernel_rfl, by kernel_rfl, by kernel_rfl, Or.inl ⟨by rfl, ?_⟩, hH0, ?_, ?_⟩
      rotate_left 2
      · (intro w hSw; clear hSw; go_simp; try with_reducible rfl)
      · ((try simp only [Act.put, List.setIfInBounds_toArray, List.set_cons_zero, List.set_cons_succ]); exact rfl)
      refine Rg.tk (i := 1) rfl hp ?_
      refine ⟨?_, ?_, by kernel_rfl, by kernel_rfl, by kernel_rfl, Or.inl ⟨by rfl, ?_⟩, hH0, ?_, ?_⟩
      rotate_left 2
      · (intro w hSw; clear hSw; go_simp; try with_reducible rfl)
      · ((try simp only [Act.put, List.setIfInBounds_toArray, List.set_cons_zero, List.set_cons_succ]); exact rfl)
      refine Rg.tk (i := 3) rfl hp ?_
      refine ⟨_, ?_, by kernel_rfl, by kernel_rfl, by kernel_rfl, yieldsIf_load_mid (by rfl) 42 _ rfl CB 0 rfl LA.toList _ (fun w hSw => hSw.out.2) Try.underlying42 rfl hi65, hH0, ?_, ?_⟩
      rotate_left
      · ((try simp only [Act.put, List.setIfInBounds_toArray, List.set_cons_zero, List.set_cons_succ]); exact rfl)
      refine Rg.one (i := 2) rfl ⟨by kernel_rfl, by rfl, fun K hK => ?_⟩
      go_simp
      refine (all_has hT0.out t' t0' t1').mono ?_
      rintro y u1 ⟨rfl, hh, ho⟩
      have HA := hid hh
      have hCB := hCBH.out
      rw [bl_congr (g := rcnt b n (rl ++ [(b, x)])) (fun i _ => htold2.out i), ← hLA.out]
      refine hK.out _ _ ?_ (hid ⟨hH0.out.1.trans ho, range_only hH0.out.2 ho hCB⟩) ?_ (fun hH1 => ?_)
      rotate_left
      · ((try simp only [Act.put, List.setIfInBounds_toArray, List.set_cons_zero, List.set_cons_succ]); exact rfl)
      clear hK K
      clear hh ho
      refine Rg.tk (i := 4) rfl hp ?_
      refine ⟨?_, ?_, by kernel_rfl, by kernel_rfl, by kernel_rfl, Or.inl ⟨by rfl, ?_⟩, hH1, ?_, ?_⟩
      rotate_left 2
      · (intro w hSw; clear hSw; go_simp; try with_reducible rfl)
      · ((try simp only [Act.put, List.setIfInBounds_toArray, List.set_cons_zero, List.set_cons_succ]); exact rfl)
      refine Rg.tk (i := 5) rfl hp ?_
      refine ⟨?_, ?_, by kernel_rfl, by kernel_rfl, by kernel_rfl, Or.inl ⟨by rfl, ?_⟩, hH1, ?_, ?_⟩
      rotate_left 2
      · (intro w hSw; clear hSw; go_simp; try with_reducible rfl)
      · ((try simp only [Act.put, List.setIfInBounds_toArray, List.set_cons_zero, List.set_cons_succ]); exact rfl)
      refine Rg.tk (i := 6) rfl hp ?_
      refine ⟨?_, ?_, by kernel_rfl, by kernel_rfl, by kernel_rfl, Or.inl ⟨by rfl, ?_⟩, hH1, ?_, ?_⟩
      rotate_left 2
      · (intro w hSw; clear hSw; go_simp; try with_reducible rfl)
      · ((try simp only [Act.put, List.setIfInBounds_toArray, List.set_cons_zero, List.set_cons_succ]); exact rfl)
      refine Rg.tk (i := 7) rfl hp ?_
      refine ⟨?_, ?_, by kernel_rfl, by kernel_rfl, by kernel_rfl, Or.inl ⟨by rfl, ?_⟩, hH1, ?_, ?_⟩
      rotate_left 2
      · (intro w hSw; clear hSw; go_simp; try with_reducible rfl)
      · ((try simp only [Act.put, List.setIfInBounds_toArray, List.set_cons_zero, List.set_cons_succ]); exact rfl)
      refine Rg.tk (i := 8) rfl hp ?_
      refine ⟨?_, ?_, by kernel_rfl, by kernel_rfl, by kernel_rfl, Or.inl ⟨by rfl, ?_⟩, hH1, ?_, ?_⟩
      rotate_left 2
      · (intro w hSw; clear hSw; go_simp; try with_reducible rfl)
      · ((try simp only [Act.put, List.setIfInBounds_toArray, List.set_cons_zero, List.set_cons_succ]); exact rfl)
      refine Rg.tk (i := 9) rfl hp ?_
      refine ⟨?_, ?_, by kernel_rfl, by kernel_rfl, by kernel_rfl, Or.inl ⟨by rfl, ?_⟩, hH1, ?_, ?_⟩
      rotate_left 2
      · (intro w hSw; clear hSw; go_simp; try with_reducible rfl)
      · ((try simp only [Act.put, List.setIfInBounds_toArray, List.set_cons_zero, List.set_cons_succ]); exact rfl)
      refine Rg.tk (i := 10) rfl hp ?_
      refine ⟨?_, ?_, by kernel_rfl, by kernel_rfl, by kernel_rfl, Or.inl ⟨by rfl, ?_⟩, hH1, ?_, ?_⟩
      rotate_left 2
      · (intro w hSw; clear hSw; go_simp; try with_reducible rfl)
      · ((try simp only [Act.put, List.setIfInBounds_toArray, List.set_cons_zero, List.set_cons_succ]); exact rfl)
      refine Rg.tk (i := 11) rfl hp ?_
      refine ⟨?_, ?_, by kernel_rfl, by kernel_rfl, by kernel_rfl, Or.inl ⟨by rfl, ?_⟩, hH1, ?_, ?_⟩
      rotate_left 2
      · (intro w hSw; clear hSw; go_simp; try with_reducible rfl)
      · ((try simp only [Act.put, List.setIfInBounds_toArray, List.set_cons_zero, List.set_cons_succ]); exact rfl)
      refine Rg.tk (i := 12) rfl hp ?_
      refine ⟨?_, ?_, by kernel_rfl, by kernel_rfl, by kernel_rfl, Or.inl ⟨by rfl, ?_⟩, hH1, ?_, ?_⟩
      rotate_left 2
      · (intro w hSw; clear hSw; go_simp; try with_reducible rfl)
      · ((try simp only [Act.put, List.setIfInBounds_toArray, List.set_cons_zero, List.set_cons_succ]); exact rfl)
      refine Rg.tk (i := 13) rfl hp ?_
      refine ⟨?_, ?_, by kernel_rfl, by kernel_rfl, by kernel_rfl, Or.inl ⟨by rfl, ?_⟩, hH1, ?_, ?_⟩
      rotate_left 2
      · (intro w hSw; clear hSw; go_simp; try with_reducible rfl)
      · ((try simp only [Act.put, List.setIfInBounds_toArray, List.set_cons_zero, List.set_cons_succ]); exact rfl)
      refine Rg.tk (i := 14) rfl hp ?_
      refine ⟨?_, ?_, by kernel_rfl, by kernel_rfl, by kernel_rfl, Or.inl ⟨by rfl, ?_⟩, hH1, ?_, ?_⟩
      rotate_left 2
      · (intro w hSw; clear hSw; go_simp; try with_reducible rfl)
      · ((try simp only [Act.put, List.setIfInBounds_toArray, List.set_cons_zero, List.set_cons_succ]); exact rfl)
      refine wpAnyH_done (by kernel_rfl) ?_ _
      refine hn.out _ _ ?_
      have R10 := hid (range_only R9.out hH1.out.1 hXH)
      have T10 := hid (there_only T9.out hH1.out.1 hXH)
      have V10 := hid (V9.out.only hH1.out.1 (fun b o h => (HF2.out b o h).1))
      clear hn hp Q
      go_wp2_with fail
      go_roundw
      case rel => exact ⟨k + 1, t', _, V2, cv2, rl ++ [(b, x)], rfl, by go_num, by omega, by omega, by rw [List.length_append, Hrl.out]; rfl, {
        has := HA.out
        holds := HW3.out.1
        en := HW3.out.2.1
        ewd := HW3.out.2.2.1
        enow := HW3.out.2.2.2
        t0 := t0'
        t1 := t1'
        rng := by rw [HN.out]; exact R10.out
        thr := T10.out
        row := V10.out
        nil := fun h => absurd h HN2.out
        far := HF2.out
        bnd := hbnd2.out }⟩
      case measure => simp [intOf]; omega
    · have hexit : ¬ ((k : Int) < l.length) ∨ ((k : Int) < l.length ∧ ¬ (k : Int) < 100) := by omega
      rcases hexit with hexit | ⟨hexit, hexit2⟩
      all_goals
        go_wp2_with fail
        go_ret
        exact ⟨rfl, HL.out.has.below⟩
theorem tells_bad (n wd p : Int) (A : Option Addr) (l c : Nat) (w : World) (n0 : -9223372036854775808 ≤ n) (n1 : n ≤ 9223372036854775807) (w0 : 0 ≤ wd) (wd1 : wd ≤ 18446744073709551615) (h : ¬(1 ≤ n ∧ n ≤ 8 ∧ 1 ≤ wd ∧ wd ≤ 1099511627776)) :
    Calls Try.prog 9 #[.int .i64 n, .int .u64 wd, .slice A l c, .int .i64 p] w fun e w' => e = .returned (.bool true) ∧ Below w.heap.size w w' := by
  have Hmay := hid fun w => rmay_calls n wd w n0 n1 w0 wd1
  rw [decide_eq_false h] at Hmay
  have Hnew := hid fun w => new_bad n wd w n0 n1 w0 wd1 h
  clear h
  go_enter Try.func9, Try.ntmps9
  go_wp2_with fail
  refine (awake_calls _).mono ?_
  rintro y w1 ⟨rfl, hb⟩
  have Hb := hid hb
  clear hb
  go_wp2_with fail
  refine (Hnew.out _).mono ?_
  rintro y w' ⟨rfl, rfl⟩
  go_wp2_with fail
  refine (Hmay.out _).mono ?_
  rintro y w' ⟨rfl, rfl⟩
  go_wp2_with fail
  go_ret
  exact ⟨rfl, Hb.out⟩
theorem tells_calls (n wd p : Int) (l : List O) (A : Option Addr) (c : Nat) (w : World) (hl : l.length ≤ 9223372036854775807) (hx : ∀ e ∈ l, 0 ≤ e.1 ∧ e.1 ≤ 18446744073709551615 ∧ e.2 < 18446744073709551616) (hr : RowO w A l) (n0 : -9223372036854775808 ≤ n) (n1 : n ≤ 9223372036854775807) (w0 : 0 ≤ wd) (wd1 : wd ≤ 18446744073709551615) (p0 : -9223372036854775808 ≤ p) (p1 : p ≤ 9223372036854775807) :
    Calls Try.prog 9 #[.int .i64 n, .int .u64 wd, .slice A l.length c, .int .i64 p] w fun e w' => e = .returned (.bool true) ∧ Below w.heap.size w w' := by
  by_cases h : 1 ≤ n ∧ n ≤ 8 ∧ 1 ≤ wd ∧ wd ≤ 1099511627776
  · exact tells_core n wd p l A c w hl (hid hx) (hid hr) h.1 h.2.1 h.2.2.1 h.2.2.2 p0 p1
  · exact tells_bad n wd p A l.length c w n0 n1 w0 wd1 h
theorem rowO_of_slc {H : Type} {enc : TypeId × Value → H} {P : Program} {w : World} {e : TypeId} {a : Option Addr} {l c : Nat} (he : Opn.leaves P 3 e = some [.int .u64, .int .u64]) (hc : P.cellsOf e = 2) (h : (Opn.Lf.slc e).ok enc P w 0 (fun _ => true) true (.slice a l c)) :
    ∃ L : List O, L.length = l ∧ (∀ e ∈ L, 0 ≤ e.1 ∧ e.1 ≤ 18446744073709551615 ∧ e.2 < 18446744073709551616) ∧ RowO w a L := by
  obtain ⟨a', l', c', hv, _, vs, hlen, hok, hcell⟩ := Opn.slc_cells 3 he (by rw [hc]; rfl) h
  injection hv with h1 h2' h3
  subst h1 h2' h3
  obtain ⟨zs, rfl, hz⟩ := Opn.list_of (fun z : O => [Value.int .u64 z.1, Value.int .u64 (z.2 : Int)]) (fun e => 0 ≤ e.1 ∧ e.1 ≤ 18446744073709551615 ∧ e.2 < 18446744073709551616) vs (fun x hx => by
    obtain ⟨_, _, rfl, ⟨n, rfl, wn⟩, _, _, rfl, ⟨m, rfl, wm⟩, rfl⟩ := hok x hx
    obtain ⟨a1, a2⟩ := Sat.wf_u64 wn
    obtain ⟨b1, b2⟩ := Sat.wf_u64 wm
    obtain ⟨k, rfl⟩ := Int.eq_ofNat_of_zero_le b1
    exact ⟨(n, k), rfl, a1, by show n ≤ _; omega, by show k < _; omega⟩)
  refine ⟨zs, by simpa using hlen, hz, ?_⟩
  by_cases hne : zs = []
  · exact .inl hne
  · right
    rcases hcell with h0 | ⟨ad, rfl, hcell⟩
    · exfalso
      apply hne
      exact List.eq_nil_of_length_eq_zero (by simpa [h0] using hlen)
    · obtain ⟨b, o, rfl, hat⟩ := Opn.slc_at (sz := 2) (by intro x hx; obtain ⟨z, _, rfl⟩ := List.mem_map.1 hx; rfl) (by omega) (by simpa using hne) hcell
      refine ⟨b, o, rfl, fun i hi => ?_⟩
      have h1 := hat i 0 [Value.int .u64 (zs.getD i oz).1, Value.int .u64 ((zs.getD i oz).2 : Int)] (Value.int .u64 (zs.getD i oz).1) (by simp [hi]) rfl
      have h2 := hat i 1 [Value.int .u64 (zs.getD i oz).1, Value.int .u64 ((zs.getD i oz).2 : Int)] (Value.int .u64 ((zs.getD i oz).2 : Int)) (by simp [hi]) rfl
      exact ⟨by simpa using h1, by simpa using h2⟩
theorem law_core (n wd p : Int) (l : List O) (A : Option Addr) (c : Nat) (w : World) (hl : l.length ≤ 9223372036854775807) (hx : ∀ e ∈ l, 0 ≤ e.1 ∧ e.1 ≤ 18446744073709551615 ∧ e.2 < 18446744073709551616) (hr : RowO w A l) (n0 : -9223372036854775808 ≤ n) (n1 : n ≤ 9223372036854775807) (w0 : 0 ≤ wd) (wd1 : wd ≤ 18446744073709551615) (p0 : -9223372036854775808 ≤ p) (p1 : p ≤ 9223372036854775807) :
    Calls Try.prog 3 #[.agg #[.int .i64 n, .int .u64 wd], .slice A l.length c, .int .i64 p] w fun e w' => e = .returned (.bool true) ∧ Below w.heap.size w w' := by
  have Ht := hid fun w hr => tells_calls n wd p l A c w hl hx hr n0 n1 w0 wd1 p0 p1
  have Hr := hid hr
  clear hr hx
  go_enter Try.func3, Try.ntmps3
  go_wp2_with fail
  refine (Ht.out _ (Hr.out.below (grow _ _))).mono ?_
  rintro y w1 ⟨rfl, hb⟩
  have Hb := hid (via (grow w _) hb)
  clear hb
  go_wp2_with fail
  go_ret
  exact ⟨rfl, Hb.out⟩
theorem histTells_walk {H : Type} {enc : TypeId × Value → H} (W : World) (a0_0 : Int) (a0_1 : Int) (w0_0 : (Lit.int .i64 a0_0).wf = true) (w0_1 : (Lit.int .u64 a0_1).wf = true) (a1 : Option Addr) (l1 c1 : Nat) (k1 : (Opn.Lf.slc 51).ok enc Try.prog W 0 (fun _ => true) true (.slice a1 l1 c1)) (y1 : l1 * 16 ≤ 140737488351232) (a2 : Int) (w2 : (Lit.int .i64 a2).wf = true) :
    Calls Try.prog 3 #[.agg #[.int .i64 a0_0, .int .u64 a0_1], .slice a1 l1 c1, .int .i64 a2] W fun e w' => e = .returned (.bool true) ∧ Below W.heap.size W w' := by
  obtain ⟨a, b⟩ := Sat.wf_i64 w0_0
  obtain ⟨c, d⟩ := Sat.wf_u64 w0_1
  obtain ⟨e, f⟩ := Sat.wf_i64 w2
  obtain ⟨L, rfl, hx, hr⟩ := rowO_of_slc (by kernel_rfl) (by kernel_rfl) k1
  exact law_core a0_0 a0_1 a2 L a1 c1 W (by omega) hx hr a b c (by omega) e f
end Go.Proofs.Ytmemafhdondfhaa.C06
