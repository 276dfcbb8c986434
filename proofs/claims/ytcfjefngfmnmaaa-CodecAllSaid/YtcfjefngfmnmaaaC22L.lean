/- What in, May and Put of the reference of chapter 22 return: the same plain values. -/
import Derived.Test.YtcfjefngfmnmaaaC22K
import Derived.Test.YtcfjefngfmnmaaaR02
namespace Go.Proofs.Ytcfjefngfmnmaaa.C22
open Go.RowKit Go.Proofs.Ytcfjefngfmnmaaa Go.Proofs.Ytcfjefngfmnmaaa.Cod
set_option linter.unusedVariables false
set_option linter.unusedSimpArgs false
set_option linter.unnecessarySimpa false
theorem rin_calls (n m : Int) (w : World) (n0 : -9223372036854775808 ≤ n) (n1 : n ≤ 9223372036854775807) :
    Calls Try.prog 27 #[.int .i64 n, .int .i64 m] w fun e w' => e = .returned (.bool (within n m)) ∧ w = w' := by
  by_cases h : 0 ≤ n
  · go_enter Try.func27, Try.ntmps27
    go_wp2_with fail
    go_ret
    exact ⟨ret_bool (by unfold within; simp [h]), rfl⟩
  · go_enter Try.func27, Try.ntmps27
    go_wp2_with fail
    go_ret
    exact ⟨ret_bool (by unfold within; rw [decide_eq_false (by omega)]), rfl⟩
set_option maxHeartbeats 4000000 in
theorem rmay_calls (e : Ev) (A : Option Addr) (c : Nat) (w : World) (he : Hid e.Fits) (hl : e.vals.length ≤ 1000000) (hr : RowI w A e.vals) :
    Calls Try.prog 14 #[.agg (evF e A c)] w fun x w' => x = .returned (.bool (may e)) ∧ Below w.heap.size w w' := by
  have Hr := hid hr
  have hli : (e.vals.length : Int) ≤ 1000000 := by omega
  have I0 := hid (fun w => rin_calls e.id 1000 w he.out.id.1 he.out.id.2)
  have I1 := hid (fun w => rin_calls e.dep 3 w he.out.dep.1 he.out.dep.2)
  have I2 := hid (fun w => rin_calls e.scope 9 w he.out.scope.1 he.out.scope.2)
  have I3 := hid (fun w => rin_calls e.arg 99 w he.out.arg.1 he.out.arg.2)
  have I4 := hid (fun w => rin_calls e.step 3 w he.out.step.1 he.out.step.2)
  have hk := he.out.kind
  obtain ⟨k0, k1⟩ := hk
  have hm : Hid (may e = (e.vals.all short && (decide (1 ≤ e.kind ∧ e.kind ≤ 6) && (decide ((e.vals.length : Int) ≤ 8) && (within e.id 1000 && (within e.dep 3 && (within e.scope 9 && (within e.arg 99 && within e.step 3)))))))) := hid rfl
  generalize may e = r at *
  generalize within e.id 1000 = b0 at *
  generalize within e.dep 3 = b1 at *
  generalize within e.scope 9 = b2 at *
  generalize within e.arg 99 = b3 at *
  generalize within e.step 3 = b4 at *
  clear hr
  go_enter Try.func14, Try.ntmps14
  by_cases h1 : e.kind < 1
  · go_wp2_with fail
    go_ret
    exact ⟨ret_bool (by rw [hm.out, decide_eq_false (show ¬ (1 ≤ e.kind ∧ e.kind ≤ 6) by omega)]; simp), grow _ _⟩
  by_cases h2 : 6 < e.kind
  · go_wp2_with fail
    go_ret
    exact ⟨ret_bool (by rw [hm.out, decide_eq_false (show ¬ (1 ≤ e.kind ∧ e.kind ≤ 6) by omega)]; simp), grow _ _⟩
  by_cases h3 : 8 < (e.vals.length : Int)
  · go_wp2_with fail
    go_ret
    exact ⟨ret_bool (by rw [hm.out, decide_eq_false (show ¬ (e.vals.length : Int) ≤ 8 by omega)]; simp), grow _ _⟩
  rw [decide_eq_true (show 1 ≤ e.kind ∧ e.kind ≤ 6 by omega), Bool.true_and, decide_eq_true (show (e.vals.length : Int) ≤ 8 by omega), Bool.true_and] at hm
  go_wp2_with fail
  go_loop [3] (fun i => ∃ k : Nat, k ≤ e.vals.length ∧ i = .int .i64 k ∧ ∀ j, j < k → short (e.vals.getD j 0) = true) (fun i => e.vals.length - (intOf i).toNat)
  case atStart => exact ⟨0, Nat.zero_le _, rfl, fun j hj => absurd hj (Nat.not_lt_zero _)⟩
  case round =>
    obtain ⟨k, hk, rfl, hpre⟩ := hrel
    have Hpre := hid hpre
    clear hpre
    by_cases hlt : k < e.vals.length
    · obtain ⟨b, o, rfl, hc0⟩ := Hr.out.at hlt
      have hc := fun ob => cell_of (grow w ob) hc0
      have hv := he.out.vals (e.vals.getD k 0) (by rw [List.getD_eq_getElem?_getD, List.getElem?_eq_getElem hlt]; exact List.getElem_mem hlt)
      have Hn := hid fun w => C02.rnarrow_calls (e.vals.getD k 0) hv.1 hv.2 w
      have hs := short_iff (e.vals.getD k 0)
      have Hs := hid hs
      have hlti : (k : Int) < e.vals.length := by omega
      obtain ⟨v0, v1⟩ := hv
      clear hc0 hs
      have Hx : Hid (short (e.vals.getD k 0) = false → r = false) := by
        intro h
        rw [hm.out, List.all_eq_false.2 ⟨e.vals.getD k 0, by rw [List.getD_eq_getElem?_getD, List.getElem?_eq_getElem hlt]; exact List.getElem_mem hlt, by rw [h]; simp⟩]
        rfl
      generalize hvv : e.vals.getD k 0 = v at *
      have Hvv := hid hvv
      clear hvv
      rw [← Hs.out] at Hn
      cases hsv : short v with
      | true =>
        rw [hsv] at Hn
        go_wp2_with fail
        refine (Hn.out _).mono ?_
        rintro e w' ⟨rfl, rfl⟩
        go_wp2_with fail
        go_round
        case rel => exact ⟨k + 1, by omega, by go_num, fun j hj => by
          rcases Nat.lt_or_eq_of_le (Nat.lt_succ_iff.1 hj) with h | rfl
          · exact Hpre.out j h
          · rw [Hvv.out]; exact hsv⟩
        case measure => simp [intOf]; omega
      | false =>
        rw [hsv] at Hn
        go_wp2_with fail
        refine (Hn.out _).mono ?_
        rintro e w' ⟨rfl, rfl⟩
        go_wp2_with fail
        go_ret
        exact ⟨ret_bool (Hx.out hsv).symm, grow _ _⟩
    · have hall : e.vals.all short = true := by
        rw [List.all_eq_true]
        intro v hv
        obtain ⟨i, hi, rfl⟩ := List.getElem_of_mem hv
        have := Hpre.out i (by omega)
        rwa [List.getD_eq_getElem?_getD, List.getElem?_eq_getElem hi] at this
      have hkl : (k : Int) = e.vals.length := by omega
      rw [hall, Bool.true_and] at hm
      clear hall
      go_wp2_with fail
      refine (I0.out _).mono ?_
      rintro e w' ⟨rfl, rfl⟩
      cases b0
      · go_wp2_with fail
        go_ret
        exact ⟨ret_bool (by rw [hm.out]; rfl), grow _ _⟩
      go_wp2_with fail
      refine (I1.out _).mono ?_
      rintro e w' ⟨rfl, rfl⟩
      cases b1
      · go_wp2_with fail
        go_ret
        exact ⟨ret_bool (by rw [hm.out]; rfl), grow _ _⟩
      go_wp2_with fail
      refine (I2.out _).mono ?_
      rintro e w' ⟨rfl, rfl⟩
      cases b2
      · go_wp2_with fail
        go_ret
        exact ⟨ret_bool (by rw [hm.out]; rfl), grow _ _⟩
      go_wp2_with fail
      refine (I3.out _).mono ?_
      rintro e w' ⟨rfl, rfl⟩
      cases b3
      · go_wp2_with fail
        go_ret
        exact ⟨ret_bool (by rw [hm.out]; rfl), grow _ _⟩
      go_wp2_with fail
      refine (I4.out _).mono ?_
      rintro e w' ⟨rfl, rfl⟩
      cases b4
      · go_wp2_with fail
        go_ret
        exact ⟨ret_bool (by rw [hm.out]; rfl), grow _ _⟩
      · go_wp2_with fail
        go_ret
        exact ⟨ret_bool (by rw [hm.out]; rfl), grow _ _⟩
set_option maxRecDepth 20000 in
set_option maxHeartbeats 8000000 in
theorem rput_core (e : Ev) (A : Option Addr) (c : Nat) (w : World) (he : Hid e.Fits) (hr : RowI w A e.vals) (hm : May e) (hmay : may e = true) :
    Calls Try.prog 16 #[.agg (evF e A c)] w fun x w' => x = .returned (.string (strOfNums (put e))) ∧ Below w.heap.size w w' := by
  have Hr := hid hr
  obtain ⟨i0, i1, i2, i3, i4⟩ := infoB
  obtain ⟨_, hlen, ⟨k0, k1⟩, ⟨id0, id1⟩, ⟨d0, d1⟩, ⟨s0, s1⟩, ⟨a0, a1⟩, ⟨t0, t1⟩⟩ := hm
  have hli : (e.vals.length : Int) ≤ 8 := by omega
  have Hmay := hid fun w (hr : RowI w A e.vals) => rmay_calls e A c w he (by omega) hr
  rw [hmay] at Hmay
  have hn := he.out.n
  have hn0 : 0 ≤ (e.n : Int) := by omega
  have hn1 : (e.n : Int) ≤ 18446744073709551615 := by omega
  have Hbytes := hid fun x hx w => C02.rbytes_calls x hx w
  have hput := hid (show put e = Cod.bytes e by unfold put; rw [if_pos hmay])
  have wq : e.id.tdiv 256 = e.id / 256 := Int.tdiv_eq_ediv_of_nonneg id0
  have wr : e.id.tmod 256 = e.id % 256 := Int.tmod_eq_emod_of_nonneg id0
  clear hr hmay
  go_enter Try.func16, Try.ntmps16
  go_wp2_with fail
  refine (Hmay.out _ (Hr.out.below (grow _ _))).mono ?_
  rintro x w1 ⟨rfl, hb⟩
  have c0 : w1.cell? ⟨w.heap.size, 0, none⟩ = some (.int .i64 e.kind) := cell_of hb (by simp [go_sem])
  have c1 : w1.cell? ⟨w.heap.size, 1, none⟩ = some (.int .i64 e.id) := cell_of hb (by simp [go_sem])
  have c2 : w1.cell? ⟨w.heap.size, 2, none⟩ = some (.int .i64 e.dep) := cell_of hb (by simp [go_sem])
  have c3 : w1.cell? ⟨w.heap.size, 3, none⟩ = some (.int .i64 e.scope) := cell_of hb (by simp [go_sem])
  have c4 : w1.cell? ⟨w.heap.size, 4, none⟩ = some (.int .i64 e.arg) := cell_of hb (by simp [go_sem])
  have c5 : w1.cell? ⟨w.heap.size, 5, none⟩ = some (.int .i64 e.step) := cell_of hb (by simp [go_sem])
  have c6 : w1.cell? ⟨w.heap.size, 6, none⟩ = some (.int .u64 e.n) := cell_of hb (by simp [go_sem])
  have d7 : w1.cell? ⟨w.heap.size, 7, none⟩ = some (.bool e.ok) := cell_of hb (by simp [go_sem])
  have d8 : w1.cell? ⟨w.heap.size, 8, none⟩ = some (.slice A e.vals.length c) := cell_of hb (by simp [go_sem])
  have g6 := fun o => cell_of (grow w1 o) c6
  have Hb := hid (via (grow w _) hb)
  have H1 := hid (Hr.out.below (via (grow w _) hb))
  clear hb
  go_wp2_with fail
  refine (Hbytes.out e.n hn _).mono ?_
  rintro x w2 ⟨rfl, hb⟩
  have HB2 := hid (via (grow w1 _) hb)
  have O2 : Hid (w2.ownsRow w1.heap.size 5 1 (.slice (some ⟨w1.heap.size, 0, none⟩) 7 7) 7 (cells (head e))) := by
    refine hid (owns_below ⟨rfl, .inr ⟨w1.heap.size, 7, _, rfl, Nat.le_refl _, heap_alloc_new _ _, Nat.le_refl _, by unfold maxLen; omega, rfl, rfl⟩⟩ hb)
  have hlt2 : w1.heap.size < w2.heap.size := by have := hb.size; simp at this; omega
  rw [b8_cells]
  obtain ⟨BA, hBA⟩ : ∃ Z : Array Value, Hid (Z = (cells (b8 e.n)).toArray) := ⟨_, hid rfl⟩
  obtain ⟨ZA, hZA⟩ : ∃ Z : Array Value, Hid (Z = (cells [0, 0, 0, 0, 0, 0, 0, 0]).toArray) := ⟨_, hid rfl⟩
  have hz : ∀ w, (zeroValue 54).run Try.prog w = .ok (.agg ZA) w := by
    intro w
    rw [hZA.out]
    kernel_rfl
  have hst : ∀ w : World, Sem.run Try.prog (storeCells ⟨w.heap.size, 0, none⟩ BA.toList) (w.alloc (.cells ZA 54 (0, 0))) = .ok () (w.alloc (.cells BA 54 (0, 0))) := by
    intro w
    exact run_storeCells_new w _ ZA BA (by rw [hBA.out]; kernel_rfl) (by rw [hBA.out, hZA.out]; rfl) (by rw [hBA.out]; exact all_oneCell_toArray (cells_one _))
  have hBs : BA.size = 8 := by rw [hBA.out]; rfl
  rw [← hBA.out]
  clear hb
  go_wp2_with (refine wpList_append_own _ rfl _ _ 49 rfl w1.heap.size 5 i0 (.int .u8 0) 1 1 Try.underlying49 i1 i2 i3 i4 rfl (by decide) (.slice (some ⟨w1.heap.size, 0, none⟩) 7 7) 7 (cells (head e)) rfl (O2.out.alloc _) ⟨w2.heap.size, 0, none⟩ 8 8 (cells (b8 e.n)) rfl rfl ?c1 (cells_one _) ?c3 ?c4 ?c5 ?_)
  case c1 =>
    intro j z hj
    rw [Addr.add_mid]
    exact range_new w2 BA 54 j z (by rw [hBA.out]; exact hj)
  case c3 => unfold maxLen; omega
  case c4 => omega
  case c5 => have := HB2.out.size; simp; omega
  intro v1 w5 hown hgrow _
  have B5 := hid (below_grown (HB2.out.alloc HB2.out.size _) hgrow (fun g hg => (O2.out.lt g hg).1))
  have O5 := hid hown
  have e7 := cell_of B5.out d7
  have e8 := cell_of B5.out d8
  have wl : IntKind.u8.wrap (e.vals.length : Int) = (e.vals.length : Int) := by simp [IntKind.wrap, IntKind.bits, IntKind.signed]; omega
  have hpre : Hid (head e ++ b8 e.n ++ [flag e.ok, (e.vals.length : Int)] ++ tail e.vals = put e) := by
    show _ = _
    rw [hput.out]
    rfl
  have d8' := hid d8
  clear hown hgrow c0 c1 c2 c3 c4 c5 c6 g6 hst hz hBs d7 d8 wq wr
  generalize e.ok = ok at *
  obtain ⟨fl, hfl⟩ : ∃ fl, flag ok = fl := ⟨_, rfl⟩
  rw [hfl] at hpre
  have hflv : (ok = true → fl = 1) ∧ (ok = false → fl = 0) := by rw [← hfl]; unfold flag; cases ok <;> simp
  have Hflv := hid hflv
  clear hfl hflv
  have key : Hid (∀ (w6 : World) (v2 : Value), w6.ownsRow w1.heap.size 5 1 v2 17 (cells (head e) ++ cells (b8 e.n) ++ [.int .u8 fl, .int .u8 (e.vals.length : Int)]) → Below w1.heap.size w1 w6 → w6.ownsRow w1.heap.size 5 1 v2 (17 + 4 * 0) (cells (head e ++ b8 e.n ++ [fl, (e.vals.length : Int)] ++ tail (e.vals.take 0))) ∧ w6.cell? ⟨w.heap.size, 8, none⟩ = some (.slice A e.vals.length c)) := by
    refine hid fun w6 v2 h1 h2 => ⟨?_, cell_of h2 d8'.out⟩
    rw [List.take_zero, show tail [] = [] from rfl, List.append_nil, cells_append, cells_append]
    exact h1
  cases ok
  · obtain rfl : fl = 0 := Hflv.out.2 rfl
    have P2 := hid (range_new w5 #[.int .u8 0, .int .u8 (e.vals.length : Int)] 5)
    go_wp2_with (refine wpList_append_own _ rfl _ _ 49 rfl w1.heap.size 5 i0 (.int .u8 0) 1 1 Try.underlying49 i1 i2 i3 i4 rfl (by decide) v1 15 (cells (head e) ++ cells (b8 e.n)) rfl (O5.out.alloc _) ⟨w5.heap.size, 0, none⟩ 2 2 [.int .u8 0, .int .u8 (e.vals.length : Int)] rfl rfl ?p1 ?p2 ?p3 ?p4 ?p5 ?_)
    case p2 => exact ⟨rfl, rfl⟩
    case p3 => unfold maxLen; omega
    case p5 => have := B5.out.size; simp; omega
    intro v2 w6 hown2 hgrow2 _
    have B6 := hid (below_grown (B5.out.alloc B5.out.size _) hgrow2 (fun g hg => (O5.out.lt g hg).1))
    have OG := hid (key.out w6 v2 hown2 B6.out).1
    have e8' := (key.out w6 v2 hown2 B6.out).2
    obtain ⟨pre, hpr⟩ : ∃ pre : List Int, head e ++ b8 e.n ++ [0, (e.vals.length : Int)] = pre := ⟨_, rfl⟩
    rw [hpr] at OG hpre
    clear hpr hown2 hgrow2 key Hflv P2 e7 e8
    as_aux_lemma =>
      go_wp2_with fail
      go_loopw [3, 6, 7] (fun s i _ wr => ∃ (k : Nat) (v : Value), s = v ∧ k ≤ e.vals.length ∧ i = .int .i64 k ∧ wr.ownsRow w1.heap.size 5 1 v (17 + 4 * k) (cells (pre ++ tail (e.vals.take k))) ∧ Below w1.heap.size w1 wr) (fun _ i _ _ => e.vals.length - (intOf i).toNat)
      case atStart => exact ⟨0, _, rfl, Nat.zero_le _, rfl, OG.out, B6.out⟩
      case round =>
        obtain ⟨k, v, hv, hk, rfl, hO, hB⟩ := hrel
        have hv' := hv.symm
        clear hv
        subst hv'
        have HO := hid hO
        have HB := hid hB
        have r8 : wr.cell? ⟨w.heap.size, 8, none⟩ = some (.slice A e.vals.length c) := cell_of hB d8'.out
        clear hO hB e8'
        by_cases hlt : k < e.vals.length
        · obtain ⟨b, o, rfl, hc0⟩ : ∃ b o, A = some ⟨b, o, none⟩ ∧ wr.cell? ⟨b, o + k, none⟩ = some (.int .i64 (e.vals.getD k 0)) := by
            rcases H1.out.below HB.out with h | ⟨b, o, rfl, h⟩
            · rw [h] at hlt; exact absurd hlt (Nat.not_lt_zero _)
            · exact ⟨b, o, rfl, h k hlt⟩
          have hvb := he.out.vals (e.vals.getD k 0) (by rw [List.getD_eq_getElem?_getD, List.getElem?_eq_getElem hlt]; exact List.getElem_mem hlt)
          have hs := hid (tail_succ e.vals k hlt)
          have hwr := wrap_u64 (e.vals.getD k 0)
          have hul := u64_lt (e.vals.getD k 0)
          have hlti : (k : Int) < e.vals.length := by omega
          obtain ⟨v0, v1⟩ := hvb
          generalize e.vals.getD k 0 = y at *
          have hub := hid hul
          generalize Cod.u64 y = u at *
          clear hul
          go_wp2_with fail
          refine (Hbytes.out u hub.out _).mono ?_
          rintro x w4 ⟨rfl, hb4⟩
          have O4 := hid (owns_below HO.out hb4)
          have B4' := hid (via HB.out hb4)
          rw [b8_cells]
          obtain ⟨BA, hBA⟩ : ∃ Z : Array Value, Hid (Z = (cells (b8 u)).toArray) := ⟨_, hid rfl⟩
          obtain ⟨ZA, hZA⟩ : ∃ Z : Array Value, Hid (Z = (cells [0, 0, 0, 0, 0, 0, 0, 0]).toArray) := ⟨_, hid rfl⟩
          have hz : ∀ w, (zeroValue 54).run Try.prog w = .ok (.agg ZA) w := by
            intro w
            rw [hZA.out]
            kernel_rfl
          have hst : ∀ w : World, Sem.run Try.prog (storeCells ⟨w.heap.size, 0, none⟩ BA.toList) (w.alloc (.cells ZA 54 (0, 0))) = .ok () (w.alloc (.cells BA 54 (0, 0))) := by
            intro w
            exact run_storeCells_new w _ ZA BA (by rw [hBA.out]; kernel_rfl) (by rw [hBA.out, hZA.out]; rfl) (by rw [hBA.out]; exact all_oneCell_toArray (cells_one _))
          have hBs : BA.size = 8 := by rw [hBA.out]; rfl
          rw [← hBA.out]
          clear hb4 hc0
          go_wp2_with (refine wpList_append_own _ rfl _ _ 49 rfl w1.heap.size 5 i0 (.int .u8 0) 1 1 Try.underlying49 i1 i2 i3 i4 rfl (by decide) v (17 + 4 * k) (cells (pre ++ tail (e.vals.take k))) rfl (O4.out.alloc _) ⟨w4.heap.size, 4, none⟩ 4 4 (cells (b4 u)) rfl rfl ?q1 (cells_one _) ?q3 ?q4 ?q5 ?_)
          case q1 =>
            intro j z hj
            rw [Addr.add_mid]
            have h8 := range_new w4 BA 54 (4 + j) z (by
              rw [hBA.out]
              have hj4 := (List.getElem?_eq_some_iff.1 hj).1
              match j, hj with
              | 0, hj => exact hj
              | 1, hj => exact hj
              | 2, hj => exact hj
              | 3, hj => exact hj)
            rw [Nat.zero_add] at h8
            exact h8
          case q3 => unfold maxLen; omega
          case q4 => omega
          case q5 => have := B4'.out.size; simp; omega
          intro v' w5 hown hgrow _
          have O5 : Hid (w5.ownsRow w1.heap.size 5 1 v' (17 + 4 * (k + 1)) (cells (pre ++ tail (e.vals.take (k + 1))))) := by
            show World.ownsRow _ _ _ _ _ _ _
            rw [hs.out, ← List.append_assoc, cells_append, show 17 + 4 * (k + 1) = 17 + 4 * k + 4 from by omega]
            exact hown
          have B5 := hid (below_grown (B4'.out.alloc B4'.out.size _) hgrow (fun g hg => (O4.out.lt g hg).1))
          clear hown hgrow
          go_wp2_with fail
          go_roundw
          case rel => exact ⟨k + 1, _, rfl, by omega, by go_num, O5.out, B5.out⟩
          case measure => simp [intOf]; omega
        · obtain rfl : k = e.vals.length := by omega
          rw [List.take_length, hpre.out] at HO
          have hconv : ∃ g cap, v = .slice (some ⟨g, 0, none⟩) (17 + 4 * e.vals.length) cap ∧ wr.rangeAt g 0 (cells (put e)) ∧ (put e).length = 17 + 4 * e.vals.length := by
            have h := HO.out
            rcases h.2 with ⟨_, h0⟩ | ⟨g, cap, cur, hvv, _⟩
            · omega
            · refine ⟨g, cap, hvv, fun j z hj => ?_, by have := h.1; unfold cells at this; simpa using this⟩
              have := h.cells (g := g) (by rw [hvv]; rfl) j z hj
              rw [Addr.add_mid] at this
              exact this
          obtain ⟨g, cap, rfl, hrg, hpl⟩ := hconv
          have hcv := run_convert_bytes_arg (w := wr) 49 5 Try.underlying49 Try.underlying5 g 0 (17 + 4 * e.vals.length) cap (put e) hpl (fun i hi => by
            apply hrg
            unfold cells
            rw [List.getElem?_map, List.getElem?_eq_getElem (by omega), List.getD_eq_getElem?_getD, List.getElem?_eq_getElem (by omega)]
            rfl) 9 Try.underlying9
          clear hrg
          obtain ⟨S, hS⟩ : ∃ S, Hid (S = strOfNums (put e)) := ⟨_, hid rfl⟩
          rw [← hS.out] at hcv
          go_wp2_with fail
          go_ret
          exact ⟨by show Ending.returned (Value.string S) = _; rw [hS.out], (Hb.out.trans (HB.out.mono Hb.out.size))⟩
  · obtain rfl : fl = 1 := Hflv.out.1 rfl
    have P2 := hid (range_new w5 #[.int .u8 1, .int .u8 (e.vals.length : Int)] 5)
    go_wp2_with (refine wpList_append_own _ rfl _ _ 49 rfl w1.heap.size 5 i0 (.int .u8 0) 1 1 Try.underlying49 i1 i2 i3 i4 rfl (by decide) v1 15 (cells (head e) ++ cells (b8 e.n)) rfl (O5.out.alloc _) ⟨w5.heap.size, 0, none⟩ 2 2 [.int .u8 1, .int .u8 (e.vals.length : Int)] rfl rfl ?r1 ?r2 ?r3 ?r4 ?r5 ?_)
    case r2 => exact ⟨rfl, rfl⟩
    case r3 => unfold maxLen; omega
    case r5 => have := B5.out.size; simp; omega
    intro v2 w6 hown2 hgrow2 _
    have B6 := hid (below_grown (B5.out.alloc B5.out.size _) hgrow2 (fun g hg => (O5.out.lt g hg).1))
    have OG := hid (key.out w6 v2 hown2 B6.out).1
    have e8' := (key.out w6 v2 hown2 B6.out).2
    obtain ⟨pre, hpr⟩ : ∃ pre : List Int, head e ++ b8 e.n ++ [1, (e.vals.length : Int)] = pre := ⟨_, rfl⟩
    rw [hpr] at OG hpre
    clear hpr hown2 hgrow2 key Hflv P2 e7 e8
    as_aux_lemma =>
      go_wp2_with fail
      go_loopw [3, 6, 7] (fun s i _ wr => ∃ (k : Nat) (v : Value), s = v ∧ k ≤ e.vals.length ∧ i = .int .i64 k ∧ wr.ownsRow w1.heap.size 5 1 v (17 + 4 * k) (cells (pre ++ tail (e.vals.take k))) ∧ Below w1.heap.size w1 wr) (fun _ i _ _ => e.vals.length - (intOf i).toNat)
      case atStart => exact ⟨0, _, rfl, Nat.zero_le _, rfl, OG.out, B6.out⟩
      case round =>
        obtain ⟨k, v, hv, hk, rfl, hO, hB⟩ := hrel
        have hv' := hv.symm
        clear hv
        subst hv'
        have HO := hid hO
        have HB := hid hB
        have r8 : wr.cell? ⟨w.heap.size, 8, none⟩ = some (.slice A e.vals.length c) := cell_of hB d8'.out
        clear hO hB e8'
        by_cases hlt : k < e.vals.length
        · obtain ⟨b, o, rfl, hc0⟩ : ∃ b o, A = some ⟨b, o, none⟩ ∧ wr.cell? ⟨b, o + k, none⟩ = some (.int .i64 (e.vals.getD k 0)) := by
            rcases H1.out.below HB.out with h | ⟨b, o, rfl, h⟩
            · rw [h] at hlt; exact absurd hlt (Nat.not_lt_zero _)
            · exact ⟨b, o, rfl, h k hlt⟩
          have hvb := he.out.vals (e.vals.getD k 0) (by rw [List.getD_eq_getElem?_getD, List.getElem?_eq_getElem hlt]; exact List.getElem_mem hlt)
          have hs := hid (tail_succ e.vals k hlt)
          have hwr := wrap_u64 (e.vals.getD k 0)
          have hul := u64_lt (e.vals.getD k 0)
          have hlti : (k : Int) < e.vals.length := by omega
          obtain ⟨v0, v1⟩ := hvb
          generalize e.vals.getD k 0 = y at *
          have hub := hid hul
          generalize Cod.u64 y = u at *
          clear hul
          go_wp2_with fail
          refine (Hbytes.out u hub.out _).mono ?_
          rintro x w4 ⟨rfl, hb4⟩
          have O4 := hid (owns_below HO.out hb4)
          have B4' := hid (via HB.out hb4)
          rw [b8_cells]
          obtain ⟨BA, hBA⟩ : ∃ Z : Array Value, Hid (Z = (cells (b8 u)).toArray) := ⟨_, hid rfl⟩
          obtain ⟨ZA, hZA⟩ : ∃ Z : Array Value, Hid (Z = (cells [0, 0, 0, 0, 0, 0, 0, 0]).toArray) := ⟨_, hid rfl⟩
          have hz : ∀ w, (zeroValue 54).run Try.prog w = .ok (.agg ZA) w := by
            intro w
            rw [hZA.out]
            kernel_rfl
          have hst : ∀ w : World, Sem.run Try.prog (storeCells ⟨w.heap.size, 0, none⟩ BA.toList) (w.alloc (.cells ZA 54 (0, 0))) = .ok () (w.alloc (.cells BA 54 (0, 0))) := by
            intro w
            exact run_storeCells_new w _ ZA BA (by rw [hBA.out]; kernel_rfl) (by rw [hBA.out, hZA.out]; rfl) (by rw [hBA.out]; exact all_oneCell_toArray (cells_one _))
          have hBs : BA.size = 8 := by rw [hBA.out]; rfl
          rw [← hBA.out]
          clear hb4 hc0
          go_wp2_with (refine wpList_append_own _ rfl _ _ 49 rfl w1.heap.size 5 i0 (.int .u8 0) 1 1 Try.underlying49 i1 i2 i3 i4 rfl (by decide) v (17 + 4 * k) (cells (pre ++ tail (e.vals.take k))) rfl (O4.out.alloc _) ⟨w4.heap.size, 4, none⟩ 4 4 (cells (b4 u)) rfl rfl ?s1 (cells_one _) ?s3 ?s4 ?s5 ?_)
          case s1 =>
            intro j z hj
            rw [Addr.add_mid]
            have h8 := range_new w4 BA 54 (4 + j) z (by
              rw [hBA.out]
              have hj4 := (List.getElem?_eq_some_iff.1 hj).1
              match j, hj with
              | 0, hj => exact hj
              | 1, hj => exact hj
              | 2, hj => exact hj
              | 3, hj => exact hj)
            rw [Nat.zero_add] at h8
            exact h8
          case s3 => unfold maxLen; omega
          case s4 => omega
          case s5 => have := B4'.out.size; simp; omega
          intro v' w5 hown hgrow _
          have O5 : Hid (w5.ownsRow w1.heap.size 5 1 v' (17 + 4 * (k + 1)) (cells (pre ++ tail (e.vals.take (k + 1))))) := by
            show World.ownsRow _ _ _ _ _ _ _
            rw [hs.out, ← List.append_assoc, cells_append, show 17 + 4 * (k + 1) = 17 + 4 * k + 4 from by omega]
            exact hown
          have B5 := hid (below_grown (B4'.out.alloc B4'.out.size _) hgrow (fun g hg => (O4.out.lt g hg).1))
          clear hown hgrow
          go_wp2_with fail
          go_roundw
          case rel => exact ⟨k + 1, _, rfl, by omega, by go_num, O5.out, B5.out⟩
          case measure => simp [intOf]; omega
        · obtain rfl : k = e.vals.length := by omega
          rw [List.take_length, hpre.out] at HO
          have hconv : ∃ g cap, v = .slice (some ⟨g, 0, none⟩) (17 + 4 * e.vals.length) cap ∧ wr.rangeAt g 0 (cells (put e)) ∧ (put e).length = 17 + 4 * e.vals.length := by
            have h := HO.out
            rcases h.2 with ⟨_, h0⟩ | ⟨g, cap, cur, hvv, _⟩
            · omega
            · refine ⟨g, cap, hvv, fun j z hj => ?_, by have := h.1; unfold cells at this; simpa using this⟩
              have := h.cells (g := g) (by rw [hvv]; rfl) j z hj
              rw [Addr.add_mid] at this
              exact this
          obtain ⟨g, cap, rfl, hrg, hpl⟩ := hconv
          have hcv := run_convert_bytes_arg (w := wr) 49 5 Try.underlying49 Try.underlying5 g 0 (17 + 4 * e.vals.length) cap (put e) hpl (fun i hi => by
            apply hrg
            unfold cells
            rw [List.getElem?_map, List.getElem?_eq_getElem (by omega), List.getD_eq_getElem?_getD, List.getElem?_eq_getElem (by omega)]
            rfl) 9 Try.underlying9
          clear hrg
          obtain ⟨S, hS⟩ : ∃ S, Hid (S = strOfNums (put e)) := ⟨_, hid rfl⟩
          rw [← hS.out] at hcv
          go_wp2_with fail
          go_ret
          exact ⟨by show Ending.returned (Value.string S) = _; rw [hS.out], (Hb.out.trans (HB.out.mono Hb.out.size))⟩
theorem rput_calls (e : Ev) (A : Option Addr) (c : Nat) (w : World) (he : Hid e.Fits) (hl : e.vals.length ≤ 1000000) (hr : RowI w A e.vals) :
    Calls Try.prog 16 #[.agg (evF e A c)] w fun x w' => x = .returned (.string (strOfNums (put e))) ∧ Below w.heap.size w w' := by
  by_cases hm : may e = true
  · exact rput_core e A c w he hr ((may_iff e).1 hm) hm
  · have Hmay := hid fun w (hr : RowI w A e.vals) => rmay_calls e A c w he hl hr
    have Hr := hid hr
    replace hm : may e = false := by simpa using hm
    rw [hm] at Hmay
    have hp : Hid (put e = []) := by show _ = _; unfold put; rw [hm]; rfl
    clear hr hm
    go_enter Try.func16, Try.ntmps16
    go_wp2_with fail
    refine (Hmay.out _ (Hr.out.below (grow _ _))).mono ?_
    rintro x w1 ⟨rfl, hb⟩
    have Hb := hid (via (grow w _) hb)
    clear hb
    go_wp2_with fail
    go_ret
    exact ⟨by rw [hp.out]; rfl, Hb.out⟩
end Go.Proofs.Ytcfjefngfmnmaaa.C22
