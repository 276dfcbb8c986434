/- The walk of the law HealthWindow. -/
import Derived.Test.YtiplgihdgckbaaaC16H
import Derived.Test.YtiplgihdgckbaaaC06P
namespace Go.Proofs.Ytiplgihdgckbaaa.C16
open Go.RowKit Go.Proofs.Ytiplgihdgckbaaa Go.Proofs.Ytiplgihdgckbaaa.Win
set_option linter.unusedVariables false
set_option linter.unusedSimpArgs false
set_option linter.unnecessarySimpa false
attribute [local go_sem] C01.max2_mx C01.min2_mn C01.max_two C01.min_two
def ev (W : Int) (e : E) : Ev := ⟨e.1 / W, e.2.toNat, 1⟩
/-- The window holds what was done, and no more, at a time. -/
structure Same (V : Win) (D : List E) (B W now : Int) : Prop where
  holds : Holds V (D.map (ev W))
  n : V.n = B
  width : V.width = W
  cur : 0 ≤ V.now ∧ V.now ≤ now
  ok : ∀ e ∈ D, 0 ≤ e.1 ∧ e.1 ≤ now ∧ 0 ≤ e.2 ∧ e.2 < 5
theorem Same.later {V : Win} {D : List E} {B W now u : Int} (h : Same V D B W now) (hu : now ≤ u) : Same V D B W u :=
  ⟨h.holds, h.n, h.width, ⟨h.cur.1, Int.le_trans h.cur.2 hu⟩, fun e he => by have := h.ok e he; omega⟩
theorem Same.time {V : Win} {D : List E} {B W now : Int} (h : Same V D B W now) : V.time now = now := by
  unfold Win.time Sat.mx
  have := h.cur
  split <;> omega
theorem Same.bkt {V : Win} {D : List E} {B W now : Int} (h : Same V D B W now) : V.bkt now = now / W := by unfold Win.bkt; rw [h.time, h.width]
theorem Same.tick {V : Win} {D : List E} {B W now : Int} (h : Same V D B W now) (n1 : now ≤ 18446744073709551615) : Same (V.tick now) D B W now := by
  have := h.cur
  refine ⟨h.holds.tick (by omega) n1, h.n, h.width, ?_, h.ok⟩
  show 0 ≤ V.time now ∧ V.time now ≤ now
  rw [h.time]
  omega
theorem Same.add {V : Win} {D : List E} {B W now : Int} (h : Same V D B W now) (n1 : now ≤ 18446744073709551615) (j : Nat) (hj : j < 5) : Same (V.add now j 1) (D ++ [(now, (j : Int))]) B W now := by
  have hn := h.cur
  have := h.holds.add (t := now) (by omega) n1 j (v := 1) (by omega)
  rw [h.bkt] at this
  refine ⟨?_, h.n, h.width, ?_, ?_⟩
  · rw [List.map_append]
    exact this
  · show 0 ≤ V.time now ∧ V.time now ≤ now
    rw [h.time]
    omega
  · intro e he
    rcases List.mem_append.1 he with he | he
    · exact h.ok e he
    · rw [List.mem_singleton] at he
      subst he
      exact ⟨show 0 ≤ now by omega, show now ≤ now by omega, show (0 : Int) ≤ (j : Int) by omega, show (j : Int) < 5 by omega⟩
theorem tot_counts (D : List E) (B W now : Int) (k : Nat) (W0 : 1 ≤ W) (hok : ∀ e ∈ D, 0 ≤ e.1 ∧ e.1 ≤ now ∧ 0 ≤ e.2 ∧ e.2 < 5) : tot (D.map (ev W)) (fun e => decide (e.k = k ∧ now / W - B < e.q)) = ofN D now B W k := by
  unfold ofN
  induction D with
  | nil => rfl
  | cons e D ih =>
    have he := hok e List.mem_cons_self
    have hle : e.1 / W ≤ now / W := Int.ediv_le_ediv (by omega) he.2.1
    rw [List.map_cons, tot_cons, ih fun x hx => hok x (List.mem_cons_of_mem _ hx), List.countP_cons]
    have hiff : (decide ((ev W e).k = k ∧ now / W - B < (ev W e).q) = true) ↔ counts now B W k e = true := by
      unfold counts ev
      simp only [decide_eq_true_eq]
      constructor
      · rintro ⟨h1, h2⟩; exact ⟨by omega, hle, by omega⟩
      · rintro ⟨h1, h2, h3⟩; exact ⟨by omega, by omega⟩
    by_cases hc : counts now B W k e = true
    · rw [if_pos (hiff.2 hc), if_pos hc]
      show (1 : Int) + _ = _
      omega
    · rw [if_neg (fun h => hc (hiff.1 h)), if_neg hc]
      omega
theorem Same.told {V : Win} {D : List E} {B W now : Int} (h : Same V D B W now) (n1 : now ≤ 18446744073709551615) (hl : D.length ≤ 1000000) (k : Nat) : V.told now k = ofN D now B W k := by
  have hn := h.cur
  have hw := h.holds.ok.w1
  rw [h.width] at hw
  rw [h.holds.told (by omega) n1 k, h.bkt, h.n, tot_counts D B W now k hw h.ok]
  have := ofN_in D now B W k
  exact C06.cap_id (by omega)
theorem Same.fresh {B W : Int} (n1 : 1 ≤ B) (n8 : B ≤ 8) (w1 : 1 ≤ W) (w2 : W ≤ 1099511627776) : Same (C06.fresh B W) [] B W 0 :=
  ⟨C06.holds_fresh n1 n8 w1 w2, rfl, rfl, by show (0 : Int) ≤ 0 ∧ (0 : Int) ≤ 0; omega, fun e he => absurd he List.not_mem_nil⟩
theorem infoR : ∃ i, Try.prog.info? 52 = some i ∧ i.zero = some (.agg #[.int .u64 0, .int .i64 0]) ∧ i.size = 2 ∧ i.bytes = 16 := by
  have h : (Try.prog.info? 52).map (fun i => (i.zero, i.size, i.bytes)) = some (some (.agg #[.int .u64 0, .int .i64 0]), 2, 16) := by kernel_rfl
  cases hq : Try.prog.info? 52 with
  | none => rw [hq] at h; exact absurd h (by simp)
  | some i => rw [hq] at h; simp at h; exact ⟨i, rfl, h.1, h.2.1, h.2.2⟩
theorem owns_only {w w' : World} {base Bk : Nat} {T : TypeId} {v : Value} {n : Nat} {xs : List Value} (h : w.ownsRow base T 2 v n xs) (ho : C06.Only Bk w w') (hb : Bk < base) : w'.ownsRow base T 2 v n xs := by
  refine h.kept (row := some Bk) ⟨ho.os, ho.tape, ho.output, ho.size, fun k hk hne => ho.block k hk (fun e => hne (by rw [e]))⟩ ?_
  rcases hq : v.ownBlock with _ | g
  · exact .inl rfl
  · right
    intro e
    injection e with e
    have := (h.lt g hq).1
    omega
theorem owns_below {w w' : World} {base : Nat} {T : TypeId} {v : Value} {n : Nat} {xs : List Value} (h : w.ownsRow base T 2 v n xs) (hb : Below w.heap.size w w') : w'.ownsRow base T 2 v n xs := by
  refine h.kept (row := none) ⟨hb.os, hb.tape, hb.output, hb.size, fun k hk _ => hb.block k hk⟩ ?_
  rcases hq : v.ownBlock with _ | g
  · exact .inl rfl
  · right; simp
theorem has_grown {base w w' : World} {Bk bs : Nat} {V : Win} {T : TypeId} {v : Value} {n : Nat} {xs : List Value} (h : C06.Has base Bk V w) (ho : w.ownsRow bs T 2 v n xs) (hg : w.grownBy w' v.ownBlock) (hb : Bk < bs) : C06.Has base Bk V w' := by
  have hne : some Bk ≠ v.ownBlock := by
    intro e
    have := (ho.lt Bk e.symm).1
    omega
  refine ⟨h.here.same (hg.block Bk h.lt hne), h.ok, Nat.lt_of_lt_of_le h.lt hg.size, h.ge, below_grown h.below hg fun g hgq => ?_⟩
  have := (ho.lt g hgq).1
  have := h.ge
  omega
/-- The counts of a window are what the events are told to be. -/
theorem counts_same {base w : World} {Bk : Nat} {V : Win} {D : List E} {B W now : Int} (h : C06.Has base Bk V w) (hs : Same V D B W now) (n1 : now ≤ 18446744073709551615) (hl : D.length ≤ 1000000) :
    Calls Try.prog 24 #[.pointer (some ⟨Bk, 0, none⟩), .int .u64 now] w fun e w' => e = .returned (.agg (vals (ofN D now B W))) ∧ C06.Has base Bk (V.tick now) w' ∧ C06.Only Bk w w' := by
  have hn := hs.cur
  have := C06.counts_has h now (by omega) n1
  rw [hs.told n1 hl, hs.told n1 hl, hs.told n1 hl, hs.told n1 hl, hs.told n1 hl] at this
  exact this
set_option maxHeartbeats 4000000 in
theorem hwin_core (L : List E) (A : Option Addr) (c : Nat) (p0 p1 B W m more : Int) (w : World) (hl : L.length ≤ 8796093022208) (hx : Hid (∀ e ∈ L, EOk e)) (hr : RowE w A L)
    (p00 : 0 ≤ p0) (p01 : p0 ≤ 255) (hm : p0 % 8 = m) (m0 : 0 ≤ m) (m7 : m ≤ 7) (hB : 1 + m = B) (p10 : 0 ≤ p1) (p11 : p1 ≤ 255) (hW : 1 + p1 = W) (o0 : 0 ≤ more) (o1 : more ≤ 65535) :
    Calls Try.prog 8 #[.slice A L.length c, .agg #[.int .u8 p0, .int .u8 p1], .int .u16 more] w fun e w' => e = .returned (.bool true) ∧ Below w.heap.size w w' := by
  have Hr := hid hr
  obtain ⟨i0, i1, i2, i3, i4⟩ := infoR
  have hli : (L.length : Int) ≤ 8796093022208 := by omega
  have B0 : 1 ≤ B ∧ B ≤ 8 := by omega
  have W0 : 1 ≤ W ∧ W ≤ 256 := by omega
  have eqf := fun (f : Nat → Int) (hf : ∀ i, U (f i)) => eq5 (a0 := f 0) (a1 := f 1) (a2 := f 2) (a3 := f 3) (a4 := f 4) (b0 := f 0) (b1 := f 1) (b2 := f 2) (b3 := f 3) (b4 := f 4) ⟨hf 0, hf 1, hf 2, hf 3, hf 4⟩ ⟨hf 0, hf 1, hf 2, hf 3, hf 4⟩ true (by simp)
  have Eqf := hid eqf
  clear hr eqf
  go_enter Try.func8, Try.ntmps8
  go_wp2_with fail
  refine (awake_calls _).mono ?_
  rintro e w1 ⟨rfl, hb⟩
  have c0 : w1.cell? ⟨w.heap.size, 0, none⟩ = some (.int .u8 p0) := cell_of hb (by simp [go_sem])
  have c1 : w1.cell? ⟨w.heap.size, 1, none⟩ = some (.int .u8 p1) := cell_of hb (by simp [go_sem])
  have Hb := hid (via ((Below.refl w.heap.size w).alloc (Nat.le_refl _) _) hb)
  clear hb
  go_wp2_with fail
  refine (C06.new_has w B W w1 Hb.out B0.1 B0.2 W0.1 (by omega)).mono ?_
  rintro e w2 ⟨rfl, h2, _, hz2⟩
  have H2 := hid h2
  have hz := hid hz2
  clear h2 hz2 c0 c1
  go_wp2_with fail
  go_loopw [11, 12, 13] (fun dn nw i wr => ∃ (k : Nat) (v0 : Value) (V : Win) (D : List E) (now : Int), dn = v0 ∧ k ≤ L.length ∧ k ≤ 200 ∧ i = .int .i64 k ∧ nw = .int .u64 now ∧ 0 ≤ now ∧ now ≤ 999 * k ∧ D.length ≤ k ∧ C06.Has w w1.heap.size V wr ∧ wr.ownsRow (w1.heap.size + 1) 52 2 v0 D.length (flat D) ∧ Same V D B W now) (fun _ _ i _ => 200 - (intOf i).toNat)
  case atStart => exact ⟨0, _, _, [], 0, rfl, Nat.zero_le _, Nat.zero_le _, rfl, rfl, Int.le_refl _, by omega, Nat.le_refl _, H2.out, World.ownsRow_nil _ _ _ _, Same.fresh B0.1 B0.2 W0.1 (by omega)⟩
  case round =>
    obtain ⟨k, v, V, D, now, hv, hk, hk2, rfl, rfl, n0, n1, hD, hH, hO, hS⟩ := hrel
    have hv' := hv.symm
    clear hv
    subst hv'
    have HH := hid hH
    have HO := hid hO
    have HS := hid hS
    have hblt : wr.heap.size > w1.heap.size := hH.lt
    clear hH hO hS
    by_cases hin : k < L.length ∧ k < 200
    · obtain ⟨hlt, h200⟩ := hin
      obtain ⟨bb, o, rfl, cx, cy⟩ : ∃ bb o, A = some ⟨bb, o, none⟩ ∧ wr.cell? ⟨bb, o + k * 2, none⟩ = some (.int .u64 (L.getD k (0, 0)).1) ∧ wr.cell? ⟨bb, o + k * 2 + 1, none⟩ = some (.int .i64 (L.getD k (0, 0)).2) := by
        rcases Hr.out.below HH.out.below with rfl | ⟨bb, o, rfl, h⟩
        · exact absurd hlt (Nat.not_lt_zero _)
        · exact ⟨bb, o, rfl, h k hlt⟩
      have hcyw := hid (show ∀ w', C06.Only w1.heap.size wr w' → w'.cell? ⟨bb, o + k * 2 + 1, none⟩ = some (.int .i64 (L.getD k (0, 0)).2) from fun w' ho => by
        have hlow := Hr.out
        have hbw : Below w.heap.size w w' := ho.toBelow HH.out.below HH.out.ge
        rcases hlow.below hbw with rfl | ⟨b2, o2, he, h⟩
        · exact absurd hlt (Nat.not_lt_zero _)
        · injection he with he
          injection he with h1 h2 _
          subst h1 h2
          exact (h k hlt).2)
      have hek : EOk (L.getD k (0, 0)) := by
        rw [List.getD_eq_getElem?_getD, List.getElem?_eq_getElem hlt]
        exact hx.out _ (List.getElem_mem hlt)
      obtain ⟨⟨x0, x1⟩, y0, y1⟩ := hek
      have hlti : (k : Int) < L.length := by omega
      have hlt2 : (k : Int) < 200 := by omega
      generalize (L.getD k (0, 0)).1 = x at *
      generalize (L.getD k (0, 0)).2 = y at *
      obtain ⟨r, hrr⟩ : ∃ r, x % 1000 = r := ⟨_, rfl⟩
      have r0 : 0 ≤ r ∧ r ≤ 999 := by omega
      obtain ⟨r0, r1⟩ := r0
      have s0 : 0 ≤ now + r := by omega
      have s1 : now + r ≤ 200000 := by omega
      have s2 := hid (show now + r ≤ 999 * ((k + 1 : Nat) : Int) from by omega)
      have HS2 := hid (HS.out.later (show now ≤ now + r by omega))
      clear n1
      go_wp2_with fail
      generalize hnw : now + r = nw at *
      clear hnw
      by_cases hy : 0 ≤ y ∧ y < 5
      · obtain ⟨j, rfl⟩ := Int.eq_ofNat_of_zero_le hy.1
        have hj : j < 5 := by omega
        refine (C06.add_has HH.out nw 1 j (by omega) (by omega) hj (by omega) (by omega)).mono ?_
        rintro e w3 ⟨rfl, h3, ho3⟩
        have cy3 := hcyw.out w3 ho3
        have H3 := hid h3
        have O3 := hid (owns_only HO.out ho3 (Nat.lt_succ_self _))
        have S3 := hid (HS2.out.add (by omega) j hj)
        have z3 : w1.heap.size < w3.heap.size := h3.lt
        clear h3 ho3 cx cy
        go_wp2_with (refine wpList_append_own _ rfl _ _ 39 rfl (w1.heap.size + 1) 52 i0 (.agg #[.int .u64 0, .int .i64 0]) 2 16 Try.underlying39 i1 i2 i3 i4 rfl (by decide) v D.length (flat D) rfl (O3.out.alloc _) ⟨w3.heap.size, 0, none⟩ 1 1 [.int .u64 nw, .int .i64 j] rfl rfl ?c1 ?c2 ?c3 ?c4 ?c5 ?_)
        case c1 =>
          intro i u hu
          match i, hu with
          | 0, hu => simp at hu; subst hu; simp [Addr.add, go_sem]
          | 1, hu => simp at hu; subst hu; simp [Addr.add, go_sem]
        case c2 =>
          intro u hu
          simp at hu
          rcases hu with rfl | rfl <;> rfl
        case c3 => unfold maxLen; omega
        case c4 => omega
        case c5 => simp; omega
        intro v' w4 hown hgrow _
        have H4 := hid (has_grown (H3.out.alloc _) (O3.out.alloc _) hgrow (Nat.lt_succ_self _))
        have O4 : Hid (w4.ownsRow (w1.heap.size + 1) 52 2 v' (D ++ [(nw, (j : Int))]).length (flat (D ++ [(nw, (j : Int))]))) := by
          show World.ownsRow _ _ _ _ _ _ _
          rw [show (D ++ [(nw, (j : Int))]).length = D.length + 1 from by simp, show flat (D ++ [(nw, (j : Int))]) = flat D ++ [.int .u64 nw, .int .i64 j] from by unfold flat; rw [List.flatMap_append]; rfl]
          exact hown
        have hD2 : (D ++ [(nw, (j : Int))]).length ≤ k + 1 := by simp; omega
        clear hown hgrow
        generalize D ++ [(nw, (j : Int))] = D2 at *
        generalize V.add nw j 1 = V3 at *
        have hDl : Hid (D2.length ≤ 1000) := hid (by omega)
        obtain ⟨A2, c2, hvA, hrow⟩ := owns_row O4.out
        subst hvA
        go_wp2_with fail
        refine (counts_same H4.out S3.out (by omega) (by omega)).mono ?_
        rintro e w5 ⟨rfl, h5, ho5⟩
        have H5 := hid h5
        have O5 := hid (owns_only O4.out ho5 (Nat.lt_succ_self _))
        obtain ⟨A3, c3, hvA, hrow5⟩ := owns_row O5.out
        injection hvA with e1 e2 e3
        subst e1 e3
        have Hrow5 := hid hrow5
        have hok : Hid (∀ e ∈ D2, EOk e) := fun e he => by
          have := S3.out.ok e he
          exact ⟨⟨by omega, by omega⟩, by omega, by omega⟩
        clear h5 ho5 hrow5 hrow
        go_wp2_with fail
        refine (made_calls D2 A2 c2 w5 (by omega) hok Hrow5.out).mono ?_
        rintro e w6 ⟨A4, c4, rfl, hrow6, hb6⟩
        have Hrow6 := hid hrow6
        have H6 := hid (H5.out.quiet hb6)
        have O6 := hid (owns_below O5.out hb6)
        clear hrow6 hb6
        go_wp2_with fail
        refine (of_calls D2 A4 c4 nw B W w6 (by omega) hok Hrow6.out (by omega) (by omega) B0.1 (by omega) W0.1 (by omega)).mono ?_
        rintro e w7 ⟨rfl, hb7⟩
        have H7 := hid (H6.out.quiet hb7)
        have O7 := hid (owns_below O6.out hb7)
        have eqv := Eqf.out (ofN D2 nw B W) (fun i => by have := ofN_in D2 nw B W i; have := hDl.out; exact ⟨by omega, by omega⟩)
        have S7 := hid (S3.out.tick (show nw ≤ 18446744073709551615 by omega))
        clear hb7
        go_wp2_with fail
        go_roundw
        case rel => exact ⟨k + 1, _, _, D2, nw, rfl, by omega, by omega, by go_num, rfl, by omega, s2.out, hD2, H7.out, O7.out, S7.out⟩
        case measure => simp [intOf]; omega
      · refine (C06.add_none w1.heap.size nw 1 y wr (by omega) y0 y1).mono ?_
        rintro e w' ⟨rfl, rfl⟩
        have H4 := HH
        have O4 := HO
        have S3 := HS2
        have hD2 : D.length ≤ k + 1 := by omega
        have hDl : Hid (D.length ≤ 1000) := hid (by omega)
        clear cx cy
        obtain ⟨A2, c2, hvA, hrow⟩ := owns_row O4.out
        subst hvA
        go_wp2_with fail
        refine (counts_same H4.out S3.out (by omega) (by omega)).mono ?_
        rintro e w5 ⟨rfl, h5, ho5⟩
        have H5 := hid h5
        have O5 := hid (owns_only O4.out ho5 (Nat.lt_succ_self _))
        obtain ⟨A3, c3, hvA, hrow5⟩ := owns_row O5.out
        injection hvA with e1 e2 e3
        subst e1 e3
        have Hrow5 := hid hrow5
        have hok : Hid (∀ e ∈ D, EOk e) := fun e he => by
          have := S3.out.ok e he
          exact ⟨⟨by omega, by omega⟩, by omega, by omega⟩
        clear h5 ho5 hrow5 hrow
        go_wp2_with fail
        refine (made_calls D A2 c2 w5 (by omega) hok Hrow5.out).mono ?_
        rintro e w6 ⟨A4, c4, rfl, hrow6, hb6⟩
        have Hrow6 := hid hrow6
        have H6 := hid (H5.out.quiet hb6)
        have O6 := hid (owns_below O5.out hb6)
        clear hrow6 hb6
        go_wp2_with fail
        refine (of_calls D A4 c4 nw B W w6 (by omega) hok Hrow6.out (by omega) (by omega) B0.1 (by omega) W0.1 (by omega)).mono ?_
        rintro e w7 ⟨rfl, hb7⟩
        have H7 := hid (H6.out.quiet hb7)
        have O7 := hid (owns_below O6.out hb7)
        have eqv := Eqf.out (ofN D nw B W) (fun i => by have := ofN_in D nw B W i; have := hDl.out; exact ⟨by omega, by omega⟩)
        have S7 := hid (S3.out.tick (show nw ≤ 18446744073709551615 by omega))
        clear hb7
        go_wp2_with fail
        go_roundw
        case rel => exact ⟨k + 1, _, _, D, nw, rfl, by omega, by omega, by go_num, rfl, by omega, s2.out, hD2, H7.out, O7.out, S7.out⟩
        case measure => simp [intOf]; omega
    · have H4 := HH
      have n2 : now + more ≤ 18446744073709551615 := by omega
      have n3 : 0 ≤ now + more := by omega
      have S3 := hid (HS.out.later (show now ≤ now + more by omega))
      have mw : IntKind.u64.wrap more = more := Sat.u64_in (by omega) (by omega)
      obtain ⟨A2, c2, hvA, hrow⟩ := owns_row HO.out
      subst hvA
      have hDl : Hid (D.length ≤ 1000) := hid (by omega)
      have hko : k = L.length ∨ (k = 200 ∧ 200 < L.length) := by omega
      rcases hko with hko | ⟨hko, hgt⟩
      · subst hko
        go_wp2_with fail
        refine (counts_same H4.out S3.out n2 (by omega)).mono ?_
        rintro e w5 ⟨rfl, h5, ho5⟩
        have H5 := hid h5
        obtain ⟨A3, c3, hvA, hrow5⟩ := owns_row (owns_only HO.out ho5 (Nat.lt_succ_self _))
        injection hvA with e1 e2 e3
        subst e1 e3
        have Hrow5 := hid hrow5
        have hok : Hid (∀ e ∈ D, EOk e) := fun e he => by
          have := S3.out.ok e he
          exact ⟨⟨by omega, by omega⟩, by omega, by omega⟩
        clear h5 ho5 hrow5
        go_wp2_with fail
        refine (made_calls D A2 c2 w5 (by omega) hok Hrow5.out).mono ?_
        rintro e w6 ⟨A4, c4, rfl, hrow6, hb6⟩
        have Hrow6 := hid hrow6
        have H6 := hid (H5.out.quiet hb6)
        clear hrow6 hb6
        go_wp2_with fail
        refine (of_calls D A4 c4 (now + more) B W w6 (by omega) hok Hrow6.out n3 n2 B0.1 (by omega) W0.1 (by omega)).mono ?_
        rintro e w7 ⟨rfl, hb7⟩
        have H7 := hid (H6.out.quiet hb7)
        have eqv := Eqf.out (ofN D (now + more) B W) (fun i => by have := ofN_in D (now + more) B W i; have := hDl.out; exact ⟨by omega, by omega⟩)
        clear hb7
        go_wp2_with fail
        go_ret
        exact ⟨ret_bool (by simp), H7.out.below⟩
      · subst hko
        have hgti : (200 : Int) < (L.length : Int) := by omega
        go_wp2_with fail
        refine (counts_same H4.out S3.out n2 (by omega)).mono ?_
        rintro e w5 ⟨rfl, h5, ho5⟩
        have H5 := hid h5
        obtain ⟨A3, c3, hvA, hrow5⟩ := owns_row (owns_only HO.out ho5 (Nat.lt_succ_self _))
        injection hvA with e1 e2 e3
        subst e1 e3
        have Hrow5 := hid hrow5
        have hok : Hid (∀ e ∈ D, EOk e) := fun e he => by
          have := S3.out.ok e he
          exact ⟨⟨by omega, by omega⟩, by omega, by omega⟩
        clear h5 ho5 hrow5
        go_wp2_with fail
        refine (made_calls D A2 c2 w5 (by omega) hok Hrow5.out).mono ?_
        rintro e w6 ⟨A4, c4, rfl, hrow6, hb6⟩
        have Hrow6 := hid hrow6
        have H6 := hid (H5.out.quiet hb6)
        clear hrow6 hb6
        go_wp2_with fail
        refine (of_calls D A4 c4 (now + more) B W w6 (by omega) hok Hrow6.out n3 n2 B0.1 (by omega) W0.1 (by omega)).mono ?_
        rintro e w7 ⟨rfl, hb7⟩
        have H7 := hid (H6.out.quiet hb7)
        have eqv := Eqf.out (ofN D (now + more) B W) (fun i => by have := ofN_in D (now + more) B W i; have := hDl.out; exact ⟨by omega, by omega⟩)
        clear hb7
        go_wp2_with fail
        go_ret
        exact ⟨ret_bool (by simp), H7.out.below⟩
theorem healthWindow_walk {H : Type} {enc : TypeId × Value → H} (W : World) (a0 : Option Addr) (l0 c0 : Nat) (k0 : (Opn.Lf.slc 52).ok enc Try.prog W 0 (fun _ => true) true (.slice a0 l0 c0)) (y0 : l0 * 16 ≤ 140737488351232) (a1_0 : Int) (a1_1 : Int) (w1_0 : (Lit.int .u8 a1_0).wf = true) (w1_1 : (Lit.int .u8 a1_1).wf = true) (a2 : Int) (w2 : (Lit.int .u16 a2).wf = true) :
    Calls Try.prog 8 #[.slice a0 l0 c0, .agg #[.int .u8 a1_0, .int .u8 a1_1], .int .u16 a2] W fun e w' => e = .returned (.bool true) ∧ Below W.heap.size W w' := by
  obtain ⟨L, rfl, hx, hr⟩ := rowE_of_slc (by kernel_rfl) (by kernel_rfl) k0
  have u8 : ∀ {x : Int}, (Lit.int .u8 x).wf = true → 0 ≤ x ∧ x ≤ 255 := fun h => by have := Sat.wf_u8 h; omega
  have q0 := u8 w1_0
  have q1 := u8 w1_1
  have hw2 : 0 ≤ a2 ∧ a2 ≤ 65535 := by
    have h2 : IntKind.u16.min ≤ a2 ∧ a2 ≤ IntKind.u16.max := by simpa [Lit.wf] using w2
    have e1 : IntKind.u16.min = 0 := by decide
    have e2 : IntKind.u16.max = 65535 := by decide
    rw [e1, e2] at h2
    exact h2
  exact hwin_core L a0 c0 a1_0 a1_1 _ _ _ a2 W (by omega) (hid hx) hr q0.1 q0.2 rfl (by omega) (by omega) rfl q1.1 q1.2 rfl hw2.1 hw2.2
end Go.Proofs.Ytiplgihdgckbaaa.C16
