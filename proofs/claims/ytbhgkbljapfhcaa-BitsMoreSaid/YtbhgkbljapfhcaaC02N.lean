/- The walk of the law BitsMore. -/
import Derived.Test.YtbhgkbljapfhcaaC02M
import Derived.Test.YtbhgkbljapfhcaaReg2
import Derived.Maps.AppendAt
import Derived.Laws.OwnMore
import Derived.Laws.MakeOwn
namespace Go.Proofs.Ytbhgkbljapfhcaa.C02
open Go.RowKit Go.Proofs.Ytbhgkbljapfhcaa
set_option linter.unusedVariables false
set_option linter.unusedSimpArgs false
set_option linter.unnecessarySimpa false
theorem via {W w w' : World} (hb : Below W.heap.size W w) (hl : Below w.heap.size w w') : Below W.heap.size W w' := hb.trans (hl.mono hb.size)
theorem grow (w : World) (o : Obj) : Below w.heap.size w (w.alloc o) := (Below.refl _ _).alloc (Nat.le_refl _) _
theorem below_grown {w0 w w' : World} {row : Option Nat} (hb : Below w0.heap.size w0 w) (hg : w.grownBy w' row) (hr : ∀ g, row = some g → w0.heap.size ≤ g) : Below w0.heap.size w0 w' :=
  ⟨hg.os.trans hb.os, hg.tape.trans hb.tape, hg.output.trans hb.output, Nat.le_trans hb.size hg.size, fun j hj => (hg.block j (Nat.lt_of_lt_of_le hj hb.size) (fun h => by have := hr j h.symm; omega)).trans (hb.block j hj)⟩
/-- Bytes as cells. -/
def cells (l : List Int) : List Value := l.map fun x => .int .u8 x
theorem cells_len (l : List Int) : (cells l).length = l.length := by unfold cells; rw [List.length_map]
theorem cells_one (l : List Int) : ∀ u ∈ cells l, u.oneCell' = true := by
  intro u hu
  obtain ⟨x, _, rfl⟩ := List.mem_map.1 hu
  rfl
theorem cells_at {l : List Int} {i : Nat} (hi : i < l.length) : (cells l)[i]? = some (.int .u8 (l.getD i 0)) := by
  unfold cells
  rw [List.getElem?_map, List.getElem?_eq_getElem hi, List.getD_eq_getElem?_getD, List.getElem?_eq_getElem hi]
  rfl
theorem infoB : ∃ i, Try.prog.info? 5 = some i ∧ i.zero = some (.int .u8 0) ∧ i.size = 1 ∧ i.bytes = 1 := by
  have h : (Try.prog.info? 5).map (fun i => (i.zero, i.size, i.bytes)) = some (some (.int .u8 0), 1, 1) := by kernel_rfl
  cases hq : Try.prog.info? 5 with
  | none => rw [hq] at h; exact absurd h (by simp)
  | some i => rw [hq] at h; simp at h; exact ⟨i, rfl, h.1, h.2.1, h.2.2⟩
/-- A slice of the call's own holds bytes. -/
def OB (w : World) (base : Nat) (v : Value) (l : List Int) : Prop := w.ownsRow base 5 1 v l.length (cells l)
theorem OB.lt {w : World} {base : Nat} {v : Value} {l : List Int} (h : OB w base v l) : ∀ k, v.ownBlock = some k → base ≤ k ∧ k < w.heap.size := World.ownsRow.lt h
theorem OB.below {w w' : World} {base : Nat} {v : Value} {l : List Int} (h : OB w base v l) (hb : Below w.heap.size w w') : OB w' base v l := by
  refine World.ownsRow.kept (row := none) h ⟨hb.os, hb.tape, hb.output, hb.size, fun k hk _ => hb.block k hk⟩ ?_
  rcases hq : v.ownBlock with _ | g
  · exact .inl rfl
  · right; simp
theorem OB.other {w w' : World} {base : Nat} {v u : Value} {l : List Int} (h : OB w base v l) (hg : w.grownBy w' u.ownBlock) (hne : v.ownBlock ≠ u.ownBlock) : OB w' base v l := World.ownsRow.kept h hg (.inr hne)
theorem lit0 (w : World) (base : Nat) (hb : base ≤ w.heap.size) : OB (w.alloc (.cells #[] 5 (0, 0))) base (.slice (some ⟨w.heap.size, 0, none⟩) 0 0) [] :=
  World.ownsRow_lit w #[] 0 hb (by decide) rfl
theorem lit_ne {w : World} {base : Nat} {v : Value} {l : List Int} (h : OB w base v l) : (Value.slice (some ⟨w.heap.size, 0, none⟩) 0 0).ownBlock ≠ v.ownBlock := by
  intro e
  have := (h.lt w.heap.size e.symm).2
  omega
theorem ne_new {w : World} {base : Nat} {v u : Value} {l : List Int} (h : OB w base v l) (hat : u.ownBlock = some w.heap.size) : v.ownBlock ≠ u.ownBlock := by
  intro e
  have := (h.lt w.heap.size (e.trans hat)).2
  omega
theorem ne_at {w : World} {base : Nat} {v u u' : Value} {l : List Int} (h : OB w base v l) (hne : u.ownBlock ≠ v.ownBlock) (hat : u'.ownBlock = u.ownBlock ∨ u'.ownBlock = some w.heap.size) : u'.ownBlock ≠ v.ownBlock := by
  rcases hat with hat | hat
  · rw [hat]; exact hne
  · intro e
    have := (h.lt w.heap.size (e.symm.trans hat)).2
    omega
/-- Bytes of a slice appended to a slice of the call's own. -/
theorem app {w : World} {base : Nat} {v : Value} {L : List Int} (hown : OB w base v L) (hbase : base ≤ w.heap.size) (l : List Int) (A : Option Addr) (c : Nat) (hl : BytesAt w A l) (hc : A = none → l = [] ∧ c = 0) (hn : L.length + l.length ≤ 100000) :
    ∃ v' w', (Builtin.append_ #[32, 32] 32 #[v, .slice A l.length c]).run Try.prog w = .ok v' w' ∧ OB w' base v' (L ++ l) ∧ w.grownBy w' v.ownBlock ∧ (v'.ownBlock = v.ownBlock ∨ v'.ownBlock = some w.heap.size) := by
  obtain ⟨i0, i1, i2, i3, i4⟩ := infoB
  cases A with
  | none =>
    obtain ⟨rfl, rfl⟩ := hc rfl
    refine ⟨v, w, run_append_owned_none w base 32 32 5 i0 1 Try.underlying32 i1 v L.length (cells L) hown, by rw [List.append_nil]; exact hown, ⟨rfl, rfl, rfl, Nat.le_refl _, fun _ _ _ => rfl⟩, .inl rfl⟩
  | some ad =>
    have hnews : ∀ j u, (cells l)[j]? = some u → w.cell? (ad.add j) = some u := by
      intro j u hj
      have hjl : j < l.length := by have := (List.getElem?_eq_some_iff.1 hj).1; rwa [cells_len] at this
      rcases hl with rfl | ⟨b, o, hA, h⟩
      · exact absurd hjl (Nat.not_lt_zero _)
      · injection hA with hA
        subst hA
        rw [Addr.add_mid]
        rw [cells_at hjl] at hj
        injection hj with hj
        rw [← hj]
        exact h j hjl
    obtain ⟨v', w', hr, h2, h3, h4, h5⟩ := run_append_own_at (P := Try.prog) w base 32 32 5 i0 (.int .u8 0) 1 1 Try.underlying32 i1 i2 i3 i4 rfl (by decide) v L.length (cells L) hown ad l.length c (cells l) (by rw [cells_len]; omega) hnews (cells_one l) (by unfold maxLen; omega) (by omega) hbase
    refine ⟨v', w', hr, ?_, h3, h5⟩
    show World.ownsRow _ _ _ _ _ _ _
    rw [List.length_append, show cells (L ++ l) = cells L ++ cells l from List.map_append]
    exact h2
theorem make8 (w : World) (base : Nat) (hb : base ≤ w.heap.size) : ∃ v u, (Instr.makeSlice 32 (.int .i64 8) (.int .i64 8)).run Try.prog w = .ok v u ∧ OB u base v (List.replicate 8 0) ∧ Below w.heap.size w u ∧ v.ownBlock = some w.heap.size := by
  refine ⟨.slice (some ⟨w.heap.size, 0, none⟩) 8 8, w.alloc (.cells #[.int .u8 0, .int .u8 0, .int .u8 0, .int .u8 0, .int .u8 0, .int .u8 0, .int .u8 0, .int .u8 0] 5 (0, 0)), by kernel_rfl, ?_, grow _ _, rfl⟩
  exact World.ownsRow_lit w #[.int .u8 0, .int .u8 0, .int .u8 0, .int .u8 0, .int .u8 0, .int .u8 0, .int .u8 0, .int .u8 0] 8 hb (by decide) rfl
theorem wp_make8 {P : Program} {d : Option Tmp} {ty : TypeId} {pos : String} {aft : Array Edge} {g : Option (Nat × Bool)} {a : Act} {w w' : World} {K : Act → World → Prop} {Q : Exit → Act → World → Prop} {t : TypeId} {op : Op} {u : Value} (ho : op = .makeSlice t (.const (.int .i64 8)) (.const (.int .i64 8))) (hv : (Instr.makeSlice t (.int .i64 8) (.int .i64 8)).run P w = .ok u w') (h : K (a.put d u) w') : Oper.wp P ⟨d, op, ty, pos, aft, g⟩ a w K Q := by
  subst ho
  unfold Oper.wp execOp
  simp only [Act.eval, Sem.run_bind, Sem.run_pure, hv, Result.andThen_ok]
  exact h
theorem wp_app {P : Program} {d : Option Tmp} {ty : TypeId} {pos : String} {aft : Array Edge} {g : Option (Nat × Bool)} {a : Act} {w w' : World} {K : Act → World → Prop} {Q : Exit → Act → World → Prop} {t : TypeId} {s x : Operand} {op : Op} {v vx u : Value} (ho : op = .call { callee := .builtin .append, args := #[s, x], argTypes := #[t, t] }) (hs : a.eval s = v) (hx : a.eval x = vx) (hv : (Builtin.append_ #[t, t] ty #[v, vx]).run P w = .ok u w') (h : K (a.put d u) w') : Oper.wp P ⟨d, op, ty, pos, aft, g⟩ a w K Q := by
  subst ho
  unfold Oper.wp execOp
  simp only [resolve, invoke, builtin, Sem.run_bind, Sem.run_pure, Result.andThen_ok, List.map_toArray, List.map_cons, List.map_nil, hs, hx, hv]
  exact h
theorem owns_bytes {w : World} {base : Nat} {v : Value} {l : List Int} (h : OB w base v l) (hne : l.length ≠ 0) : ∃ A c, v = .slice A l.length c ∧ BytesAt w A l ∧ A ≠ none ∧ l.length ≤ c ∧ c ≤ maxLen := by
  have hc := h
  rcases h.2 with ⟨rfl, h0⟩ | ⟨g, cap, cur, rfl, hb, hh, hcap, hm, _⟩
  · exact absurd h0 hne
  · refine ⟨some ⟨g, 0, none⟩, cap, rfl, .inr ⟨g, 0, rfl, fun i hi => ?_⟩, by simp, hcap, hm⟩
    have h1 := World.ownsRow.cells hc rfl i _ (cells_at hi)
    rw [Addr.add_mid] at h1
    exact h1
theorem last8_app (m l : List Int) (h : 8 ≤ l.length) : Bits.last8 (m ++ l) = Bits.last8 l := by
  unfold Bits.last8
  rw [List.length_append, List.drop_append, List.drop_eq_nil_of_le (by omega), List.nil_append]
  congr 1
  omega
theorem num_zeros (l : List Int) : ∀ k, Bits.num (List.replicate k 0 ++ l) = Bits.num l := by
  intro k
  induction k with
  | zero => rfl
  | succ k ih =>
    rw [List.replicate_succ, List.cons_append]
    have : Bits.num (0 :: (List.replicate k 0 ++ l)) = Bits.num (List.replicate k 0 ++ l) := by
      unfold Bits.num
      rw [List.foldl_cons]
      rfl
    rw [this, ih]
theorem more_num (m l : List Int) : Bits.num (Bits.last8 (m ++ (List.replicate 8 0 ++ l))) = Bits.num (Bits.last8 l) := by
  rw [last8_app _ _ (by rw [List.length_append, List.length_replicate]; omega)]
  by_cases h : 8 ≤ l.length
  · rw [last8_app _ _ h]
  · have e1 : Bits.last8 (List.replicate 8 0 ++ l) = List.replicate (8 - l.length) 0 ++ l := by
      unfold Bits.last8
      rw [List.length_append, List.length_replicate, List.drop_append, List.length_replicate, List.drop_replicate]
      rw [show 8 + l.length - 8 - 8 = 0 from by omega, List.drop_zero, show 8 - (8 + l.length - 8) = 8 - l.length from by omega]
    have e2 : Bits.last8 l = l := by
      unfold Bits.last8
      rw [show l.length - 8 = 0 from by omega, List.drop_zero]
    rw [e1, e2, num_zeros]
theorem bytesAt_drop {w : World} {A : Option Addr} {l : List Int} (k : Nat) {b o : Nat} (hA : A = some ⟨b, o, none⟩) (h : BytesAt w A l) : BytesAt w (some ⟨b, o + k, none⟩) (l.drop k) := by
  subst hA
  rcases h with rfl | ⟨b', o', hA, h⟩
  · left; simp
  · injection hA with hA
    injection hA with h1 h2 _
    subst h1 h2
    refine .inr ⟨b, o + k, rfl, fun i hi => ?_⟩
    rw [List.length_drop] at hi
    have := h (k + i) (by omega)
    rw [List.getD_eq_getElem?_getD, List.getElem?_drop, ← List.getD_eq_getElem?_getD, Nat.add_assoc]
    exact this
theorem last8_drop (l : List Int) (h : 8 ≤ l.length) : Bits.last8 (l.drop (l.length - 8)) = Bits.last8 l := by
  unfold Bits.last8
  rw [List.length_drop, show l.length - (l.length - 8) - 8 = 0 from by omega, List.drop_zero]
set_option maxRecDepth 20000 in
set_option maxHeartbeats 4000000 in
theorem more_core (l m : List Int) (A1 A2 : Option Addr) (c1 c2 : Nat) (w : World) (hlc : l.length ≤ c1) (hcm : c1 ≤ 9223372036854775807) (hz : Hid (∀ x ∈ l, 0 ≤ x ∧ x < 256)) (hr : Hid (BytesAt w A1 l)) (hn : Hid (A1 = none → c1 = 0)) (hlc2 : m.length ≤ c2) (hz2 : Hid (∀ x ∈ m, 0 ≤ x ∧ x < 256)) (hr2 : Hid (BytesAt w A2 m)) (hn2 : Hid (A2 = none → c2 = 0)) :
    Calls Try.prog 6 #[.slice A1 l.length c1, .slice A2 m.length c2] w fun e w' => e = .returned (.bool true) ∧ Below w.heap.size w w' := by
  by_cases hb1 : 100 < l.length
  · have hI : 100 < (l.length : Int) := by omega
    go_enter Try.func6, Try.ntmps6
    go_wp2_with fail
    refine (awake_calls _).mono ?_
    rintro e w1 ⟨rfl, hb⟩
    have Hb := hid hb
    clear hb
    go_wp2_with fail
    go_ret
    exact ⟨rfl, Hb.out⟩
  have hI : (l.length : Int) ≤ 100 := by omega
  by_cases hb2 : 100 < m.length
  · have hI2 : 100 < (m.length : Int) := by omega
    go_enter Try.func6, Try.ntmps6
    go_wp2_with fail
    refine (awake_calls _).mono ?_
    rintro e w1 ⟨rfl, hb⟩
    have Hb := hid hb
    clear hb
    go_wp2_with fail
    go_ret
    exact ⟨rfl, Hb.out⟩
  have hI2 : (m.length : Int) ≤ 100 := by omega
  have hc1 : A1 = none → l = [] ∧ c1 = 0 := fun h => ⟨List.eq_nil_of_length_eq_zero (by have := hn.out h; omega), hn.out h⟩
  have hc2 : A2 = none → m = [] ∧ c2 = 0 := fun h => ⟨List.eq_nil_of_length_eq_zero (by have := hn2.out h; omega), hn2.out h⟩
  have Hc1 := hid hc1
  have Hc2 := hid hc2
  have hq := more_num m l
  have Hfrom := hid fun w hr => from_calls l A1 c1 w hlc hcm hz.out hr hn.out
  obtain ⟨N, hN⟩ : ∃ N, Bits.num (Bits.last8 l) = N := ⟨_, rfl⟩
  rw [hN] at hq Hfrom
  have HN := hid hN
  have Hq := hid hq
  have Hlong := hid fun (w : World) (A : Option Addr) (c : Nat) (h : BytesAt w A (m ++ (List.replicate 8 0 ++ l))) (h0 : A ≠ none) (h1 : (m ++ (List.replicate 8 0 ++ l)).length ≤ c) (h2 : c ≤ maxLen) => from_calls (m ++ (List.replicate 8 0 ++ l)) A c w h1 (by unfold maxLen at h2; omega) (by
    intro x hx
    rcases List.mem_append.1 hx with hx | hx
    · exact hz2.out x hx
    rcases List.mem_append.1 hx with hx | hx
    · rw [(List.mem_replicate.1 hx).2]; omega
    · exact hz.out x hx) h (fun e => absurd e h0)
  rw [hq] at Hlong
  have hll : (m ++ (List.replicate 8 0 ++ l)).length = m.length + (8 + l.length) := by rw [List.length_append, List.length_append, List.length_replicate]
  obtain ⟨LN, hLN⟩ : ∃ n, (m ++ (List.replicate 8 0 ++ l)).length = n := ⟨_, rfl⟩
  rw [hLN] at Hlong hll
  have HLN := hid hLN
  have hln1 : LN ≤ 208 := by omega
  clear hq hN hc1 hc2 hb1 hb2 hll hLN
  go_enter Try.func6, Try.ntmps6
  go_wp2_with fail
  refine (awake_calls _).mono ?_
  rintro e w1 ⟨rfl, hb⟩
  have Hb1 := hid hb
  clear hb
  go_wp2_with fail
  refine Rg.start (S := fun w' => Hid (Below w1.heap.size w1 w')) (by kernel_rfl) (fun _ _ _ _ _ h => h) (hid (Below.refl _ _).drew) ?_
  intro Q hp hn wz hH0
  refine Rg.tk (i := 1) rfl hp ?_
  refine ⟨?_, ?_, by kernel_rfl, by kernel_rfl, by kernel_rfl, Or.inl ⟨by rfl, ?_⟩, hH0, ?_, ?_⟩
  rotate_left 2
  · (intro w hSw; clear hSw; go_simp; try with_reducible rfl)
  · ((try simp only [Act.put, List.setIfInBounds_toArray, List.set_cons_zero, List.set_cons_succ]); exact rfl)
  refine Rg.tk (i := 4) rfl hp ?_
  refine ⟨?_, ?_, by kernel_rfl, by kernel_rfl, by kernel_rfl, Or.inl ⟨by rfl, ?_⟩, hH0, ?_, ?_⟩
  rotate_left 2
  · (intro w hSw; clear hSw; go_simp; try with_reducible rfl)
  · ((try simp only [Act.put, List.setIfInBounds_toArray, List.set_cons_zero, List.set_cons_succ]); exact rfl)
  refine Rg.two (i := 0) (j := 3) rfl rfl ⟨by kernel_rfl, by rfl, by rfl⟩ (fun K hK => ?_) (fun K hK => ?_)
  · skip
    go_simp
    have O1 := hid (lit0 wz w1.heap.size hH0.out.size)
    refine hK.out _ _ ?_ (hid (hH0.out.alloc hH0.out.size _)) ?_ (fun hH1 => ?_)
    rotate_left
    · ((try simp only [Act.put, List.setIfInBounds_toArray, List.set_cons_zero, List.set_cons_succ]); exact rfl)
    clear hK K
    refine Rg.two (i := 2) (j := 3) rfl rfl ⟨by kernel_rfl, by rfl, by rfl⟩ (fun K hK => ?_) (fun K hK => ?_)
    · skip
      obtain ⟨v2, u2, hrun, O2', hgw, hat⟩ := app O1.out hH1.out.size m A2 c2 (hr2.out.below (via Hb1.out hH1.out)) Hc2.out (by simp; omega)
      refine wp_app rfl rfl rfl hrun ?_
      have B2 := hid (below_grown hH1.out hgw (fun g hg => (O1.out.lt g hg).1))
      have O2 := hid O2'
      clear O2' hgw hat hrun
      refine hK.out _ _ ?_ (B2) ?_ (fun hH2 => ?_)
      rotate_left
      · ((try simp only [Act.put, List.setIfInBounds_toArray, List.set_cons_zero, List.set_cons_succ]); exact rfl)
      clear hK K
      refine Rg.one (i := 3) rfl ⟨by kernel_rfl, by rfl, fun K hK => ?_⟩
      obtain ⟨v3, u3, hrun, O3', hgw, hat⟩ := make8 u2 w1.heap.size hH2.out.size
      refine wp_make8 rfl hrun ?_
      have O3 := hid O3'
      have Z3 := hid (O2.out.below hgw)
      have N3 := hid (ne_new O2.out hat)
      have B3 := hid (via hH2.out hgw)
      clear O3' hgw hat hrun
      refine hK.out _ _ ?_ (B3) ?_ (fun hH3 => ?_)
      rotate_left
      · ((try simp only [Act.put, List.setIfInBounds_toArray, List.set_cons_zero, List.set_cons_succ]); exact rfl)
      clear hK K
      refine Rg.one (i := 5) rfl ⟨by kernel_rfl, by rfl, fun K hK => ?_⟩
      obtain ⟨v4, u4, hrun, O4', hgw, hat⟩ := app O3.out hH3.out.size l A1 c1 (hr.out.below (via Hb1.out hH3.out)) Hc1.out (by simp; omega)
      refine wp_app rfl rfl rfl hrun ?_
      have B4 := hid (below_grown hH3.out hgw (fun g hg => (O3.out.lt g hg).1))
      have O4 := hid O4'
      have Z4 := hid (Z3.out.other hgw N3.out)
      clear O4' hgw hat hrun
      refine hK.out _ _ ?_ (B4) ?_ (fun hH4 => ?_)
      rotate_left
      · ((try simp only [Act.put, List.setIfInBounds_toArray, List.set_cons_zero, List.set_cons_succ]); exact rfl)
      clear hK K
      refine Rg.one (i := 6) rfl ⟨by kernel_rfl, by rfl, fun K hK => ?_⟩
      obtain ⟨A5, c5, hv5, hat5, hc5, _, _⟩ := owns_bytes O4.out (by simp)
      subst hv5
      obtain ⟨v5, u5, hrun, O5', hgw, hat⟩ := app Z4.out hH4.out.size (List.replicate 8 0 ++ l) A5 c5 hat5 (fun e => absurd e hc5) (by simp; omega)
      refine wp_app rfl rfl rfl hrun ?_
      have B5 := hid (below_grown hH4.out hgw (fun g hg => (Z4.out.lt g hg).1))
      have O5 := hid O5'
      clear O5' hgw hat hrun
      refine hK.out _ _ ?_ (B5) ?_ (fun hHF => ?_)
      rotate_left
      · ((try simp only [Act.put, List.setIfInBounds_toArray, List.set_cons_zero, List.set_cons_succ]); exact rfl)
      clear hK K
      refine Rg.tk (i := 7) rfl hp ?_
      refine ⟨?_, ?_, by kernel_rfl, by kernel_rfl, by kernel_rfl, Or.inl ⟨by rfl, ?_⟩, hHF, ?_, ?_⟩
      rotate_left 2
      · (intro w hSw; clear hSw; go_simp; try with_reducible rfl)
      · ((try simp only [Act.put, List.setIfInBounds_toArray, List.set_cons_zero, List.set_cons_succ]); exact rfl)
      refine wpAnyH_done (by kernel_rfl) ?_ _
      refine hn.out _ _ ?_
      obtain ⟨A6, c6, hv6, hat6, hc6, hd6, he6⟩ := owns_bytes O5.out (by rw [List.length_append, List.length_append, List.length_append, List.length_replicate]; omega)
      rw [List.nil_append] at hv6 hat6 hd6
      rw [HLN.out] at hv6 hd6
      subst hv6
      have HB := hid (via Hb1.out hHF.out)
      have HL := hid (Hlong.out _ _ _ hat6 hc6 hd6 he6)
      have HS := hid (Hfrom.out _ (hr.out.below HB.out))
      clear hat6 hc6 hd6 he6
      go_wp2_with fail
      refine HL.out.mono ?_
      rintro e w' ⟨rfl, rfl⟩
      go_wp2_with fail
      refine HS.out.mono ?_
      rintro e w' ⟨rfl, rfl⟩
      by_cases h8 : l.length < 8
      · have h8i : (l.length : Int) < 8 := by omega
        clear h8
        go_wp2_with fail
        go_ret
        exact ⟨ret_bool (by simp), HB.out⟩
      · have h8i : 8 ≤ (l.length : Int) := by omega
        have Hd : Hid (∃ b o, A1 = some ⟨b, o, none⟩) := hid (by
          rcases hr.out with h | ⟨b, o, h, _⟩
          · rw [h] at h8; exact absurd (Nat.zero_lt_succ _) h8
          · exact ⟨b, o, h⟩)
        obtain ⟨b, o, hA⟩ := Hd.out
        subst hA
        have Ht := from_calls (l.drop (l.length - 8)) (some ⟨b, o + (l.length - 8), none⟩) (c1 - (l.length - 8)) _ (by rw [List.length_drop]; omega) (by omega) (fun x hx => hz.out x (List.mem_of_mem_drop hx)) (bytesAt_drop (l.length - 8) rfl (hr.out.below HB.out)) (fun h => by cases h)
        rw [last8_drop l (by omega), HN.out, List.length_drop] at Ht
        have HT := hid Ht
        clear Ht
        go_wp2_with fail
        refine HT.out.mono ?_
        rintro e w' ⟨rfl, rfl⟩
        go_wp2_with fail
        refine HS.out.mono ?_
        rintro e w' ⟨rfl, rfl⟩
        go_wp2_with fail
        go_ret
        exact ⟨ret_bool (by simp), HB.out⟩
    · skip
      obtain ⟨v6, u6, hrun, O6', hgw, hat⟩ := make8 (wz.alloc (.cells #[] 5 (0, 0))) w1.heap.size hH1.out.size
      refine wp_make8 rfl hrun ?_
      have O6 := hid O6'
      have Z6 := hid (O1.out.below hgw)
      have N6 := hid (ne_new O1.out hat)
      have B6 := hid (via hH1.out hgw)
      clear O6' hgw hat hrun
      refine hK.out _ _ ?_ (B6) ?_ (fun hH6 => ?_)
      rotate_left
      · ((try simp only [Act.put, List.setIfInBounds_toArray, List.set_cons_zero, List.set_cons_succ]); exact rfl)
      clear hK K
      refine Rg.one (i := 2) rfl ⟨by kernel_rfl, by rfl, fun K hK => ?_⟩
      obtain ⟨v7, u7, hrun, O7', hgw, hat⟩ := app Z6.out hH6.out.size m A2 c2 (hr2.out.below (via Hb1.out hH6.out)) Hc2.out (by simp; omega)
      refine wp_app rfl rfl rfl hrun ?_
      have B7 := hid (below_grown hH6.out hgw (fun g hg => (Z6.out.lt g hg).1))
      have O7 := hid O7'
      have Z7 := hid (O6.out.other hgw (Ne.symm N6.out))
      have N7 := hid (ne_at O6.out N6.out hat)
      clear O7' hgw hat hrun
      refine hK.out _ _ ?_ (B7) ?_ (fun hH7 => ?_)
      rotate_left
      · ((try simp only [Act.put, List.setIfInBounds_toArray, List.set_cons_zero, List.set_cons_succ]); exact rfl)
      clear hK K
      refine Rg.one (i := 5) rfl ⟨by kernel_rfl, by rfl, fun K hK => ?_⟩
      obtain ⟨v8, u8, hrun, O8', hgw, hat⟩ := app Z7.out hH7.out.size l A1 c1 (hr.out.below (via Hb1.out hH7.out)) Hc1.out (by simp; omega)
      refine wp_app rfl rfl rfl hrun ?_
      have B8 := hid (below_grown hH7.out hgw (fun g hg => (Z7.out.lt g hg).1))
      have O8 := hid O8'
      have Z8 := hid (O7.out.other hgw N7.out)
      clear O8' hgw hat hrun
      refine hK.out _ _ ?_ (B8) ?_ (fun hH8 => ?_)
      rotate_left
      · ((try simp only [Act.put, List.setIfInBounds_toArray, List.set_cons_zero, List.set_cons_succ]); exact rfl)
      clear hK K
      refine Rg.one (i := 6) rfl ⟨by kernel_rfl, by rfl, fun K hK => ?_⟩
      obtain ⟨A5, c5, hv5, hat5, hc5, _, _⟩ := owns_bytes O8.out (by simp)
      subst hv5
      obtain ⟨v9, u9, hrun, O9', hgw, hat⟩ := app Z8.out hH8.out.size (List.replicate 8 0 ++ l) A5 c5 hat5 (fun e => absurd e hc5) (by simp; omega)
      refine wp_app rfl rfl rfl hrun ?_
      have B9 := hid (below_grown hH8.out hgw (fun g hg => (Z8.out.lt g hg).1))
      have O9 := hid O9'
      clear O9' hgw hat hrun
      refine hK.out _ _ ?_ (B9) ?_ (fun hHF => ?_)
      rotate_left
      · ((try simp only [Act.put, List.setIfInBounds_toArray, List.set_cons_zero, List.set_cons_succ]); exact rfl)
      clear hK K
      refine Rg.tk (i := 7) rfl hp ?_
      refine ⟨?_, ?_, by kernel_rfl, by kernel_rfl, by kernel_rfl, Or.inl ⟨by rfl, ?_⟩, hHF, ?_, ?_⟩
      rotate_left 2
      · (intro w hSw; clear hSw; go_simp; try with_reducible rfl)
      · ((try simp only [Act.put, List.setIfInBounds_toArray, List.set_cons_zero, List.set_cons_succ]); exact rfl)
      refine wpAnyH_done (by kernel_rfl) ?_ _
      refine hn.out _ _ ?_
      obtain ⟨A6, c6, hv6, hat6, hc6, hd6, he6⟩ := owns_bytes O9.out (by rw [List.length_append, List.length_append, List.length_append, List.length_replicate]; omega)
      rw [List.nil_append] at hv6 hat6 hd6
      rw [HLN.out] at hv6 hd6
      subst hv6
      have HB := hid (via Hb1.out hHF.out)
      have HL := hid (Hlong.out _ _ _ hat6 hc6 hd6 he6)
      have HS := hid (Hfrom.out _ (hr.out.below HB.out))
      clear hat6 hc6 hd6 he6
      go_wp2_with fail
      refine HL.out.mono ?_
      rintro e w' ⟨rfl, rfl⟩
      go_wp2_with fail
      refine HS.out.mono ?_
      rintro e w' ⟨rfl, rfl⟩
      by_cases h8 : l.length < 8
      · have h8i : (l.length : Int) < 8 := by omega
        clear h8
        go_wp2_with fail
        go_ret
        exact ⟨ret_bool (by simp), HB.out⟩
      · have h8i : 8 ≤ (l.length : Int) := by omega
        have Hd : Hid (∃ b o, A1 = some ⟨b, o, none⟩) := hid (by
          rcases hr.out with h | ⟨b, o, h, _⟩
          · rw [h] at h8; exact absurd (Nat.zero_lt_succ _) h8
          · exact ⟨b, o, h⟩)
        obtain ⟨b, o, hA⟩ := Hd.out
        subst hA
        have Ht := from_calls (l.drop (l.length - 8)) (some ⟨b, o + (l.length - 8), none⟩) (c1 - (l.length - 8)) _ (by rw [List.length_drop]; omega) (by omega) (fun x hx => hz.out x (List.mem_of_mem_drop hx)) (bytesAt_drop (l.length - 8) rfl (hr.out.below HB.out)) (fun h => by cases h)
        rw [last8_drop l (by omega), HN.out, List.length_drop] at Ht
        have HT := hid Ht
        clear Ht
        go_wp2_with fail
        refine HT.out.mono ?_
        rintro e w' ⟨rfl, rfl⟩
        go_wp2_with fail
        refine HS.out.mono ?_
        rintro e w' ⟨rfl, rfl⟩
        go_wp2_with fail
        go_ret
        exact ⟨ret_bool (by simp), HB.out⟩
  · skip
    obtain ⟨v10, u10, hrun, O10', hgw, hat⟩ := make8 wz w1.heap.size hH0.out.size
    refine wp_make8 rfl hrun ?_
    have O10 := hid O10'
    have B10 := hid (via hH0.out hgw)
    clear O10' hgw hat hrun
    refine hK.out _ _ ?_ (B10) ?_ (fun hH10 => ?_)
    rotate_left
    · ((try simp only [Act.put, List.setIfInBounds_toArray, List.set_cons_zero, List.set_cons_succ]); exact rfl)
    clear hK K
    refine Rg.one (i := 0) rfl ⟨by kernel_rfl, by rfl, fun K hK => ?_⟩
    go_simp
    have O11 := hid (lit0 u10 w1.heap.size hH10.out.size)
    have Z11 := hid (O10.out.below (grow u10 (.cells #[] 5 (0, 0))))
    have N11 := hid (lit_ne O10.out)
    refine hK.out _ _ ?_ (hid (hH10.out.alloc hH10.out.size _)) ?_ (fun hH11 => ?_)
    rotate_left
    · ((try simp only [Act.put, List.setIfInBounds_toArray, List.set_cons_zero, List.set_cons_succ]); exact rfl)
    clear hK K
    refine Rg.one (i := 2) rfl ⟨by kernel_rfl, by rfl, fun K hK => ?_⟩
    obtain ⟨v12, u12, hrun, O12', hgw, hat⟩ := app O11.out hH11.out.size m A2 c2 (hr2.out.below (via Hb1.out hH11.out)) Hc2.out (by simp; omega)
    refine wp_app rfl rfl rfl hrun ?_
    have B12 := hid (below_grown hH11.out hgw (fun g hg => (O11.out.lt g hg).1))
    have O12 := hid O12'
    have Z12 := hid (Z11.out.other hgw (Ne.symm N11.out))
    have N12 := hid (ne_at Z11.out N11.out hat)
    clear O12' hgw hat hrun
    refine hK.out _ _ ?_ (B12) ?_ (fun hH12 => ?_)
    rotate_left
    · ((try simp only [Act.put, List.setIfInBounds_toArray, List.set_cons_zero, List.set_cons_succ]); exact rfl)
    clear hK K
    refine Rg.one (i := 5) rfl ⟨by kernel_rfl, by rfl, fun K hK => ?_⟩
    obtain ⟨v13, u13, hrun, O13', hgw, hat⟩ := app Z12.out hH12.out.size l A1 c1 (hr.out.below (via Hb1.out hH12.out)) Hc1.out (by simp; omega)
    refine wp_app rfl rfl rfl hrun ?_
    have B13 := hid (below_grown hH12.out hgw (fun g hg => (Z12.out.lt g hg).1))
    have O13 := hid O13'
    have Z13 := hid (O12.out.other hgw N12.out)
    clear O13' hgw hat hrun
    refine hK.out _ _ ?_ (B13) ?_ (fun hH13 => ?_)
    rotate_left
    · ((try simp only [Act.put, List.setIfInBounds_toArray, List.set_cons_zero, List.set_cons_succ]); exact rfl)
    clear hK K
    refine Rg.one (i := 6) rfl ⟨by kernel_rfl, by rfl, fun K hK => ?_⟩
    obtain ⟨A5, c5, hv5, hat5, hc5, _, _⟩ := owns_bytes O13.out (by simp)
    subst hv5
    obtain ⟨v14, u14, hrun, O14', hgw, hat⟩ := app Z13.out hH13.out.size (List.replicate 8 0 ++ l) A5 c5 hat5 (fun e => absurd e hc5) (by simp; omega)
    refine wp_app rfl rfl rfl hrun ?_
    have B14 := hid (below_grown hH13.out hgw (fun g hg => (Z13.out.lt g hg).1))
    have O14 := hid O14'
    clear O14' hgw hat hrun
    refine hK.out _ _ ?_ (B14) ?_ (fun hHF => ?_)
    rotate_left
    · ((try simp only [Act.put, List.setIfInBounds_toArray, List.set_cons_zero, List.set_cons_succ]); exact rfl)
    clear hK K
    refine Rg.tk (i := 7) rfl hp ?_
    refine ⟨?_, ?_, by kernel_rfl, by kernel_rfl, by kernel_rfl, Or.inl ⟨by rfl, ?_⟩, hHF, ?_, ?_⟩
    rotate_left 2
    · (intro w hSw; clear hSw; go_simp; try with_reducible rfl)
    · ((try simp only [Act.put, List.setIfInBounds_toArray, List.set_cons_zero, List.set_cons_succ]); exact rfl)
    refine wpAnyH_done (by kernel_rfl) ?_ _
    refine hn.out _ _ ?_
    obtain ⟨A6, c6, hv6, hat6, hc6, hd6, he6⟩ := owns_bytes O14.out (by rw [List.length_append, List.length_append, List.length_append, List.length_replicate]; omega)
    rw [List.nil_append] at hv6 hat6 hd6
    rw [HLN.out] at hv6 hd6
    subst hv6
    have HB := hid (via Hb1.out hHF.out)
    have HL := hid (Hlong.out _ _ _ hat6 hc6 hd6 he6)
    have HS := hid (Hfrom.out _ (hr.out.below HB.out))
    clear hat6 hc6 hd6 he6
    go_wp2_with fail
    refine HL.out.mono ?_
    rintro e w' ⟨rfl, rfl⟩
    go_wp2_with fail
    refine HS.out.mono ?_
    rintro e w' ⟨rfl, rfl⟩
    by_cases h8 : l.length < 8
    · have h8i : (l.length : Int) < 8 := by omega
      clear h8
      go_wp2_with fail
      go_ret
      exact ⟨ret_bool (by simp), HB.out⟩
    · have h8i : 8 ≤ (l.length : Int) := by omega
      have Hd : Hid (∃ b o, A1 = some ⟨b, o, none⟩) := hid (by
        rcases hr.out with h | ⟨b, o, h, _⟩
        · rw [h] at h8; exact absurd (Nat.zero_lt_succ _) h8
        · exact ⟨b, o, h⟩)
      obtain ⟨b, o, hA⟩ := Hd.out
      subst hA
      have Ht := from_calls (l.drop (l.length - 8)) (some ⟨b, o + (l.length - 8), none⟩) (c1 - (l.length - 8)) _ (by rw [List.length_drop]; omega) (by omega) (fun x hx => hz.out x (List.mem_of_mem_drop hx)) (bytesAt_drop (l.length - 8) rfl (hr.out.below HB.out)) (fun h => by cases h)
      rw [last8_drop l (by omega), HN.out, List.length_drop] at Ht
      have HT := hid Ht
      clear Ht
      go_wp2_with fail
      refine HT.out.mono ?_
      rintro e w' ⟨rfl, rfl⟩
      go_wp2_with fail
      refine HS.out.mono ?_
      rintro e w' ⟨rfl, rfl⟩
      go_wp2_with fail
      go_ret
      exact ⟨ret_bool (by simp), HB.out⟩
theorem bitsMore_walk {H : Type} {enc : TypeId × Value → H} (W : World) (a0 : Option Addr) (l0 c0 : Nat) (k0 : (Opn.Lf.slc 5).ok enc Try.prog W 0 (fun _ => true) true (.slice a0 l0 c0)) (y0 : l0 * 1 ≤ 140737488351232) (a1 : Option Addr) (l1 c1 : Nat) (k1 : (Opn.Lf.slc 5).ok enc Try.prog W 0 (fun _ => true) true (.slice a1 l1 c1)) (y1 : l1 * 1 ≤ 140737488351232) :
    Calls Try.prog 6 #[.slice a0 l0 c0, .slice a1 l1 c1] W fun e w' => e = .returned (.bool true) ∧ Below W.heap.size W w' := by
  obtain ⟨zs, rfl, hz, hr, hlc, hcm, hn⟩ := bytesAt_of_slc (by rfl) (by kernel_rfl) k0
  obtain ⟨ys, rfl, hz2, hr2, hlc2, hcm2, hn2⟩ := bytesAt_of_slc (by rfl) (by kernel_rfl) k1
  unfold maxLen at hcm
  exact more_core zs ys a0 a1 c0 c1 W hlc hcm (hid hz) (hid hr) (hid hn) hlc2 (hid hz2) (hid hr2) (hid hn2)
end Go.Proofs.Ytbhgkbljapfhcaa.C02
