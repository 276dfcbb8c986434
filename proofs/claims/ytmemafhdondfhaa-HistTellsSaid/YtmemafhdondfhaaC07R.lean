/- What the reference of chapter 7 tells: Len, Top, May, Add. -/
import Derived.Test.YtmemafhdondfhaaC07D
import Derived.Test.YtmemafhdondfhaaR01B
import Derived.Laws.OwnMore
import Derived.Laws.AppendOwnNone
import Derived.Maps.AppendAt
namespace Go.Proofs.Ytmemafhdondfhaa.C06
open Go.RowKit Go.Proofs.Ytmemafhdondfhaa Go.Proofs.Ytmemafhdondfhaa.Win
set_option linter.unusedVariables false
set_option linter.unusedSimpArgs false
set_option linter.unnecessarySimpa false
attribute [local go_sem] C01.max2_mx C01.min2_mn C01.max_two C01.min_two
set_option maxHeartbeats 400000 in
theorem rlen_calls (x : Nat) (hx : x < 18446744073709551616) (w : World) :
    Calls Try.prog 28 #[.int .u64 x] w fun e w' => e = .returned (.int .i64 (Bits.blen x)) ∧ w = w' := by
  have hx2 : x ≤ 18446744073709551615 := by omega
  have H64 := hid (Bits.blen_le64 hx)
  clear hx
  go_enter Try.func28, Try.ntmps28
  go_wp2_with fail
  go_loop [0, 3] (fun a n => ∃ y k : Nat, a = .int .u64 y ∧ n = .int .i64 k ∧ y ≤ 18446744073709551615 ∧ Hid (Bits.blen x = k + Bits.blen y)) (fun a _ => (intOf a).toNat)
  case atStart => exact ⟨x, 0, rfl, rfl, hx2, by show _ = _; omega⟩
  case round =>
    obtain ⟨y, k, rfl, rfl, hy, Hk⟩ := hrel
    by_cases h0 : y = 0
    · subst h0
      have fin : Hid ((k : Int) = (Bits.blen x : Int)) := by show _ = _; have := Hk.out; rw [Bits.blen_zero] at this; omega
      go_wp2_with fail
      go_ret
      exact ⟨ret_int fin.out, rfl⟩
    · have ht : 0 < y := by omega
      have hk64 : k ≤ 64 := by have := Hk.out; have := H64.out; omega
      have H2 : Hid (Bits.blen x = k + 1 + Bits.blen (y / 2)) := by show _ = _; have := Hk.out; rw [Bits.blen_pos (x := y) (by omega)] at this; omega
      clear h0
      go_wp2_with fail
      go_round
      case rel => exact ⟨y / 2, k + 1, by go_num, by go_num, by omega, H2⟩
      case measure => simp [intOf]; omega
theorem rtop_calls (k : Nat) (hk : k ≤ 64) (w : World) :
    Calls Try.prog 13 #[.int .i64 k] w fun e w' => e = .returned (.int .u64 (Hst.top k)) ∧ w = w' := by
  have hki : (k : Int) ≤ 64 := by omega
  go_enter Try.func13, Try.ntmps13
  go_wp2_with fail
  go_loop [3, 4] (fun n i => ∃ j : Nat, j ≤ k ∧ i = .int .i64 j ∧ n = .int .u64 (Hst.top j)) (fun _ i => k - (intOf i).toNat)
  case atStart => exact ⟨0, Nat.zero_le _, rfl, by rw [Hst.top_zero]⟩
  case round =>
    obtain ⟨j, hj, rfl, rfl⟩ := hrel
    by_cases hlt : j < k
    · have h1 := Hst.top_in (k := j) (by omega)
      have h2 := Hst.top_in (k := j + 1) (by omega)
      rw [Hst.top_succ] at h2
      have h3 : (j : Int) < k := by omega
      have h4 : (j : Int) < 64 := by omega
      have Hs := hid (Hst.top_succ j)
      generalize Hst.top j = T at *
      go_wp2_with fail
      go_round
      case rel => exact ⟨j + 1, by omega, by go_num, by rw [Hs.out]⟩
      case measure => simp [intOf]; omega
    · obtain rfl : j = k := by omega
      clear hlt
      by_cases h64 : j < 64
      · have h4 : ¬ (j : Int) < j := by omega
        go_wp2_with fail
        go_ret
        exact ⟨rfl, rfl⟩
      · go_wp2_with fail
        go_ret
        exact ⟨rfl, rfl⟩
theorem rmay_calls (n wd : Int) (w : World) (n0 : -9223372036854775808 ≤ n) (n1 : n ≤ 9223372036854775807) (w0 : 0 ≤ wd) (w1 : wd ≤ 18446744073709551615) :
    Calls Try.prog 19 #[.int .i64 n, .int .u64 wd] w fun e w' => e = .returned (.bool (decide (1 ≤ n ∧ n ≤ 8 ∧ 1 ≤ wd ∧ wd ≤ 1099511627776))) ∧ w = w' := by
  by_cases h1 : 1 ≤ n
  case neg =>
    go_enter Try.func19, Try.ntmps19
    go_wp2_with fail
    go_ret
    exact ⟨ret_bool (by first | (symm; rw [decide_eq_false_iff_not]; omega) | (symm; rw [decide_eq_true_iff]; omega) | (simp; omega)), rfl⟩
  by_cases h2 : n ≤ 8
  case neg =>
    go_enter Try.func19, Try.ntmps19
    go_wp2_with fail
    go_ret
    exact ⟨ret_bool (by first | (symm; rw [decide_eq_false_iff_not]; omega) | (symm; rw [decide_eq_true_iff]; omega) | (simp; omega)), rfl⟩
  by_cases h3 : 1 ≤ wd
  case neg =>
    go_enter Try.func19, Try.ntmps19
    go_wp2_with fail
    go_ret
    exact ⟨ret_bool (by first | (symm; rw [decide_eq_false_iff_not]; omega) | (symm; rw [decide_eq_true_iff]; omega) | (simp; omega)), rfl⟩
  by_cases h4 : wd ≤ 1099511627776
  all_goals
    go_enter Try.func19, Try.ntmps19
    go_wp2_with fail
    go_ret
    exact ⟨ret_bool (by first | (symm; rw [decide_eq_false_iff_not]; omega) | (symm; rw [decide_eq_true_iff]; omega) | (simp; omega)), rfl⟩
/-- Something that was noted: in which bucket, and how long it took. -/
abbrev O := Int × Nat
def oz : O := (0, 0)
/-- What a slice of notes holds. -/
def RowO (w : World) (A : Option Addr) (l : List O) : Prop := l = [] ∨ ∃ b o, A = some ⟨b, o, none⟩ ∧ ∀ i, i < l.length → w.cell? ⟨b, o + i * 2, none⟩ = some (.int .u64 (l.getD i oz).1) ∧ w.cell? ⟨b, o + i * 2 + 1, none⟩ = some (.int .u64 (l.getD i oz).2)
theorem cell_below {w w' : World} (h : Below w.heap.size w w') {p : Addr} {v : Value} (hc : w.cell? p = some v) : w'.cell? p = some v := (h.cell (World.block_lt_of_cell? w p hc)).trans hc
theorem RowO.below {w w' : World} {A : Option Addr} {l : List O} (h : RowO w A l) (hb : Below w.heap.size w w') : RowO w' A l := by
  rcases h with rfl | ⟨b, o, rfl, h⟩
  · exact .inl rfl
  · exact .inr ⟨b, o, rfl, fun i hi => ⟨cell_below hb (h i hi).1, cell_below hb (h i hi).2⟩⟩
/-- Notes as cells. -/
def ocells (l : List O) : List Value := l.flatMap fun e => [.int .u64 e.1, .int .u64 (e.2 : Int)]
theorem ocells_len (l : List O) : (ocells l).length = l.length * 2 := by
  unfold ocells
  induction l with
  | nil => rfl
  | cons h hs ih => rw [List.flatMap_cons, List.length_append, ih]; show 2 + hs.length * 2 = (hs.length + 1) * 2; omega
theorem ocells_append (l m : List O) : ocells (l ++ m) = ocells l ++ ocells m := by unfold ocells; rw [List.flatMap_append]
theorem ocells_one (l : List O) : ∀ u ∈ ocells l, u.oneCell' = true := by
  intro u hu
  obtain ⟨e, _, he⟩ := List.mem_flatMap.1 hu
  simp at he
  rcases he with rfl | rfl <;> rfl
theorem ocells_at (l : List O) (i : Nat) (hi : i < l.length) (j : Nat) (v : Value) (hj : [Value.int .u64 l[i].1, .int .u64 (l[i].2 : Int)][j]? = some v) : (ocells l)[i * 2 + j]? = some v := by
  have h1 : l = l.take i ++ l[i] :: l.drop (i + 1) := by rw [← List.drop_eq_getElem_cons hi, List.take_append_drop]
  have h2 : ocells l = ocells (l.take i) ++ ([Value.int .u64 l[i].1, .int .u64 (l[i].2 : Int)] ++ ocells (l.drop (i + 1))) := by
    conv => lhs; rw [h1]
    unfold ocells
    rw [List.flatMap_append, List.flatMap_cons]
  have hl : (ocells (l.take i)).length = i * 2 := by rw [ocells_len, List.length_take, Nat.min_eq_left (by omega)]
  have hj9 : j < [Value.int .u64 l[i].1, .int .u64 (l[i].2 : Int)].length := (List.getElem?_eq_some_iff.1 hj).1
  rw [h2, List.getElem?_append_right (by omega), hl, Nat.add_sub_cancel_left, List.getElem?_append_left hj9]
  exact hj
theorem ocells_get (l : List O) (q : Nat) (u : Value) (hq : (ocells l)[q]? = some u) : ∃ i, ∃ hi : i < l.length, (q = i * 2 ∧ u = .int .u64 l[i].1) ∨ (q = i * 2 + 1 ∧ u = .int .u64 (l[i].2 : Int)) := by
  have hl := (List.getElem?_eq_some_iff.1 hq).1
  rw [ocells_len] at hl
  refine ⟨q / 2, by omega, ?_⟩
  by_cases he : q % 2 = 0
  · left
    have := ocells_at l (q / 2) (by omega) 0 _ rfl
    rw [show q / 2 * 2 + 0 = q from by omega, hq] at this
    injection this with this
    exact ⟨by omega, this⟩
  · right
    have := ocells_at l (q / 2) (by omega) 1 _ rfl
    rw [show q / 2 * 2 + 1 = q from by omega, hq] at this
    injection this with this
    exact ⟨by omega, this⟩
theorem RowO.news {w : World} {ad : Addr} {l : List O} (h : RowO w (some ad) l) : ∀ j u, (ocells l)[j]? = some u → w.cell? (ad.add j) = some u := by
  intro j u hj
  obtain ⟨i, hi, h2⟩ := ocells_get l j u hj
  rcases h with rfl | ⟨b, o, hA, h⟩
  · exact absurd hi (Nat.not_lt_zero _)
  · injection hA with hA
    subst hA
    have h3 := h i hi
    rw [List.getD_eq_getElem?_getD, List.getElem?_eq_getElem hi] at h3
    rw [Addr.add_mid]
    rcases h2 with ⟨rfl, rfl⟩ | ⟨rfl, rfl⟩
    · exact h3.1
    · rw [← Nat.add_assoc]; exact h3.2
theorem owns_rowO {w : World} {base n : Nat} {v : Value} {l : List O} (h : w.ownsRow base 68 2 v n (ocells l)) (hn : l.length = n) : ∃ A c, v = .slice A l.length c ∧ RowO w A l := by
  have hc := h
  rcases h.2 with ⟨rfl, h0⟩ | ⟨g, cap, cur, rfl, _⟩
  · have : l = [] := List.eq_nil_of_length_eq_zero (by omega)
    subst this
    exact ⟨none, 0, rfl, .inl rfl⟩
  · refine ⟨some ⟨g, 0, none⟩, cap, by rw [hn], .inr ⟨g, 0, rfl, fun i hi => ?_⟩⟩
    rw [List.getD_eq_getElem?_getD, List.getElem?_eq_getElem hi]
    have h1 := hc.cells rfl (i * 2 + 0) _ (ocells_at l i hi 0 _ rfl)
    have h2 := hc.cells rfl (i * 2 + 1) _ (ocells_at l i hi 1 _ rfl)
    rw [Addr.add_mid] at h1 h2
    exact ⟨h1, by rw [Nat.add_assoc]; exact h2⟩
theorem infoO : ∃ i, Try.prog.info? 68 = some i ∧ i.zero = some (.agg #[.int .u64 0, .int .u64 0]) ∧ i.size = 2 ∧ i.bytes = 16 := by
  have h : (Try.prog.info? 68).map (fun i => (i.zero, i.size, i.bytes)) = some (some (.agg #[.int .u64 0, .int .u64 0]), 2, 16) := by kernel_rfl
  cases hq : Try.prog.info? 68 with
  | none => rw [hq] at h; exact absurd h (by simp)
  | some i => rw [hq] at h; simp at h; exact ⟨i, rfl, h.1, h.2.1, h.2.2⟩
theorem via {W w w' : World} (hb : Below W.heap.size W w) (hl : Below w.heap.size w w') : Below W.heap.size W w' := hb.trans (hl.mono hb.size)
theorem grow (w : World) (o : Obj) : Below w.heap.size w (w.alloc o) := (Below.refl _ _).alloc (Nat.le_refl _) _
theorem below_grown {w0 w w' : World} {row : Option Nat} (hb : Below w0.heap.size w0 w) (hg : w.grownBy w' row) (hr : ∀ g, row = some g → w0.heap.size ≤ g) : Below w0.heap.size w0 w' :=
  ⟨hg.os.trans hb.os, hg.tape.trans hb.tape, hg.output.trans hb.output, Nat.le_trans hb.size hg.size, fun j hj => (hg.block j (Nat.lt_of_lt_of_le hj hb.size) (fun h => by have := hr j h.symm; omega)).trans (hb.block j hj)⟩
/-- The reference's hist: its four cells. -/
abbrev rh (n wd now : Int) (A : Option Addr) (l c : Nat) : Array Value := #[.int .i64 n, .int .u64 wd, .int .u64 now, .slice A l c]
theorem litO (w : World) (base : Nat) (hb : base ≤ w.heap.size) : (w.alloc (.cells #[] 68 (0, 0))).ownsRow base 68 2 (.slice (some ⟨w.heap.size, 0, none⟩) 0 0) 0 (ocells []) :=
  World.ownsRow_lit w #[] 0 hb (by decide) rfl
/-- Notes of a slice appended to a slice of the call's own. -/
theorem appO {w : World} {base : Nat} {v : Value} {L : List O} (hown : w.ownsRow base 68 2 v L.length (ocells L)) (hbase : base ≤ w.heap.size) (l : List O) (A : Option Addr) (c : Nat) (hl : RowO w A l) (hc : A = none → l = [] ∧ c = 0) (hn : L.length + l.length ≤ 100000) :
    ∃ v' w', (Builtin.append_ #[47, 47] 47 #[v, .slice A l.length c]).run Try.prog w = .ok v' w' ∧ w'.ownsRow base 68 2 v' (L ++ l).length (ocells (L ++ l)) ∧ w.grownBy w' v.ownBlock := by
  obtain ⟨i0, i1, i2, i3, i4⟩ := infoO
  cases A with
  | none =>
    obtain ⟨rfl, rfl⟩ := hc rfl
    refine ⟨v, w, run_append_owned_none w base 47 47 68 i0 2 Try.underlying47 i1 v L.length (ocells L) hown, by rw [List.append_nil]; exact hown, ⟨rfl, rfl, rfl, Nat.le_refl _, fun _ _ _ => rfl⟩⟩
  | some ad =>
    obtain ⟨v', w', hr, h2, h3, h4, h5⟩ := run_append_own_at (P := Try.prog) w base 47 47 68 i0 (.agg #[.int .u64 0, .int .u64 0]) 2 16 Try.underlying47 i1 i2 i3 i4 rfl (by decide) v L.length (ocells L) hown ad l.length c (ocells l) (ocells_len l) hl.news (ocells_one l) (by unfold maxLen; omega) (by omega) hbase
    exact ⟨v', w', hr, by rw [List.length_append, ocells_append]; exact h2, h3⟩
theorem litO' (X : World) (B base : Nat) (hB : X.heap.size = B) (hb : base ≤ X.heap.size) : (X.alloc (.cells #[] 68 (0, 0))).ownsRow base 68 2 (.slice (some ⟨B, 0, none⟩) 0 0) (([] : List O)).length (ocells []) := by subst hB; exact litO X base hb
theorem wpl_app {ops : Array Oper} {rest : List Oper} {d : Option Tmp} {pos : String} {aft : Array Edge} {a : Act} {w : World} {Q : Exit → Act → World → Prop} {s x : Operand} {op : Op} (ho : op = .call { callee := .builtin .append, args := #[s, x], argTypes := #[47, 47] }) {base : Nat} {v : Value} {L : List O} (hs : a.eval s = v) (hown : w.ownsRow base 68 2 v L.length (ocells L)) (hbase : base ≤ w.heap.size) (l : List O) (A : Option Addr) (c : Nat) (hx : a.eval x = .slice A l.length c) (hl : RowO w A l) (hc : A = none → l = [] ∧ c = 0) (hn : L.length + l.length ≤ 100000)
    (h : ∀ v' w', w'.ownsRow base 68 2 v' (L ++ l).length (ocells (L ++ l)) → w.grownBy w' v.ownBlock → wpList Try.prog ops Q rest (a.put d v') w') : wpList Try.prog ops Q (⟨d, op, 47, pos, aft, none⟩ :: rest) a w := by
  refine wpList_plain rfl fun K hK => ?_
  obtain ⟨v', w', hv, h1, h2⟩ := appO hown hbase l A c hl hc hn
  subst ho
  unfold Oper.wp execOp
  simp only [resolve, invoke, builtin, Sem.run_bind, Sem.run_pure, Result.andThen_ok, List.map_toArray, List.map_cons, List.map_nil, hs, hx, hv]
  exact hK _ _ (h v' w' h1 h2)
theorem rowO_new (X : World) (B : Nat) (hB : X.heap.size = B) (b : Int) (x : Nat) : RowO (X.alloc (.cells #[.int .u64 b, .int .u64 x] 68 (0, 0))) (some ⟨B, 0, none⟩) [(b, x)] := by
  subst hB
  refine .inr ⟨X.heap.size, 0, rfl, fun i hi => ?_⟩
  obtain rfl : i = 0 := by simpa using hi
  constructor <;> simp [go_sem]
theorem wp_load4 {w : World} {B : Nat} {x0 x1 x2 x3 : Value} (h : w.cell? ⟨B, 0, none⟩ = some x0 ∧ w.cell? ⟨B, 1, none⟩ = some x1 ∧ w.cell? ⟨B, 2, none⟩ = some x2 ∧ w.cell? ⟨B, 3, none⟩ = some x3) : w.rangeAt B 0 [x0, x1, x2, x3] := by
  intro j v hj
  obtain ⟨h0, h1, h2, h3⟩ := h
  rw [Nat.zero_add]
  have hl : j < 4 := (List.getElem?_eq_some_iff.1 hj).1
  match j, hl with
  | 0, _ => injection hj with hj; rw [← hj]; exact h0
  | 1, _ => injection hj with hj; rw [← hj]; exact h1
  | 2, _ => injection hj with hj; rw [← hj]; exact h2
  | 3, _ => injection hj with hj; rw [← hj]; exact h3
theorem RowO.set {w : World} {A : Option Addr} {l : List O} (h : RowO w A l) {B i : Nat} {v : Value} (hne : ∀ b o, A = some ⟨b, o, none⟩ → b ≠ B) : RowO (w.setCell ⟨B, i, none⟩ v) A l := by
  rcases h with rfl | ⟨b, o, rfl, h⟩
  · exact .inl rfl
  · have hb := hne b o rfl
    refine .inr ⟨b, o, rfl, fun j hj => ⟨?_, ?_⟩⟩
    · rw [World.cell?_setCell_other _ _ _ _ (fun e => hb (by injection e with e _ _; exact e.symm))]; exact (h j hj).1
    · rw [World.cell?_setCell_other _ _ _ _ (fun e => hb (by injection e with e _ _; exact e.symm))]; exact (h j hj).2
set_option maxHeartbeats 2000000 in
theorem radd_calls (n wd now t : Int) (x : Nat) (A : Option Addr) (c : Nat) (l : List O) (w : World) (hr : Hid (RowO w A l)) (hc : Hid (A = none → l = [] ∧ c = 0)) (hl : l.length ≤ 1000) (t0 : 0 ≤ t) (t1 : t ≤ 18446744073709551615) (u0 : 0 ≤ now) (u1 : now ≤ 18446744073709551615) (w0 : 1 ≤ wd) (w1 : wd ≤ 1099511627776) (hx : (x : Int) ≤ 18446744073709551615) (m b : Int) (hm : Sat.mx now t = m) (m0 : 0 ≤ m) (m1 : m ≤ 18446744073709551615) (hb : m / wd = b) :
    Calls Try.prog 20 #[.agg (rh n wd now A l.length c), .int .u64 t, .int .u64 x] w fun e w' => ∃ A' c', e = .returned (.agg (rh n wd m A' (l ++ [(b, x)]).length c')) ∧ RowO w' A' (l ++ [(b, x)]) ∧ A' ≠ none ∧ (∀ b o, A' = some ⟨b, o, none⟩ → w.heap.size ≤ b) ∧ Below w.heap.size w w' := by
  obtain ⟨i0, i1, i2, i3, i4⟩ := infoO
  have Hb := hid hb
  have Hm := hid hm
  have Hg : Hid (∀ a b c : Obj, Below w.heap.size w (((w.alloc a).alloc b).alloc c)) := hid fun a b c => (((Below.refl w.heap.size w).alloc (Nat.le_refl _) _).alloc (by simp) _).alloc (by simp; omega) _
  have Hg4 : Hid (∀ a b c d : Obj, Below w.heap.size w ((((w.alloc a).alloc b).alloc c).alloc d)) := hid fun a b c d => (Hg.out a b c).alloc (Hg.out a b c).size d
  go_enter Try.func20, Try.ntmps20
  go_wp2_with (refine wpl_app (v := .slice (some ⟨w.heap.size + 1 + 1 + 1, 0, none⟩) 0 0) (L := []) rfl rfl (litO' _ _ (w.heap.size + 1 + 1 + 1) (by simp) (by simp)) (by simp) l A c rfl (hr.out.below (Hg4.out _ _ _ _)) hc.out (by simp; omega) ?_)
  intro v1 w4 hown hgrow
  rw [List.nil_append] at hown
  have k00 : w4.cell? ⟨w.heap.size, 0, none⟩ = some (.int .i64 n) := hgrow.cell (by simp [go_sem]) (by simp [Value.ownBlock]; try omega)
  have k01 : w4.cell? ⟨w.heap.size, 1, none⟩ = some (.int .u64 wd) := hgrow.cell (by simp [go_sem]) (by simp [Value.ownBlock]; try omega)
  have k02 : w4.cell? ⟨w.heap.size, 2, none⟩ = some (.int .u64 now) := hgrow.cell (by simp [go_sem]) (by simp [Value.ownBlock]; try omega)
  have k03 : w4.cell? ⟨w.heap.size, 3, none⟩ = some (.slice A l.length c) := hgrow.cell (by simp [go_sem]) (by simp [Value.ownBlock]; try omega)
  have k10 : w4.cell? ⟨w.heap.size + 1, 0, none⟩ = some (.int .i64 0) := hgrow.cell (by simp [go_sem]) (by simp [Value.ownBlock]; try omega)
  have f10 : w4.frozen? ⟨w.heap.size + 1, 0, none⟩ = false := (World.frozen?_of_block (hgrow.block (w.heap.size + 1) (by simp; try omega) (by simp [Value.ownBlock]; try omega))).trans (by simp [go_sem])
  have k11 : w4.cell? ⟨w.heap.size + 1, 1, none⟩ = some (.int .u64 0) := hgrow.cell (by simp [go_sem]) (by simp [Value.ownBlock]; try omega)
  have f11 : w4.frozen? ⟨w.heap.size + 1, 1, none⟩ = false := (World.frozen?_of_block (hgrow.block (w.heap.size + 1) (by simp; try omega) (by simp [Value.ownBlock]; try omega))).trans (by simp [go_sem])
  have k12 : w4.cell? ⟨w.heap.size + 1, 2, none⟩ = some (.int .u64 0) := hgrow.cell (by simp [go_sem]) (by simp [Value.ownBlock]; try omega)
  have f12 : w4.frozen? ⟨w.heap.size + 1, 2, none⟩ = false := (World.frozen?_of_block (hgrow.block (w.heap.size + 1) (by simp; try omega) (by simp [Value.ownBlock]; try omega))).trans (by simp [go_sem])
  have k13 : w4.cell? ⟨w.heap.size + 1, 3, none⟩ = some (.slice none 0 0) := hgrow.cell (by simp [go_sem]) (by simp [Value.ownBlock]; try omega)
  have f13 : w4.frozen? ⟨w.heap.size + 1, 3, none⟩ = false := (World.frozen?_of_block (hgrow.block (w.heap.size + 1) (by simp; try omega) (by simp [Value.ownBlock]; try omega))).trans (by simp [go_sem])
  have k20 : w4.cell? ⟨w.heap.size + 1 + 1, 0, none⟩ = some (.int .i64 n) := hgrow.cell (by simp [go_sem]) (by simp [Value.ownBlock]; try omega)
  have f20 : w4.frozen? ⟨w.heap.size + 1 + 1, 0, none⟩ = false := (World.frozen?_of_block (hgrow.block (w.heap.size + 1 + 1) (by simp; try omega) (by simp [Value.ownBlock]; try omega))).trans (by simp [go_sem])
  have k21 : w4.cell? ⟨w.heap.size + 1 + 1, 1, none⟩ = some (.int .u64 wd) := hgrow.cell (by simp [go_sem]) (by simp [Value.ownBlock]; try omega)
  have f21 : w4.frozen? ⟨w.heap.size + 1 + 1, 1, none⟩ = false := (World.frozen?_of_block (hgrow.block (w.heap.size + 1 + 1) (by simp; try omega) (by simp [Value.ownBlock]; try omega))).trans (by simp [go_sem])
  have k22 : w4.cell? ⟨w.heap.size + 1 + 1, 2, none⟩ = some (.int .u64 m) := hgrow.cell (by simp [go_sem]) (by simp [Value.ownBlock]; try omega)
  have f22 : w4.frozen? ⟨w.heap.size + 1 + 1, 2, none⟩ = false := (World.frozen?_of_block (hgrow.block (w.heap.size + 1 + 1) (by simp; try omega) (by simp [Value.ownBlock]; try omega))).trans (by simp [go_sem])
  have k23 : w4.cell? ⟨w.heap.size + 1 + 1, 3, none⟩ = some (.slice A l.length c) := hgrow.cell (by simp [go_sem]) (by simp [Value.ownBlock]; try omega)
  have f23 : w4.frozen? ⟨w.heap.size + 1 + 1, 3, none⟩ = false := (World.frozen?_of_block (hgrow.block (w.heap.size + 1 + 1) (by simp; try omega) (by simp [Value.ownBlock]; try omega))).trans (by simp [go_sem])
  have Hb4 := hid (below_grown (Hg4.out _ _ _ _) hgrow (fun g hg => by simp [Value.ownBlock] at hg; omega))
  have Hown := hid hown
  have Hlt := hid hown.lt
  have hs4 : w.heap.size + 1 + 1 + 1 ≤ w4.heap.size := by have := hgrow.size; simp at this; omega
  clear hgrow hown
  have HN : Hid (∀ (y : Int) (z : Nat), RowO (w4.alloc (.cells #[.int .u64 y, .int .u64 z] 68 (0, 0))) (some ⟨w4.heap.size, 0, none⟩) [(y, z)]) := hid fun y z => rowO_new w4 _ rfl y z
  go_wp2_with (refine wpl_app (v := v1) rfl rfl (Hown.out.alloc _) (by simp; omega) [(b, x)] (some ⟨w4.heap.size, 0, none⟩) 1 rfl (HN.out b x) (by intro h; cases h) (by simp; omega) ?_)
  intro v2 w6 hown hgrow
  have hne1 : Hid (some (w.heap.size + 1) ≠ v1.ownBlock) := hid fun h => by have := (Hlt.out _ h.symm).1; omega
  have hne2 : Hid (some (w.heap.size + 1 + 1) ≠ v1.ownBlock) := hid fun h => by have := (Hlt.out _ h.symm).1; omega
  have p10 : w6.cell? ⟨w.heap.size + 1, 0, none⟩ = some (.int .i64 0) := hgrow.cell (cell_below (grow w4 _) k10) (hne1.out)
  have q10 : w6.frozen? ⟨w.heap.size + 1, 0, none⟩ = false := (World.frozen?_of_block (hgrow.block (w.heap.size + 1) (by simp; omega) (hne1.out))).trans ((World.frozen?_of_block ((grow w4 _).block (w.heap.size + 1) (by omega))).trans f10)
  have p11 : w6.cell? ⟨w.heap.size + 1, 1, none⟩ = some (.int .u64 0) := hgrow.cell (cell_below (grow w4 _) k11) (hne1.out)
  have q11 : w6.frozen? ⟨w.heap.size + 1, 1, none⟩ = false := (World.frozen?_of_block (hgrow.block (w.heap.size + 1) (by simp; omega) (hne1.out))).trans ((World.frozen?_of_block ((grow w4 _).block (w.heap.size + 1) (by omega))).trans f11)
  have p12 : w6.cell? ⟨w.heap.size + 1, 2, none⟩ = some (.int .u64 0) := hgrow.cell (cell_below (grow w4 _) k12) (hne1.out)
  have q12 : w6.frozen? ⟨w.heap.size + 1, 2, none⟩ = false := (World.frozen?_of_block (hgrow.block (w.heap.size + 1) (by simp; omega) (hne1.out))).trans ((World.frozen?_of_block ((grow w4 _).block (w.heap.size + 1) (by omega))).trans f12)
  have p13 : w6.cell? ⟨w.heap.size + 1, 3, none⟩ = some (.slice none 0 0) := hgrow.cell (cell_below (grow w4 _) k13) (hne1.out)
  have q13 : w6.frozen? ⟨w.heap.size + 1, 3, none⟩ = false := (World.frozen?_of_block (hgrow.block (w.heap.size + 1) (by simp; omega) (hne1.out))).trans ((World.frozen?_of_block ((grow w4 _).block (w.heap.size + 1) (by omega))).trans f13)
  have p20 : w6.cell? ⟨w.heap.size + 1 + 1, 0, none⟩ = some (.int .i64 n) := hgrow.cell (cell_below (grow w4 _) k20) (hne2.out)
  have q20 : w6.frozen? ⟨w.heap.size + 1 + 1, 0, none⟩ = false := (World.frozen?_of_block (hgrow.block (w.heap.size + 1 + 1) (by simp; omega) (hne2.out))).trans ((World.frozen?_of_block ((grow w4 _).block (w.heap.size + 1 + 1) (by omega))).trans f20)
  have p21 : w6.cell? ⟨w.heap.size + 1 + 1, 1, none⟩ = some (.int .u64 wd) := hgrow.cell (cell_below (grow w4 _) k21) (hne2.out)
  have q21 : w6.frozen? ⟨w.heap.size + 1 + 1, 1, none⟩ = false := (World.frozen?_of_block (hgrow.block (w.heap.size + 1 + 1) (by simp; omega) (hne2.out))).trans ((World.frozen?_of_block ((grow w4 _).block (w.heap.size + 1 + 1) (by omega))).trans f21)
  have p22 : w6.cell? ⟨w.heap.size + 1 + 1, 2, none⟩ = some (.int .u64 m) := hgrow.cell (cell_below (grow w4 _) k22) (hne2.out)
  have q22 : w6.frozen? ⟨w.heap.size + 1 + 1, 2, none⟩ = false := (World.frozen?_of_block (hgrow.block (w.heap.size + 1 + 1) (by simp; omega) (hne2.out))).trans ((World.frozen?_of_block ((grow w4 _).block (w.heap.size + 1 + 1) (by omega))).trans f22)
  have p23 : w6.cell? ⟨w.heap.size + 1 + 1, 3, none⟩ = some (.slice A l.length c) := hgrow.cell (cell_below (grow w4 _) k23) (hne2.out)
  have q23 : w6.frozen? ⟨w.heap.size + 1 + 1, 3, none⟩ = false := (World.frozen?_of_block (hgrow.block (w.heap.size + 1 + 1) (by simp; omega) (hne2.out))).trans ((World.frozen?_of_block ((grow w4 _).block (w.heap.size + 1 + 1) (by omega))).trans f23)
  have Hb6 := hid (below_grown (Hb4.out.alloc Hb4.out.size _) hgrow (fun g hg => by have := (Hlt.out _ hg).1; omega))
  obtain ⟨A', c', rfl, hrow⟩ := owns_rowO hown rfl
  have Hrow := hid hrow
  have hA : Hid (A' ≠ none) := hid fun h => by
    rcases hrow with h2 | ⟨b, o, h2, _⟩
    · simp at h2
    · rw [h] at h2; cases h2
  have hs6 : w.heap.size + 1 + 1 + 1 ≤ w6.heap.size := by have := hgrow.size; simp at this; omega
  have hblk : Hid (∀ b o, A' = some ⟨b, o, none⟩ → w.heap.size + 1 + 1 + 1 ≤ b) := hid fun b o h => (hown.lt b (by rw [h]; rfl)).1
  clear hgrow hown hrow
  go_wp2_with fail
  refine bodyPost_ret (v := .agg (rh n wd m A' (l.length + 1) c')) (by simp [results, Try.results20, go_sem, p10, p11, p12, p13]) rfl ⟨A', c', by simp, ?_, hA.out, fun b o h => by have := hblk.out b o h; omega, ?_⟩
  · have g1 : ∀ b o, A' = some ⟨b, o, none⟩ → b ≠ w.heap.size + 1 := fun b o h => by have := hblk.out b o h; omega
    have g2 : ∀ b o, A' = some ⟨b, o, none⟩ → b ≠ w.heap.size + 1 + 1 := fun b o h => by have := hblk.out b o h; omega
    exact ((((Hrow.out.set g2).set g1).set g1).set g1).set g1
  · exact ((((Hb6.out.setCell (by simp; omega) _).setCell (by simp) _).setCell (by simp) _).setCell (by simp) _).setCell (by simp) _
end Go.Proofs.Ytmemafhdondfhaa.C06
