/- The walk of the law CodecAll. -/
import Derived.Test.YtcfjefngfmnmaaaC22Q
import Derived.Maps.OwnSet
import Derived.Maps.Views
namespace Go.Proofs.Ytcfjefngfmnmaaa.C22
open Go.RowKit Go.Proofs.Ytcfjefngfmnmaaa Go.Proofs.Ytcfjefngfmnmaaa.Cod
set_option linter.unusedVariables false
set_option linter.unusedSimpArgs false
set_option linter.unnecessarySimpa false
theorem any_same {α : Type} {p q : α → Bool} : ∀ (l : List α), (∀ x ∈ l, p x = q x) → l.any p = l.any q := by
  intro l
  induction l with
  | nil => intro _; rfl
  | cons x l ih => intro h; rw [List.any_cons, List.any_cons, h x List.mem_cons_self, ih fun y hy => h y (List.mem_cons_of_mem _ hy)]
/-- Is a number of bytes one at which events end? -/
def isEnd (L : List Ev) (z : Nat) : Bool := (List.range (L.length + 1)).any fun j => (cat (L.take j)).length == z
theorem isEnd_nil (z : Nat) : isEnd [] z = (0 == z) := by unfold isEnd; simp [cat]
theorem isEnd_snoc (L : List Ev) (e : Ev) (z : Nat) : isEnd (L ++ [e]) z = (isEnd L z || ((cat (L ++ [e])).length == z)) := by
  unfold isEnd
  rw [List.length_append, List.length_singleton, List.range_succ, List.any_append]
  congr 1
  · apply any_same
    intro j hj
    rw [List.mem_range] at hj
    rw [List.take_append_of_le_length (by omega)]
  · simp only [List.any_cons, List.any_nil, Bool.or_false]
    rw [List.take_of_length_le (by simp)]
theorem isEnd_iff (L : List Ev) (z : Nat) : isEnd L z = true ↔ ∃ j, j ≤ L.length ∧ (cat (L.take j)).length = z := by
  unfold isEnd
  rw [List.any_eq_true]
  constructor
  · rintro ⟨j, hj, h⟩
    rw [List.mem_range] at hj
    exact ⟨j, by omega, by simpa using h⟩
  · rintro ⟨j, hj, h⟩
    exact ⟨j, List.mem_range.2 (by omega), by simpa using h⟩
theorem cat_take (L : List Ev) (j : Nat) : (cat L).take (cat (L.take j)).length = cat (L.take j) := by
  conv => lhs; rw [← List.take_append_drop j L]
  rw [cat_append]
  rw [List.take_append_drop, List.take_left]
/-- Bytes of events, cut: all of them are read where events end, and nowhere else. -/
theorem cut_end {K L : List Ev} {n : Nat} (hK : Good K) (hL : Good L) (hn : n ≤ (cat K).length) (h : cat L = (cat K).take n) : isEnd K n = true := by
  have h2 : cat L ++ (cat K).drop n = cat K := by rw [h, List.take_append_drop]
  obtain ⟨k, rfl, hk⟩ := cat_pre hL hK h2
  rw [isEnd_iff]
  refine ⟨L.length, by simp, ?_⟩
  rw [List.take_left, h, List.length_take]
  omega
theorem cut_bad {K L : List Ev} {n : Nat} {r : List Int} (hK : Good K) (hL : Good L) (h : cat L ++ r = (cat K).take n) (hr : r ≠ []) (ht : Cod.take r = none) : isEnd K n = false := by
  apply Bool.eq_false_iff.2
  intro he
  obtain ⟨j, hj, rfl⟩ := (isEnd_iff K n).1 he
  rw [cat_take] at h
  exact cat_bad hL (fun x hx => hK x (List.mem_of_mem_take hx)) h hr ht
/-- The map of the places where events end. -/
def Ends (w : World) (M n : Nat) (L : List Ev) : Prop :=
  ∃ D : DataW Unit, w.ownsMap Try.prog 3 (plainElem Try.prog 4) M n D ∧ ∀ z : Nat, z ≤ 1000000 → D.atKey (.int .i64 z) (.lit (.bool false)) = .lit (.bool (isEnd L z))
theorem keyed : Maps.Keyed Try.prog 3 := Maps.int_keyed Try.underlying3
theorem wfz {z : Nat} (h : z ≤ 1000000) : (Lit.int .i64 (z : Int)).wf = true := WalkArith.wf_i64 (by omega)
theorem keyz {z : Nat} (h : z ≤ 1000000) : keyOf Try.prog 3 (.int .i64 (z : Int)) = some (.int .i64 z) := Maps.keyOf_int_mk Try.underlying3 (wfz h)
theorem Ends.kept {w w' : World} {M n : Nat} {L : List Ev} {row : Option Nat} (h : Ends w M n L) (hg : w.grownBy w' row) (hne : some M ≠ row) : Ends w' M n L := by
  obtain ⟨D, h1, h2⟩ := h
  exact ⟨D, h1.kept hg hne, h2⟩
theorem grown_below {w w' : World} (hb : Below w.heap.size w w') : w.grownBy w' none := ⟨hb.os, hb.tape, hb.output, hb.size, fun k hk _ => hb.block k hk⟩
theorem Ends.below {w w' : World} {M n : Nat} {L : List Ev} (h : Ends w M n L) (hb : Below w.heap.size w w') : Ends w' M n L := h.kept (grown_below hb) (by simp)
theorem Ends.look {w : World} {M n : Nat} {L : List Ev} (h : Ends w M n L) {z : Nat} (hz : z ≤ 1000000) : (Instr.lookup 40 (.map (some M)) (.int .i64 (z : Int)) false).run Try.prog w = .ok (.bool (isEnd L z)) w := by
  obtain ⟨D, h1, h2⟩ := h
  obtain ⟨v, ps, hrun, hv⟩ := h1.lookup keyed Try.underlying40 (z := .bool false) (by kernel_rfl) (plainElem_bool Try.underlying4 false) (keyz hz)
  rw [h2 z hz] at hv
  have : v = .bool (isEnd L z) := by
    unfold plainElem at hv
    rw [Try.underlying4] at hv
    cases v <;> simp at hv
    rw [hv.1]
  rw [this] at hrun
  exact hrun
theorem keyLit (z : Nat) : WideAt.IsKeyLit (.int .i64 (z : Int)) := by first | trivial | exact rfl | decide | (unfold WideAt.IsKeyLit; simp)
theorem Ends.put {w : World} {M n : Nat} {L : List Ev} (h : Ends w M n L) (e : Ev) (hn : n < maxLen) (hz : (cat (L ++ [e])).length ≤ 1000000) : ∃ w', (Instr.mapUpdate 40 (.map (some M)) (.int .i64 ((cat (L ++ [e])).length : Nat)) (.bool true)).run Try.prog w = .ok () w' ∧ Ends w' M (n + 1) (L ++ [e]) ∧ w.grownBy w' (some M) := by
  obtain ⟨D, h1, h2⟩ := h
  obtain ⟨w', hrun, ho, hg⟩ := h1.update keyed Try.underlying40 hn (keyz hz) (plainElem_bool Try.underlying4 true)
  refine ⟨w', hrun, ⟨_, ho, fun z hz' => ?_⟩, hg⟩
  rw [isEnd_snoc]
  by_cases he : (cat (L ++ [e])).length = z
  · rw [he, Maps.atKey_put_same h1.isMap (keyLit z)]
    simp
  · rw [Maps.atKey_put_other (by intro h; injection h with _ h; omega), h2 z hz']
    have : ((cat (L ++ [e])).length == z) = false := by rw [beq_eq_false_iff_ne]; exact he
    rw [this, Bool.or_false]
theorem owns_map_ne {w : World} {base s n m M : Nat} {T : TypeId} {v : Value} {xs : List Value} {L : List Ev} (h : w.ownsRow base T s v n xs) (hm : Ends w M m L) : some M ≠ v.ownBlock := by
  intro he
  obtain ⟨D, ⟨es, clock, hb, _⟩, _⟩ := hm
  rcases h.2 with ⟨rfl, _⟩ | ⟨g, cap, cur, rfl, _, hg, _⟩
  · cases he
  · injection he with he
    subst he
    have hg' : w.heap[M]? = some (.cells cur T (0, 0)) := hg
    rw [hb] at hg'
    cases hg'
/-- What is done of the law's loop behind i events. -/
def Done (w wr : World) (M : Nat) (sv kv iv : Value) (l : List Held) (i : Nat) (hs : List Held) (v : Value) : Prop :=
  sv = .string (strOfNums (cat (hs.map (·.e)))) ∧ kv = v ∧ iv = .int .i64 i ∧ i ≤ 30 ∧ i ≤ l.length ∧ hs.length ≤ i ∧ Good (hs.map (·.e)) ∧ (∀ h ∈ hs, RowI w h.V h.e.vals) ∧ wr.ownsRow w.heap.size 25 9 v hs.length (hcells hs) ∧ Ends wr M (i + 1) (hs.map (·.e)) ∧ Below w.heap.size w wr
/-- Events of an argument. -/
def RowH (w : World) (A : Option Addr) (l : List Held) : Prop := l = [] ∨ ∃ b o, A = some ⟨b, o, none⟩ ∧ ∀ i (hi : i < l.length), w.rangeAt b (o + i * 9) (evF l[i].e l[i].V l[i].c).toList
theorem cat_le {L : List Ev} (h : Good L) : (cat L).length ≤ 49 * L.length := by
  induction L with
  | nil => exact Nat.le_refl _
  | cons e l ih =>
    have h1 := put_len (h e List.mem_cons_self).1
    have h3 := ((may_iff e).1 (h e List.mem_cons_self).1).len
    have h2 := ih fun x hx => h x (List.mem_cons_of_mem _ hx)
    rw [cat_cons, List.length_append, List.length_cons]
    omega
theorem Ends.start (w1 : World) : ∃ w2, (Instr.mapUpdate 40 (.map (some w1.heap.size)) (.int .i64 0) (.bool true)).run Try.prog (w1.alloc (.map #[] 0)) = .ok () w2 ∧ Ends w2 w1.heap.size 1 [] ∧ Below w1.heap.size w1 w2 := by
  have h0 := World.ownsMap_made (H := Unit) w1 Try.prog 3 (plainElem Try.prog 4)
  obtain ⟨w2, hrun, ho, hg⟩ := h0.update keyed Try.underlying40 (by decide) (keyz (z := 0) (by omega)) (plainElem_bool Try.underlying4 true)
  refine ⟨w2, hrun, ⟨_, ho, fun z hz => ?_⟩, below_grown (grow w1 _) hg (fun g hg => by injection hg with hg; omega)⟩
  rw [isEnd_nil]
  by_cases he : z = 0
  · subst he
    rw [Maps.atKey_put_same h0.isMap (keyLit 0)]
    rfl
  · rw [Maps.atKey_put_other (by intro h; injection h with _ h; omega)]
    have : (0 == z) = false := by rw [beq_eq_false_iff_ne]; omega
    rw [this]
    rfl
theorem all_whole {K : List Ev} {w w' : World} {x : Ending} (hK : Good K) (h : AllPost (cat K) w x w') : ∃ A c, x = .returned (.tuple #[.slice A K.length c, .int .i64 0]) ∧ RowE w' A K ∧ Below w.heap.size w w' := by
  rcases h with ⟨⟨L, A, c, hx, hr, hL, hc⟩ | ⟨_, L, r, hL, hc, hr, ht⟩, hb⟩
  · obtain rfl := cat_inj hL hK hc
    exact ⟨A, c, hx, hr, hb⟩
  · exact (cat_bad hL hK hc hr ht).elim
theorem all_cut {K : List Ev} {n : Nat} {w w' : World} {x : Ending} (hK : Good K) (hn : n ≤ (cat K).length) (h : AllPost ((cat K).take n) w x w') :
    ∃ (L : List Ev) (A : Option Addr) (c : Nat) (er : Int), x = .returned (.tuple #[.slice A L.length c, .int .i64 er]) ∧ RowE w' A L ∧ Good L ∧ (isEnd K n = true ∧ er = 0 ∧ cat L = (cat K).take n ∨ isEnd K n = false ∧ er = 2 ∧ L = [] ∧ A = none ∧ c = 0) ∧ Below w.heap.size w w' := by
  rcases h with ⟨⟨L, A, c, hx, hr, hL, hc⟩ | ⟨hx, L, r, hL, hc, hr, ht⟩, hb⟩
  · exact ⟨L, A, c, 0, hx, hr, hL, .inl ⟨cut_end hK hL hn hc, rfl, hc⟩, hb⟩
  · exact ⟨[], none, 0, 2, hx, .inl rfl, (fun e he => absurd he List.not_mem_nil), .inr ⟨cut_bad hK hL hc hr ht, rfl, rfl, rfl, rfl⟩, hb⟩
set_option maxRecDepth 20000 in
set_option maxHeartbeats 8000000 in
theorem all_law_core (l : List Held) (A : Option Addr) (c : Nat) (cut : Int) (w : World) (hl : l.length ≤ 9223372036854775807) (hx : Hid (∀ h ∈ l, h.e.Fits ∧ RowI w h.V h.e.vals ∧ h.e.vals.length ≤ 9223372036854775807)) (hr : Hid (RowH w A l)) (q0 : 0 ≤ cut) (q1 : cut ≤ 65535) :
    Calls Try.prog 7 #[.slice A l.length c, .int .u16 cut] w fun x w' => x = .returned (.bool true) ∧ Below w.heap.size w w' := by
  have hli : (l.length : Int) ≤ 9223372036854775807 := by omega
  obtain ⟨i0, i1, i2, i3, i4⟩ := infoE
  have hmm := @run_makeMap Try.prog
  go_enter Try.func7, Try.ntmps7
  go_wp2_with fail
  refine (awake_calls _).mono ?_
  rintro x w1 ⟨rfl, hb⟩
  have Hb := hid hb
  clear hb
  obtain ⟨w2, hins, hE2, hB2⟩ := Ends.start w1
  have HE2 := hid hE2
  have HB2 := hid (via Hb.out hB2)
  have hMb : Hid (w.heap.size ≤ w1.heap.size) := hid Hb.out.size
  clear hE2 hB2
  go_wp2_with fail
  clear hins hmm
  obtain ⟨M, hM⟩ : ∃ M, w1.heap.size = M := ⟨_, rfl⟩
  rw [hM] at HE2 hMb
  rw [hM]
  clear hM
  go_loopw [6, 7, 9] (fun sv kv iv wr => ∃ (i : Nat) (hs : List Held) (v : Value), Done w wr M sv kv iv l i hs v) (fun _ _ iv _ => l.length - (intOf iv).toNat)
  case atStart => exact ⟨0, [], .slice none 0 0, rfl, rfl, rfl, by omega, by omega, Nat.le_refl _, (fun e he => absurd he List.not_mem_nil), (fun h hh => absurd hh List.not_mem_nil), World.ownsRow_nil _ _ _ _, HE2.out, HB2.out⟩
  case round =>
    obtain ⟨k, hs, v, rfl, hv, rfl, hk30, hkl, hsk, hg, hrw, hO, hEn, hB⟩ := hrel
    have hv' := hv.symm
    clear hv
    subst hv'
    have Hg := hid hg
    have Hrw := hid hrw
    have HO := hid hO
    have HEn := hid hEn
    have HB := hid hB
    have HK := hid (⟨hk30, hkl, hsk⟩ : k ≤ 30 ∧ k ≤ l.length ∧ hs.length ≤ k)
    have hcl := cat_le hg
    rw [List.length_map] at hcl
    have hS1 : (strOfNums (cat (hs.map (·.e)))).size = (cat (hs.map (·.e))).length := strOfNums_size _
    have hcl2 : (cat (hs.map (·.e))).length ≤ 1470 := by omega
    have HS1 := hid hS1
    clear hg hrw hO hEn hB hcl hS1
    by_cases hgo : k < l.length ∧ k < 30
    · obtain ⟨hlt, h30⟩ := hgo
      have hlti : (k : Int) < l.length := by omega
      have h30i : (k : Int) < 30 := by omega
      obtain ⟨b, o, rfl, hrng⟩ : ∃ b o, A = some ⟨b, o, none⟩ ∧ w.rangeAt b (o + k * 9) (evF l[k].e l[k].V l[k].c).toList := by
        rcases hr.out with h | ⟨b, o, rfl, h⟩
        · rw [h] at hlt; exact absurd hlt (Nat.not_lt_zero _)
        · exact ⟨b, o, rfl, h k hlt⟩
      obtain ⟨hf, hrow, hvl⟩ := hx.out l[k] (List.getElem_mem hlt)
      generalize l[k] = x at *
      obtain ⟨e, V, cc⟩ := x
      dsimp only at hf hrow hvl hrng
      have HRng := hid hrng
      have Hf := hid hf
      have Hrow := hid hrow
      have Hfew := hid fun w => few_calls e V cc w hvl
      clear hrng hf hrow
      have rng := range_below HB.out HRng.out
      obtain ⟨a0, a1, a2, a3, a4, a5, a6, a7, a8⟩ := cells9 rng
      clear rng
      obtain ⟨S1, hS1e⟩ : ∃ S, strOfNums (cat (hs.map (·.e))) = S := ⟨_, rfl⟩
      rw [hS1e] at HS1
      rw [hS1e]
      go_wp2_with fail
      refine (Hfew.out _).mono ?_
      rintro y w3 ⟨rfl, hb⟩
      have HB3 := hid (via HB.out hb)
      have HO3 := hid (owns_below HO.out hb)
      have HEn3 := hid (HEn.out.below hb)
      by_cases hfw : (e.vals.length : Int) ≤ 50
      case neg =>
        rw [decide_eq_false hfw]
        clear hb a0 a1 a2 a3 a4 a5 a6 a7 a8 hfw
        go_wp2_with fail
        go_roundw
        case rel => exact ⟨k + 1, hs, v, by rw [hS1e], rfl, by go_num, by omega, by omega, by omega, Hg.out, Hrw.out, HO3.out, by obtain ⟨D, h1, h2⟩ := HEn3.out; exact ⟨D, h1.mono (by omega), h2⟩, HB3.out⟩
        case measure => simp [intOf]; omega
      rw [decide_eq_true hfw]
      clear hb a0 a1 a2 a3 a4 a5 a6 a7 a8
      have rng := range_below HB3.out HRng.out
      obtain ⟨a0, a1, a2, a3, a4, a5, a6, a7, a8⟩ := cells9 rng
      clear rng
      go_wp2_with fail
      refine (may_calls e V cc _ Hf (by omega) (Hrow.out.below HB3.out)).mono ?_
      rintro y w4 ⟨rfl, hb⟩
      have HB4 := hid (via HB3.out hb)
      have HO4 := hid (owns_below HO3.out hb)
      have HEn4 := hid (HEn3.out.below hb)
      clear hb a0 a1 a2 a3 a4 a5 a6 a7 a8
      by_cases hm : may e = true
      case neg =>
        replace hm : may e = false := by simpa using hm
        rw [hm]
        clear hm
        go_wp2_with fail
        go_roundw
        case rel => exact ⟨k + 1, hs, v, by rw [hS1e], rfl, by go_num, by omega, by omega, by omega, Hg.out, Hrw.out, HO4.out, by obtain ⟨D, h1, h2⟩ := HEn4.out; exact ⟨D, h1.mono (by omega), h2⟩, HB4.out⟩
        case measure => simp [intOf]; omega
      have hm8 := ((may_iff e).1 hm).len
      have hpl := put_len hm
      have Hm := hid hm
      rw [hm]
      have rng := range_below HB4.out HRng.out
      obtain ⟨a0, a1, a2, a3, a4, a5, a6, a7, a8⟩ := cells9 rng
      clear rng hm
      go_wp2_with fail
      refine (put_calls e V cc _ Hf (by omega) (Hrow.out.below HB4.out)).mono ?_
      rintro y w5 ⟨rfl, hb⟩
      have HB5 := hid (via HB4.out hb)
      have HO5 := hid (owns_below HO4.out hb)
      have HEn5 := hid (HEn4.out.below hb)
      clear hb a0 a1 a2 a3 a4 a5 a6 a7 a8
      have rng := range_below HB5.out HRng.out
      obtain ⟨a0, a1, a2, a3, a4, a5, a6, a7, a8⟩ := cells9 rng
      clear rng
      have hcat : cat ((hs ++ [(⟨e, V, cc⟩ : Held)]).map (·.e)) = cat (hs.map (·.e)) ++ put e := by rw [List.map_append, cat_append]; exact congrArg _ (cat_one e)
      have hS2s : (strOfNums (put e)).size = (put e).length := strOfNums_size _
      have hS2 : Hid (strOfNums (cat ((hs ++ [(⟨e, V, cc⟩ : Held)]).map (·.e))) = S1 ++ strOfNums (put e)) := hid (by rw [hcat, ← str_append, hS1e])
      have hclen : (cat ((hs ++ [(⟨e, V, cc⟩ : Held)]).map (·.e))).length = S1.size + (strOfNums (put e)).size := by rw [hcat, List.length_append, HS1.out, hS2s]
      have hsz1 : S1.size ≤ 1470 := by have := HS1.out; omega
      have hsz2 : (strOfNums (put e)).size ≤ 49 := by omega
      have Hclen := hid hclen
      have Hg2 : Hid (Good ((hs ++ [(⟨e, V, cc⟩ : Held)]).map (·.e))) := hid (by
        intro x hx
        rw [List.map_append] at hx
        rcases List.mem_append.1 hx with hx | hx
        · exact Hg.out x hx
        · obtain rfl := List.mem_singleton.1 hx
          exact ⟨Hm.out, Hf.out.n⟩)
      clear hcat hS2s hclen hpl hS1e
      generalize strOfNums (put e) = S2 at *
      have hsz : ¬9223372036854775807 < S1.size + S2.size := by omega
      have HN : Hid ((w5.alloc (.cells (evF e V cc) 25 (0, 0))).rangeAt w5.heap.size 0 (evF e V cc).toList) := hid (range_new w5 (evF e V cc) 25)
      go_wp2_with (refine wpList_append_own_at _ rfl _ _ 38 rfl w.heap.size 25 i0 (.agg zeroF) 9 88 Try.underlying38 i1 i2 i3 i4 rfl (by decide) v hs.length (hcells hs) rfl (HO5.out.alloc _) ⟨w5.heap.size, 0, none⟩ 1 1 (evF e V cc).toList rfl rfl (fun j u hj => by rw [Addr.add_mid]; exact HN.out j u hj) (fun u hu => Array.all_eq_true_iff_forall_mem.1 (evF_one e V cc) u (Array.mem_toList_iff.1 hu)) (by unfold maxLen; omega) (by omega) (by have := HB5.out.size; simp; omega) ?_)
      intro v' w6 hown hgrow _ _
      have hE5' := HEn5.out.below (grow w5 (.cells (evF e V cc) 25 (0, 0)))
      have HEn6 := hid (hE5'.kept hgrow (owns_map_ne (HO5.out.alloc (.cells (evF e V cc) 25 (0, 0))) hE5'))
      have HB6 := hid (below_grown (HB5.out.alloc HB5.out.size _) hgrow (fun g hg => (HO5.out.lt g hg).1))
      have HO6 := hid hown
      clear hown hgrow hE5' a0 a1 a2 a3 a4 a5 a6 a7 a8
      have hE6 : Ends w6 M (k + 1) (hs.map (·.e)) := HEn6.out
      obtain ⟨w7, hput, hE7, hg7⟩ := hE6.put e (by unfold maxLen; omega) (by have := Hclen.out; rw [List.map_append] at this; rw [show [e] = [(⟨e, V, cc⟩ : Held)].map (·.e) from rfl, this]; omega)
      have hk7 : ((cat (hs.map (·.e) ++ [e])).length : Nat) = S1.size + S2.size := by have := Hclen.out; rw [List.map_append] at this; exact this
      rw [hk7, Int.natCast_add] at hput
      have Hput := hid hput
      have HE7 : Hid (Ends w7 M (k + 1 + 1) ((hs ++ [(⟨e, V, cc⟩ : Held)]).map (·.e))) := hid (by rw [List.map_append]; exact hE7)
      have HB7 := hid (below_grown HB6.out hg7 (fun g hg => by injection hg with hg; have := hMb.out; omega))
      have HO7 := hid (HO6.out.kept hg7 (.inr (fun h => owns_map_ne HO6.out HEn6.out h.symm)))
      have Hrw7 : Hid (∀ h ∈ hs ++ [(⟨e, V, cc⟩ : Held)], RowI w h.V h.e.vals) := hid (fun h hh => by
        rcases List.mem_append.1 hh with hh | hh
        · exact Hrw.out h hh
        · obtain rfl := List.mem_singleton.1 hh
          exact Hrow.out)
      clear hE6 hE7 hg7 hk7
      go_wp2_with fail
      clear hput
      go_roundw
      case rel => exact ⟨k + 1, hs ++ [(⟨e, V, cc⟩ : Held)], v', by rw [hS2.out], rfl, by go_num, by omega, by omega, by rw [List.length_append]; show hs.length + 1 ≤ _; omega, Hg2.out, Hrw7.out, by rw [List.length_append, hcells_snoc]; exact HO7.out, HE7.out, HB7.out⟩
      case measure => simp [intOf]; omega
    · have hexit : ¬ ((k : Int) < l.length) ∨ ((k : Int) < l.length ∧ ¬ (k : Int) < 30) := by omega
      have HEv : Hid (∀ w', Below wr.heap.size wr w' → Evs w' w.heap.size v hs) := hid fun w' hb => Evs.below ⟨HO.out, fun h hh => ⟨(Hrw.out h hh).below HB.out, by
        by_cases hn : h.e.vals = []
        · exact .inl hn
        · right
          intro b o hV hq
          have h1 := rowI_lt (Hrw.out h hh) hn b o hV
          have h2 := (HO.out.lt b hq).1
          omega⟩⟩ hb
      obtain ⟨S1, hS1e⟩ : ∃ S, strOfNums (cat (hs.map (·.e))) = S := ⟨_, rfl⟩
      rw [hS1e] at HS1
      rw [hS1e]
      have hS1z : S1.size ≤ 1470 := by have := HS1.out; omega
      have hnS : nums S1 = cat (hs.map (·.e)) := by rw [← hS1e]; exact nums_str (cat_ok _)
      obtain ⟨j, hj⟩ := Int.eq_ofNat_of_zero_le (Int.emod_nonneg cut (show (S1.size : Int) + 1 ≠ 0 by omega))
      have hjn : j ≤ S1.size := by have := Int.emod_lt_of_pos cut (show (0 : Int) < (S1.size : Int) + 1 by omega); omega
      have hnz : ((S1.size : Int) + 1 == 0) = false := by rw [beq_eq_false_iff_ne]; omega
      have hjI : (j : Int) ≤ (S1.size : Int) := by omega
      have hexs : (S1.extract 0 j).size ≤ 1470 := by rw [ByteArray.size_extract]; omega
      have hnT : nums (S1.extract 0 j) = (cat (hs.map (·.e))).take j := by rw [nums_extract, hnS]; simp
      have Hj := hid hj
      have HnS := hid hnS
      have HnT := hid hnT
      have Hjn := hid hjn
      have Hexs := hid hexs
      have Hgl : Hid (∀ e ∈ hs.map (·.e), e.vals.length ≤ 1000000) := hid fun e he => by have := ((may_iff e).1 (Hg.out e he).1).len; omega
      clear hnS hnT hexs
      obtain ⟨A0, c0, rfl, hrow0⟩ := Evs.row (HEv.out wr (Below.refl _ _))
      have Hrow0 := hid hrow0
      have Hkl : Hid ((hs.map (·.e)).length ≤ 1000000) := hid (by rw [List.length_map]; omega)
      clear hrow0 HEv
      clear HO Hrw hS1e
      generalize hs.map (·.e) = K at *
      rcases hexit with hexit | ⟨hexit, hexit2⟩
      all_goals
        go_wp2_with fail
        refine (all_calls S1 _ (by omega)).mono ?_
        rintro y w3 hy
        rw [HnS.out] at hy
        obtain ⟨A1, c1, rfl, hr1, hb⟩ := all_whole Hg.out hy
        have HB3 := hid (via HB.out hb)
        have HE3 := hid (HEn.out.below hb)
        have HR0 := hid (Hrow0.out.below hb)
        have HR1 := hid hr1
        clear hy hr1 hb
        go_wp2_with fail
        refine (all_calls (S1.extract 0 j) _ (by have := Hexs.out; omega)).mono ?_
        rintro y w4 hy
        rw [HnT.out] at hy
        obtain ⟨L2, A2, c2, er2, rfl, hr2, hg2, hcase2, hb⟩ := all_cut Hg.out (by rw [← HS1.out]; exact Hjn.out) hy
        have HB4 := hid (via HB3.out hb)
        have HE4 := hid (HE3.out.below hb)
        have HR0b := hid (HR0.out.below hb)
        have HR1b := hid (HR1.out.below hb)
        have HR2 := hid hr2
        have HG2 := hid hg2
        have Hcase2 := hid hcase2
        clear hy hr2 hg2 hcase2 hb
        go_wp2_with fail
        refine (rall_calls (S1.extract 0 j) _ (by have := Hexs.out; omega)).mono ?_
        rintro y w5 hy
        rw [HnT.out] at hy
        obtain ⟨L3, A3, c3, er3, rfl, hr3, hg3, hcase3, hb⟩ := all_cut Hg.out (by rw [← HS1.out]; exact Hjn.out) hy
        have hsame : er2 = er3 ∧ L2 = L3 := by
          rcases Hcase2.out with ⟨h1, h2, h3⟩ | ⟨h1, h2, h3, _⟩ <;> rcases hcase3 with ⟨k1, k2, k3⟩ | ⟨k1, k2, k3, _⟩
          · exact ⟨by omega, cat_inj HG2.out hg3 (h3.trans k3.symm)⟩
          · rw [h1] at k1; cases k1
          · rw [h1] at k1; cases k1
          · exact ⟨by omega, by rw [h3, k3]⟩
        obtain ⟨rfl, rfl⟩ := hsame
        have HB5 := hid (via HB4.out hb)
        have HE5 := hid (HE4.out.below hb)
        have HR0c := hid (HR0b.out.below hb)
        have HR1c := hid (HR1b.out.below hb)
        have HR2b := hid (HR2.out.below hb)
        have HR3 := hid hr3
        have hlen2 : L2.length ≤ 1000000 := by
          have h1 := cat_len HG2.out
          rcases Hcase2.out with ⟨_, _, h3⟩ | ⟨_, _, h3, _⟩
          · rw [h3, List.length_take] at h1
            have := HS1.out
            omega
          · rw [h3]; exact Nat.zero_le _
        have Hgl2 : Hid (∀ e ∈ L2, e.vals.length ≤ 1000000) := hid fun e he => by have := ((may_iff e).1 (HG2.out e he).1).len; omega
        have Hev1 := hid fun w (h1 : Hid (RowE w A1 K)) (h0 : Hid (RowE w A0 K)) => events_same K A1 A0 c1 c0 w Hkl.out Hgl h1 h0
        have Hev2 := hid fun w (h2 : Hid (RowE w A2 L2)) (h3 : Hid (RowE w A3 L2)) => events_same L2 A2 A3 c2 c3 w hlen2 Hgl2 h2 h3
        have hl2i : (L2.length : Int) ≤ 1000000 := by omega
        clear hy hr3 hg3 hcase3 hb HR0 HR1 HR0b HR1b HR2 HE3 HE4
        go_wp2_with fail
        refine (Hev1.out _ HR1c HR0c).mono ?_
        rintro y w6 ⟨rfl, hb⟩
        have HB6 := hid (via HB5.out hb)
        have hlook := (HE5.out.below hb).look (z := j) (by omega)
        have HR2c := hid (HR2b.out.below hb)
        have HR3b := hid (HR3.out.below hb)
        have Hhb := hid hb
        clear hb
        rcases Hcase2.out with ⟨h1, h2, -⟩ | ⟨h1, h2, h3, h4, h5⟩
        · rw [h1] at hlook
          subst h2
          clear h1 Hcase2
          go_wp2_with fail
          refine (Hev2.out _ HR2c HR3b).mono ?_
          rintro y w7 ⟨rfl, hb⟩
          have HB7 := hid (via HB6.out hb)
          clear hb hlook
          go_wp2_with fail
          go_ret
          exact ⟨rfl, HB7.out⟩
        · rw [h1] at hlook
          subst h2 h3 h4 h5
          clear h1 Hcase2
          go_wp2_with fail
          refine (Hev2.out _ HR2c HR3b).mono ?_
          rintro y w7 ⟨rfl, hb⟩
          have HB7 := hid (via HB6.out hb)
          clear hb hlook
          go_wp2_with fail
          go_ret
          exact ⟨rfl, HB7.out⟩
end Go.Proofs.Ytcfjefngfmnmaaa.C22
