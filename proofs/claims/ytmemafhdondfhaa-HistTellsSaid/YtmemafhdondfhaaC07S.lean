/- What All of the reference of chapter 7 tells. -/
import Derived.Test.YtmemafhdondfhaaC07R
import Derived.Test.YtmemafhdondfhaaReg2
import Derived.Deep.WholeRow
namespace Go.Proofs.Ytmemafhdondfhaa.C06
open Go.RowKit Go.Proofs.Ytmemafhdondfhaa Go.Proofs.Ytmemafhdondfhaa.Win
set_option linter.unusedVariables false
set_option linter.unusedSimpArgs false
set_option linter.unnecessarySimpa false
attribute [local go_sem] C01.max2_mx C01.min2_mn C01.max_two C01.min_two
/-- Is a note in the last buckets? -/
def rin (b n : Int) (e : O) : Bool := decide (IntKind.u64.wrap (b - e.1) < n)
/-- How many notes of a bin there are. -/
def rcnt (b n : Int) (l : List O) (q : Nat) : Int := ((l.countP fun e => rin b n e && (Bits.blen e.2 == q) : Nat) : Int)
theorem rcnt_le (b n : Int) (l : List O) (q : Nat) : 0 ≤ rcnt b n l q ∧ rcnt b n l q ≤ l.length := by
  unfold rcnt
  have := List.countP_le_length (p := fun e : O => rin b n e && (Bits.blen e.2 == q)) (l := l)
  omega
theorem rcnt_succ (b n : Int) (l : List O) (k : Nat) (hk : k < l.length) (q : Nat) : rcnt b n (l.take (k + 1)) q = rcnt b n (l.take k) q + if rin b n (l.getD k oz) && (Bits.blen (l.getD k oz).2 == q) then 1 else 0 := by
  unfold rcnt
  rw [List.take_succ_eq_append_getElem hk, List.countP_append, List.countP_cons, List.countP_nil, List.getD_eq_getElem?_getD, List.getElem?_eq_getElem hk]
  show _ = _ + if (rin b n l[k] && (Bits.blen l[k].2 == q)) = true then 1 else 0
  split <;> simp
theorem there_grow {w w' : World} {b o k : Nat} (h : w.there b o k) (hb : Below w.heap.size w w') : w'.there b o k := fun j hj => by
  obtain ⟨h1, h2⟩ := h j hj
  obtain ⟨v, hv⟩ := Option.isSome_iff_exists.1 h1
  have hlt := World.block_lt_of_cell? w _ hv
  exact ⟨by rw [cell_below hb hv]; rfl, by rw [World.frozen?_of_block (w := w) (hb.block b hlt)]; exact h2⟩
theorem range_grow {w w' : World} {b o : Nat} {cs : List Value} (h : w.rangeAt b o cs) (hb : Below w.heap.size w w') : w'.rangeAt b o cs := fun j v hj => cell_below hb (h j v hj)
theorem range_set {w : World} {b o B i : Nat} {cs : List Value} {v : Value} (h : w.rangeAt b o cs) (hne : b ≠ B) : (w.setCell ⟨B, i, none⟩ v).rangeAt b o cs := fun j u hj => by
  rw [World.cell?_setCell_other _ _ _ _ (fun e => hne (by injection e with e _ _; exact e.symm))]
  exact h j u hj
theorem there_set {w : World} {b o k B i : Nat} {v : Value} (h : w.there b o k) (hne : b ≠ B) : (w.setCell ⟨B, i, none⟩ v).there b o k := fun j hj => by
  obtain ⟨h1, h2⟩ := h j hj
  exact ⟨by rw [World.cell?_setCell_other _ _ _ _ (fun e => hne (by injection e with e _ _; exact e.symm))]; exact h1, by rw [World.frozen?_setCell]; exact h2⟩
theorem there_sets {w : World} {b o k B : Nat} (hne : b ≠ B) (h : w.there b o k) : ∀ (vs : List Value) (i : Nat), (w.setCells B i vs).there b o k := by
  intro vs
  induction vs generalizing w with
  | nil => intro i; exact h
  | cons v vs ih => intro i; exact ih (there_set h hne) (i + 1)
theorem range_sets {w : World} {b o B : Nat} {cs : List Value} (hne : b ≠ B) (h : w.rangeAt b o cs) : ∀ (vs : List Value) (i : Nat), (w.setCells B i vs).rangeAt b o cs := by
  intro vs
  induction vs generalizing w with
  | nil => intro i; exact h
  | cons v vs ih => intro i; exact ih (range_set h hne) (i + 1)
theorem RowO.sets {w : World} {A : Option Addr} {l : List O} {B : Nat} (hne : ∀ b o, A = some ⟨b, o, none⟩ → b ≠ B) (h : RowO w A l) : ∀ (vs : List Value) (i : Nat), RowO (w.setCells B i vs) A l := by
  intro vs
  induction vs generalizing w with
  | nil => intro i; exact h
  | cons v vs ih => intro i; exact ih (RowO.set h hne) (i + 1)
theorem there_of (w : World) (C : Array Value) (t : TypeId) (B k : Nat) (hB : w.heap.size = B) (hk : k ≤ C.size) : (w.alloc (.cells C t (0, 0))).there B 0 k := fun j hj => by
  subst hB
  have hh : (w.alloc (.cells C t (0, 0))).heap[w.heap.size]? = some (.cells C t (0, 0)) := heap_alloc_new _ _
  rw [Nat.zero_add]
  refine ⟨?_, frozen_of_row _ _ _ _ _ hh⟩
  rw [cell_of_row _ _ _ _ _ _ hh, Array.getElem?_eq_getElem (by omega)]
  rfl
theorem range_of (w : World) (C : Array Value) (t : TypeId) (B : Nat) (hB : w.heap.size = B) : (w.alloc (.cells C t (0, 0))).rangeAt B 0 C.toList := by
  subst hB
  intro j v hj
  have hh : (w.alloc (.cells C t (0, 0))).heap[w.heap.size]? = some (.cells C t (0, 0)) := heap_alloc_new _ _
  rw [Nat.zero_add, cell_of_row _ _ _ _ _ _ hh]
  simpa using hj
theorem rres_all (T : Array Value) (w : World) (B1 B2 : Nat) (F G : Array Value) (h4 : T.getD 4 undef = .pointer (some ⟨B1, 0, none⟩)) (h5 : T.getD 5 undef = .pointer (some ⟨B2, 0, none⟩)) (hF : w.rangeAt B1 0 F.toList) (hG : w.rangeAt B2 0 G.toList) (s1 : F.size = 4) (s2 : G.size = 65) :
    (results Try.f21 T).run Try.prog w = .ok (.tuple #[.agg F, .agg G]) w := by
  have hi4 : (Try.prog.info? 49).map (·.size) = some F.toList.length := by rw [Array.length_toList, s1]; kernel_rfl
  have hi65 : (Try.prog.info? 42).map (·.size) = some G.toList.length := by rw [Array.length_toList, s2]; kernel_rfl
  have hl1 := run_loadVar_mid w B1 0 49 F.toList _ hF Try.underlying49 rfl hi4
  have hl2 := run_loadVar_mid w B2 0 42 G.toList _ hG Try.underlying42 rfl hi65
  unfold results
  rw [Try.results21]
  rw [Array.getD_eq_getD_getElem?] at h4 h5
  simp [Sem.run_bind, h4, h5, asAddr, hl1, hl2]
theorem Rg4.sets {w : World} {b n : Nat} (h : w.there b 0 n) (vs : List Value) (hv : vs.length ≤ n) : (w.setCells b 0 vs).there b 0 n := fun j hj => by
  refine ⟨?_, by rw [World.frozen?_setCells]; exact (h j hj).2⟩
  by_cases hlt : j < vs.length
  · have := World.cell?_setCells_in b vs 0 w (fun i hi => (h i (by omega)).1) j hlt
    rw [this]; rfl
  · rw [World.cell?_setCells_out _ _ _ _ _ (fun _ _ => .inr (by show 0 + vs.length ≤ 0 + j; omega))]
    exact (h j hj).1
theorem rh_one (n wd m : Int) (A : Option Addr) (l c : Nat) : (rh n wd m A l c).all (·.oneCell') = true :=
  Array.all_eq_true_iff_forall_mem.2 (by
    intro v hv
    simp at hv
    rcases hv with rfl | rfl | rfl | rfl <;> rfl)
/-- Where the loop stands behind k notes. -/
def RInv (n wd now m b : Int) (A : Option Addr) (c : Nat) (l : List O) (w : World) (k : Nat) (wr : World) : Prop :=
  wr.rangeAt w.heap.size 0 (rh n wd now A l.length c).toList ∧ wr.there (w.heap.size + 1) 0 4 ∧ wr.there (w.heap.size + 2) 0 65 ∧ wr.rangeAt (w.heap.size + 3) 0 (rh n wd m A l.length c).toList ∧ Bins wr (w.heap.size + 4) (rcnt b n (l.take k)) ∧ RowO wr A l ∧ Below w.heap.size w wr ∧ w.heap.size + 4 < wr.heap.size
theorem RInv.drewN {n wd now m b : Int} {A : Option Addr} {c : Nat} {l : List O} {w wr : World} {k : Nat} (h : RInv n wd now m b A c l w k wr) (q : Nat) : RInv n wd now m b A c l w k (wr.drewN q) := ⟨h.1, h.2.1, h.2.2.1, h.2.2.2.1, h.2.2.2.2.1, h.2.2.2.2.2.1, ⟨h.2.2.2.2.2.2.1.os, h.2.2.2.2.2.2.1.tape, h.2.2.2.2.2.2.1.output, h.2.2.2.2.2.2.1.size, h.2.2.2.2.2.2.1.block⟩, h.2.2.2.2.2.2.2⟩
theorem rowO_lt {w : World} {A : Option Addr} {l : List O} (h : RowO w A l) (hl : l ≠ []) : ∀ b o, A = some ⟨b, o, none⟩ → b < w.heap.size := by
  intro b o hV
  rcases h with h | ⟨b', o', hV', h⟩
  · exact absurd h hl
  · rw [hV] at hV'
    injection hV' with hV'
    injection hV' with h1 h2 _
    subst h1 h2
    exact World.block_lt_of_cell? w _ (h 0 (by cases l with | nil => exact absurd rfl hl | cons => simp)).1
theorem rowO_set {w wr : World} {A : Option Addr} {l : List O} {B i : Nat} {v : Value} (h0 : RowO w A l) (hB : w.heap.size ≤ B) (h : RowO wr A l) : RowO (wr.setCell ⟨B, i, none⟩ v) A l := by
  by_cases hl : l = []
  · exact .inl hl
  · exact h.set fun b o hA e => by have := rowO_lt h0 hl b o hA; omega
theorem rowO_sets {w wr : World} {A : Option Addr} {l : List O} {B : Nat} (h0 : RowO w A l) (hB : w.heap.size ≤ B) (h : RowO wr A l) (vs : List Value) (i : Nat) : RowO (wr.setCells B i vs) A l := by
  by_cases hl : l = []
  · exact .inl hl
  · exact RowO.sets (fun b o hA e => by have := rowO_lt h0 hl b o hA; omega) h vs i
theorem RInv.skip {n wd now m b : Int} {A : Option Addr} {c : Nat} {l : List O} {w wr : World} {k : Nat} (h : RInv n wd now m b A c l w k wr) (hk : k < l.length) (hs : rin b n (l.getD k oz) = false) : RInv n wd now m b A c l w (k + 1) wr := by
  obtain ⟨h1, h2, h3, h4, h5, h6⟩ := h
  refine ⟨h1, h2, h3, h4, fun i hi => ?_, h6⟩
  have := h5 i hi
  rw [rcnt_succ b n l k hk i, hs]
  simpa using this
theorem RInv.hit {n wd now m b : Int} {A : Option Addr} {c : Nat} {l : List O} {w wr : World} {k q : Nat} (h : RInv n wd now m b A c l w k wr) (h0 : RowO w A l) (hk : k < l.length) (hs : rin b n (l.getD k oz) = true) (hq : Bits.blen (l.getD k oz).2 = q) (v : Int) (hv : v = rcnt b n (l.take k) q + 1) : RInv n wd now m b A c l w (k + 1) (wr.setCell ⟨w.heap.size + 4, q, none⟩ (.int .u64 v)) := by
  obtain ⟨h1, h2, h3, h4, h5, h6, h7, h8⟩ := h
  refine ⟨range_set h1 (by omega), there_set h2 (by omega), there_set h3 (by omega), range_set h4 (by omega), fun i hi => ?_, rowO_set h0 (by omega) h6, h7.setCell (by simp) _, by simpa [World.setCell] using h8⟩
  have := h5.set q v i hi
  refine ⟨?_, this.2⟩
  rw [this.1, rcnt_succ b n l k hk i, hs, hq]
  unfold upd
  by_cases he : i = q
  · subst he; simp [hv]
  · rw [if_neg he]
    have : (q == i) = false := by rw [beq_eq_false_iff_ne]; omega
    rw [this]; simp
set_option maxHeartbeats 4000000 in
set_option maxRecDepth 100000 in
theorem rall_calls (n wd now t : Int) (A : Option Addr) (c : Nat) (l : List O) (w : World) (hr : Hid (RowO w A l)) (hl : l.length ≤ 1000) (hx : Hid (∀ e ∈ l, 0 ≤ e.1 ∧ e.1 ≤ 18446744073709551615 ∧ e.2 < 18446744073709551616)) (t0 : 0 ≤ t) (t1 : t ≤ 18446744073709551615) (u0 : 0 ≤ now) (u1 : now ≤ 18446744073709551615) (w0 : 1 ≤ wd) (w1 : wd ≤ 1099511627776) (n0 : 1 ≤ n) (n1 : n ≤ 8) (m b : Int) (hm : Sat.mx now t = m) (m0 : 0 ≤ m) (m1 : m ≤ 18446744073709551615) (hb : m / wd = b) (b0 : 0 ≤ b) (b1 : b ≤ 18446744073709551615) :
    Calls Try.prog 21 #[.agg (rh n wd now A l.length c), .int .u64 t] w fun e w' => e = .returned (.tuple #[.agg (rh n wd m A l.length c), .agg (bl (rcnt b n l)).toArray]) ∧ RowO w' A l ∧ Below w.heap.size w w' := by
  obtain ⟨ZA, hZA⟩ : ∃ Z : Array Value, Hid (Z = (bl fun _ => 0).toArray) := ⟨_, hid rfl⟩
  have hz : ∀ w, (zeroValue 42).run Try.prog w = .ok (.agg ZA) w := by rw [hZA.out]; exact zero42
  have hli : (l.length : Int) ≤ 1000 := by omega
  have hst : ∀ a b c d : Obj, Sem.run Try.prog (storeCells ⟨w.heap.size + 1 + 1 + 1 + 1, 0, none⟩ ZA.toList) (((((w.alloc a).alloc b).alloc c).alloc d).alloc (.cells ZA 42 (0, 0))) = .ok () (((((w.alloc a).alloc b).alloc c).alloc d).alloc (.cells ZA 42 (0, 0))) := by
    intro a b c d
    rw [show w.heap.size + 1 + 1 + 1 + 1 = ((((w.alloc a).alloc b).alloc c).alloc d).heap.size from by simp]
    exact run_storeCells_new _ _ ZA ZA (by rw [hZA.out]; kernel_rfl) rfl (by rw [hZA.out]; exact all_oneCell_toArray (bl_one _))
  have hZs : ZA.size = 65 := by rw [hZA.out, List.size_toArray, bl_len]
  subst hb
  go_enter Try.func21, Try.ntmps21
  go_wp2_with fail
  generalize hbb : m / wd = b at *
  have Hbb := hid hbb
  clear hbb
  have HI : Hid (RInv n wd now m b A c l w 0 (((((w.alloc (.cells (rh n wd now A l.length c) 49 (0, 0))).alloc (.cells #[.int .i64 0, .int .u64 0, .int .u64 0, .slice none 0 0] 49 (0, 0))).alloc (.cells ZA 42 (0, 0))).alloc (.cells #[.int .i64 n, .int .u64 wd, .int .u64 m, .slice A l.length c] 49 (0, 0))).alloc (.cells ZA 42 (0, 0)))) := by
    have g0 := fun X (o : Obj) => grow X o
    refine hid ⟨?_, ?_, ?_, ?_, ?_, ?_, ?_, by simp⟩
    · exact range_grow (range_grow (range_grow (range_grow (range_of w _ _ _ rfl) (g0 _ _)) (g0 _ _)) (g0 _ _)) (g0 _ _)
    · exact there_grow (there_grow (there_grow (there_of _ _ _ _ _ (by simp) (by simp)) (g0 _ _)) (g0 _ _)) (g0 _ _)
    · exact there_grow (there_grow (there_of _ _ _ _ _ (by simp) (by omega)) (g0 _ _)) (g0 _ _)
    · exact range_grow (range_of _ _ _ _ (by simp)) (g0 _ _)
    · have hr0 := range_of ((((w.alloc (.cells (rh n wd now A l.length c) 49 (0, 0))).alloc (.cells #[.int .i64 0, .int .u64 0, .int .u64 0, .slice none 0 0] 49 (0, 0))).alloc (.cells ZA 42 (0, 0))).alloc (.cells #[.int .i64 n, .int .u64 wd, .int .u64 m, .slice A l.length c] 49 (0, 0))) ZA 42 (w.heap.size + 4) (by simp)
      have ht0 := there_of ((((w.alloc (.cells (rh n wd now A l.length c) 49 (0, 0))).alloc (.cells #[.int .i64 0, .int .u64 0, .int .u64 0, .slice none 0 0] 49 (0, 0))).alloc (.cells ZA 42 (0, 0))).alloc (.cells #[.int .i64 n, .int .u64 wd, .int .u64 m, .slice A l.length c] 49 (0, 0))) ZA 42 (w.heap.size + 4) 65 (by simp) (by omega)
      intro i hi
      have h1 := hr0 i (.int .u64 0) (by rw [hZA.out]; exact bl_get (fun _ => 0) i hi)
      have h2 := (ht0 i hi).2
      rw [Nat.zero_add] at h1 h2
      refine ⟨?_, h2⟩
      rw [h1]
      simp [rcnt]
    · exact ((((hr.out.below (g0 _ _)).below (g0 _ _)).below (g0 _ _)).below (g0 _ _)).below (g0 _ _)
    · exact (((((Below.refl w.heap.size w).alloc (Nat.le_refl _) _).alloc (by simp) _).alloc (by simp; omega) _).alloc (by simp; omega) _).alloc (by simp; omega) _
  clear hz hst
  go_loopw [9] (fun i wr => ∃ k : Nat, k ≤ l.length ∧ i = .int .i64 k ∧ RInv n wd now m b A c l w k wr) (fun i _ => l.length - (intOf i).toNat)
  case atStart => exact ⟨0, Nat.zero_le _, rfl, HI.out⟩
  case round =>
    obtain ⟨k, hk, rfl, hI⟩ := hrel
    have HI := hid hI
    have r := fun j v (hj : (rh n wd now A l.length c).toList[j]? = some v) => hI.1 j v hj
    simp only [Nat.zero_add] at r
    have a0 := r 0 _ rfl
    have a3 := r 3 _ rfl
    clear r
    by_cases hlt : k < l.length
    · have hlti : (k : Int) < l.length := by omega
      obtain ⟨B, o, hA, hcell⟩ : ∃ B o, A = some ⟨B, o, none⟩ ∧ wr.cell? ⟨B, o + k * 2, none⟩ = some (.int .u64 (l.getD k oz).1) ∧ wr.cell? ⟨B, o + k * 2 + 1, none⟩ = some (.int .u64 (l.getD k oz).2) := by
        rcases hI.2.2.2.2.2.1 with h | ⟨B, o, hA, h⟩
        · rw [h] at hlt; exact absurd hlt (Nat.not_lt_zero _)
        · exact ⟨B, o, hA, h k hlt⟩
      have hxe := hx.out (l.getD k oz) (by rw [List.getD_eq_getElem?_getD, List.getElem?_eq_getElem hlt]; exact List.getElem_mem hlt)
      have hsk := hid fun h => RInv.skip (c := c) (now := now) (wd := wd) (m := m) (A := A) (w := w) (wr := wr) (b := b) (n := n) hI hlt h
      have hht := hid fun q h1 h2 v h3 => RInv.hit (c := c) (now := now) (wd := wd) (m := m) (A := A) (w := w) (wr := wr) (b := b) (n := n) (q := q) hI hr.out hlt h1 h2 v h3
      have hcw := hid fun q (hq : q < 65) => hI.2.2.2.2.1 q hq
      clear hI
      subst hA
      generalize l.getD k oz = e at *
      obtain ⟨q, x⟩ := e
      dsimp only at hcell hxe
      obtain ⟨hc1, hc2⟩ := hcell
      obtain ⟨q0, q1, x1⟩ := hxe
      have hblen := Bits.blen_le64 x1
      have Hlen := hid fun w => rlen_calls x x1 w
      obtain ⟨bq, hbq⟩ : ∃ bq, rin b n (q, x) = bq := ⟨_, rfl⟩
      have hdec : decide (IntKind.u64.wrap (b - q) < n) = bq := hbq
      cases bq with
      | false =>
        have hge : n ≤ IntKind.u64.wrap (b - q) := by have := of_decide_eq_false hdec; omega
        have hs := hid (hsk.out hbq)
        clear hdec hbq
        go_wp2_with fail
        go_quiet (fail)
        go_wp2_with fail
        go_roundw
        case rel => exact ⟨k + 1, by omega, by go_num, hs.out.drewN _⟩
        case measure => simp [intOf]; omega
      | true =>
        have hlt2 : IntKind.u64.wrap (b - q) < n := of_decide_eq_true hdec
        have hbl65 : (Bits.blen x : Int) < 65 := by omega
        have F := hcw.out (Bits.blen x) (by omega)
        have hrl := rcnt_le b n (l.take k) (Bits.blen x)
        rw [List.length_take] at hrl
        have hs := hid fun v hv => hht.out (Bits.blen x) hbq rfl v hv
        generalize rcnt b n (l.take k) (Bits.blen x) = R at *
        generalize Bits.blen x = L at *
        obtain ⟨F1, F2⟩ := F
        obtain ⟨R0, R1⟩ := hrl
        have R2 : R ≤ 1000 := by omega
        clear hdec hbq R1
        go_wp2_with fail
        go_quiet (fail)
        go_wp2_with fail
        refine (Hlen.out _).mono ?_
        rintro y w' ⟨rfl, rfl⟩
        go_wp2_with fail
        go_roundw
        case rel => exact ⟨k + 1, by omega, by go_num, by
          have := (hs.out (R + 1) rfl)
          exact this.drewN _⟩
        case measure => simp [intOf]; omega
    · obtain rfl : k = l.length := by omega
      obtain ⟨LA, hLA⟩ : ∃ Z : Array Value, Hid (Z = (bl (rcnt b n l)).toArray) := ⟨_, hid rfl⟩
      have hi4 : (Try.prog.info? 49).map (·.size) = some (rh n wd m A l.length c).toList.length := by kernel_rfl
      have hj4 : (Try.prog.info? 49).map (·.size) = some (rh n wd m A l.length c).size := by kernel_rfl
      have hi65 : (Try.prog.info? 42).map (·.size) = some LA.toList.length := by rw [hLA.out, bl_len]; kernel_rfl
      have hj65 : (Try.prog.info? 42).map (·.size) = some LA.size := by rw [hLA.out, List.size_toArray, bl_len]; kernel_rfl
      have hon : Hid (LA.all (·.oneCell') = true) := by
        show _ = true
        rw [hLA.out]
        exact all_oneCell_toArray (bl_one _)
      have hS0 : Hid (Below w.heap.size w wr ∧ wr.rangeAt (w.heap.size + 3) 0 (rh n wd m A l.length c).toList ∧ wr.rangeAt (w.heap.size + 4) 0 LA.toList ∧ wr.there (w.heap.size + 1) 0 4 ∧ wr.there (w.heap.size + 2) 0 LA.size) := by
        obtain ⟨h1, h2, h3, h4, h5, h6, h7, h8⟩ := HI.out
        rw [List.take_length] at h5
        refine hid ⟨h7, h4, ?_, h2, ?_⟩
        · rw [hLA.out]; exact h5.range
        · rw [show LA.size = 65 from by rw [hLA.out, List.size_toArray, bl_len]]; exact h3
      have HR := hid HI.out.2.2.2.2.2.1
      clear hI
      go_wp2_with fail
      refine Rg.start2 (S := fun w' => Hid (Below w.heap.size w w' ∧ w'.rangeAt (w.heap.size + 3) 0 (rh n wd m A l.length c).toList ∧ w'.rangeAt (w.heap.size + 4) 0 LA.toList ∧ w'.there (w.heap.size + 1) 0 4 ∧ w'.there (w.heap.size + 2) 0 LA.size)) (T := fun w' => Hid (RowO w' A l)) (by kernel_rfl) (fun _ _ _ _ _ h => h) (hid ⟨hS0.out.1.drew, hS0.out.2⟩) (hid HR.out) ?_
      intro Q hp hn wz hH0 hT0
      refine Rg.tk (i := 0) rfl hp ?_
      refine ⟨_, ?_, by kernel_rfl, by kernel_rfl, by kernel_rfl, yieldsIf_load_mid (by rfl) 49 _ rfl (w.heap.size + 3) 0 rfl (rh n wd m A l.length c).toList _ (fun w hSw => hSw.out.2.1) Try.underlying49 rfl hi4, hH0, ?_, ?_⟩
      rotate_left
      · ((try simp only [Act.put, List.setIfInBounds_toArray, List.set_cons_zero, List.set_cons_succ]); exact rfl)
      refine Rg.tk (i := 1) rfl hp ?_
      refine ⟨_, ?_, by kernel_rfl, by kernel_rfl, by kernel_rfl, yieldsIf_load_mid (by rfl) 42 _ rfl (w.heap.size + 4) 0 rfl LA.toList _ (fun w hSw => hSw.out.2.2.1) Try.underlying42 rfl hi65, hH0, ?_, ?_⟩
      rotate_left
      · ((try simp only [Act.put, List.setIfInBounds_toArray, List.set_cons_zero, List.set_cons_succ]); exact rfl)
      refine Rg.one (i := 2) rfl ⟨by kernel_rfl, by rfl, fun K hK => ?_⟩
      refine wp_store_mid 49 _ _ rfl (w.heap.size + 1) 0 (rh n wd m A l.length c) rfl rfl hH0.out.2.2.2.1 hj4 (rh_one _ _ _ _ _ _) ?_
      have e1 := below_sets hH0.out.1 (show w.heap.size ≤ w.heap.size + 1 by omega) (rh n wd m A l.length c).toList 0
      have e2 := range_sets (B := w.heap.size + 1) (show w.heap.size + 3 ≠ w.heap.size + 1 by omega) hH0.out.2.1 (rh n wd m A l.length c).toList 0
      have e3 := range_sets (B := w.heap.size + 1) (show w.heap.size + 4 ≠ w.heap.size + 1 by omega) hH0.out.2.2.1 (rh n wd m A l.length c).toList 0
      have e4 := Rg4.sets hH0.out.2.2.2.1 (rh n wd m A l.length c).toList (Nat.le_refl 4)
      have e5 := there_sets (B := w.heap.size + 1) (show w.heap.size + 2 ≠ w.heap.size + 1 by omega) hH0.out.2.2.2.2 (rh n wd m A l.length c).toList 0
      have r1 := hid (World.rangeAt_setCells_same _ _ _ (rh n wd m A l.length c).toList hH0.out.2.2.2.1)
      have t1 := hid (rowO_sets hr.out (show w.heap.size ≤ w.heap.size + 1 by omega) hT0.out (rh n wd m A l.length c).toList 0)
      refine hK.out _ _ ?_ (hid ⟨e1, e2, e3, e4, e5⟩) ?_ (fun hH1 => ?_)
      rotate_left
      · ((try simp only [Act.put, List.setIfInBounds_toArray, List.set_cons_zero, List.set_cons_succ]); exact rfl)
      clear hK K
      refine Rg.one (i := 3) rfl ⟨by kernel_rfl, by rfl, fun K hK => ?_⟩
      refine wp_store_mid 42 _ _ rfl (w.heap.size + 2) 0 LA rfl rfl hH1.out.2.2.2.2 hj65 hon.out ?_
      have e1' := below_sets hH1.out.1 (show w.heap.size ≤ w.heap.size + 2 by omega) LA.toList 0
      have e2' := range_sets (B := w.heap.size + 2) (show w.heap.size + 3 ≠ w.heap.size + 2 by omega) hH1.out.2.1 LA.toList 0
      have e3' := range_sets (B := w.heap.size + 2) (show w.heap.size + 4 ≠ w.heap.size + 2 by omega) hH1.out.2.2.1 LA.toList 0
      have e4' := there_sets (B := w.heap.size + 2) (show w.heap.size + 1 ≠ w.heap.size + 2 by omega) hH1.out.2.2.2.1 LA.toList 0
      have e5' := Rg4.sets hH1.out.2.2.2.2 LA.toList (by rw [Array.length_toList]; exact Nat.le_refl _)
      have r1' := hid (range_sets (B := w.heap.size + 2) (show w.heap.size + 1 ≠ w.heap.size + 2 by omega) r1.out LA.toList 0)
      have r2' := hid (World.rangeAt_setCells_same _ _ _ LA.toList hH1.out.2.2.2.2)
      have t1' := hid (rowO_sets hr.out (show w.heap.size ≤ w.heap.size + 2 by omega) t1.out LA.toList 0)
      refine hK.out _ _ ?_ (hid ⟨e1', e2', e3', e4', e5'⟩) ?_ (fun hHF => ?_)
      rotate_left
      · ((try simp only [Act.put, List.setIfInBounds_toArray, List.set_cons_zero, List.set_cons_succ]); exact rfl)
      clear hK K
      refine wpAnyH_done (by kernel_rfl) ?_ _
      refine hn.out _ _ ?_
      go_wp2_with fail
      refine bodyPost_ret (rres_all _ _ (w.heap.size + 1) (w.heap.size + 2) (rh n wd m A l.length c) LA rfl rfl r1'.out r2'.out rfl (by rw [hLA.out, List.size_toArray, bl_len])) rfl ⟨by rw [hLA.out, Hbb.out], t1'.out, hHF.out.1⟩
end Go.Proofs.Ytmemafhdondfhaa.C06
