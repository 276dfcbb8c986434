/- What Of of the package health, and of its reference, tells of any events. -/
import Derived.Test.YtiplgihdgckbaaaC16B
import Derived.Test.YtiplgihdgckbaaaOpen
namespace Go.Proofs.Ytiplgihdgckbaaa.C16
open Go.RowKit Go.Proofs.Ytiplgihdgckbaaa
set_option linter.unusedVariables false
set_option linter.unusedSimpArgs false
set_option linter.unnecessarySimpa false
attribute [local go_sem] C01.max2_mx C01.min2_mn C01.max_two C01.min_two
/-- An event: when, and of which kind. -/
abbrev E := Int × Int
/-- Is it counted, of the kind k? -/
def counts (t B W : Int) (k : Nat) (e : E) : Bool := decide (e.2 = k ∧ e.1 / W ≤ t / W ∧ t / W - e.1 / W < B)
def ofN (L : List E) (t B W : Int) (k : Nat) : Int := ((L.countP (counts t B W k) : Nat) : Int)
theorem ofN_nil (t B W : Int) (k : Nat) : ofN [] t B W k = 0 := rfl
theorem ofN_in (L : List E) (t B W : Int) (k : Nat) : 0 ≤ ofN L t B W k ∧ ofN L t B W k ≤ L.length := by
  have := List.countP_le_length (p := counts t B W k) (l := L)
  unfold ofN
  omega
theorem ofN_succ (L : List E) (t B W : Int) (i k : Nat) (h : i < L.length) : ofN (L.take (i + 1)) t B W k = ofN (L.take i) t B W k + (if counts t B W k (L.getD i (0, 0)) then 1 else 0) := by
  unfold ofN
  rw [List.take_succ_eq_append_getElem h, List.countP_append, List.countP_cons, List.countP_nil, List.getD_eq_getElem?_getD, List.getElem?_eq_getElem h]
  simp only [Option.getD_some]
  split <;> omega
def EOk (e : E) : Prop := U e.1 ∧ I e.2
/-- What a slice of events holds. -/
def RowE (w : World) (A : Option Addr) (L : List E) : Prop := L = [] ∨ ∃ b o, A = some ⟨b, o, none⟩ ∧ ∀ i, i < L.length → w.cell? ⟨b, o + i * 2, none⟩ = some (.int .u64 (L.getD i (0, 0)).1) ∧ w.cell? ⟨b, o + i * 2 + 1, none⟩ = some (.int .i64 (L.getD i (0, 0)).2)
theorem RowE.below {w w' : World} {A : Option Addr} {L : List E} (h : RowE w A L) (hb : Below w.heap.size w w') : RowE w' A L := by
  rcases h with rfl | ⟨b, o, rfl, h⟩
  · exact .inl rfl
  · exact .inr ⟨b, o, rfl, fun i hi => ⟨cell_of hb (h i hi).1, cell_of hb (h i hi).2⟩⟩
/-- Five numbers in a block. -/
def Five (w : World) (C : Nat) (f : Nat → Int) : Prop := ∀ i, i < 5 → w.cell? ⟨C, i, none⟩ = some (.int .u64 (f i)) ∧ w.frozen? ⟨C, i, none⟩ = false
theorem Five.same {w w' : World} {C : Nat} {f : Nat → Int} (h : Five w C f) (hb : w'.heap[C]? = w.heap[C]?) : Five w' C f := by
  intro i hi
  refine ⟨?_, ?_⟩
  · rw [World.cell?_of_block (w := w) hb]; exact (h i hi).1
  · rw [World.frozen?_of_block (w := w) hb]; exact (h i hi).2
theorem five_zero {w : World} {C : Nat} {T : TypeId} (hg : w.heap[C]? = some (.cells #[.int .u64 0, .int .u64 0, .int .u64 0, .int .u64 0, .int .u64 0] T (0, 0))) : Five w C (fun _ => 0) := by
  intro i hi
  refine ⟨?_, frozen_of_row _ _ _ _ _ hg⟩
  rw [cell_of_row _ _ _ _ _ _ hg]
  match i, hi with
  | 0, _ => rfl
  | 1, _ => rfl
  | 2, _ => rfl
  | 3, _ => rfl
  | 4, _ => rfl
theorem Five.set {w : World} {C : Nat} {f g : Nat → Int} (h : Five w C f) (j : Nat) (v : Int) (hg : ∀ i, i < 5 → g i = if i = j then v else f i) : Five (w.setCell ⟨C, j, none⟩ (.int .u64 v)) C g := by
  intro i hi
  refine ⟨?_, by rw [World.frozen?_setCell]; exact (h i hi).2⟩
  rw [hg i hi]
  by_cases hij : i = j
  · subst hij
    rw [if_pos rfl]
    exact World.cell?_setCell_same _ _ _ (h i hi).1
  · rw [if_neg hij, World.cell?_setCell_other _ _ _ _ (fun e => hij (by injection e with _ e _; exact e.symm))]
    exact (h i hi).1
/-- Where a loop over the events stands: C holds the counts of the first k, the two blocks behind the old ones are the call's own. -/
def Inv (w : World) (R C : Nat) (L : List E) (t B W : Int) (k : Nat) (wr : World) : Prop := Below w.heap.size w wr ∧ Five wr C (fun i => ofN (L.take k) t B W i) ∧ Five wr R (fun _ => 0) ∧ C < wr.heap.size
theorem Inv.alloc {w wr : World} {R C : Nat} {L : List E} {t B W : Int} {k : Nat} (h : Inv w R C L t B W k wr) (hR : R < C) (o : Obj) : Inv w R C L t B W k (wr.alloc o) :=
  ⟨h.1.alloc h.1.size o, h.2.1.same (Below.heap_alloc _ _ _ h.2.2.2), h.2.2.1.same (Below.heap_alloc _ _ _ (Nat.lt_trans hR h.2.2.2)), by have := h.2.2.2; simp; omega⟩
theorem Inv.skip {w wr : World} {R C : Nat} {L : List E} {t B W : Int} {k : Nat} (h : Inv w R C L t B W k wr) (hk : k < L.length) (hn : ∀ i, i < 5 → counts t B W i (L.getD k (0, 0)) = false) : Inv w R C L t B W (k + 1) wr := by
  refine ⟨h.1, fun i hi => ?_, h.2.2⟩
  have := h.2.1 i hi
  show wr.cell? _ = some (.int .u64 (ofN (L.take (k + 1)) t B W i)) ∧ _
  rw [ofN_succ L t B W k i hk, hn i hi]
  simpa using this
theorem Inv.count {w wr : World} {R C : Nat} {L : List E} {t B W : Int} {k j : Nat} (h : Inv w R C L t B W k wr) (hk : k < L.length) (hR : R < C) (hC : w.heap.size ≤ C) (hj : counts t B W j (L.getD k (0, 0)) = true) : Inv w R C L t B W (k + 1) (wr.setCell ⟨C, j, none⟩ (.int .u64 (ofN (L.take k) t B W j + 1))) := by
  refine ⟨h.1.setCell hC _, h.2.1.set j _ fun i hi => ?_, h.2.2.1.same (Below.heap_setCell _ _ _ _ (by show R ≠ C; omega)), by simpa [World.setCell] using h.2.2.2⟩
  rw [ofN_succ L t B W k i hk]
  by_cases hij : i = j
  · subst hij; rw [if_pos rfl, hj, if_pos rfl]
  · rw [if_neg hij]
    have : counts t B W i (L.getD k (0, 0)) = false := by
      unfold counts at hj ⊢
      rw [decide_eq_true_eq] at hj
      rw [decide_eq_false_iff_not]
      intro hh
      omega
    rw [this]
    simp
abbrev vals (f : Nat → Int) : Array Value := #[.int .u64 (f 0), .int .u64 (f 1), .int .u64 (f 2), .int .u64 (f 3), .int .u64 (f 4)]
set_option maxHeartbeats 2000000 in
theorem of_calls (L : List E) (A : Option Addr) (c : Nat) (t B W : Int) (w : World) (hl : L.length ≤ 1000000) (hx : Hid (∀ e ∈ L, EOk e)) (hr : RowE w A L) (t0 : 0 ≤ t) (t1 : t ≤ 18446744073709551615) (B0 : 1 ≤ B) (B1 : B ≤ 9223372036854775807) (W0 : 1 ≤ W) (W1 : W ≤ 18446744073709551615) :
    Calls Try.prog 19 #[.slice A L.length c, .int .u64 t, .int .i64 B, .int .u64 W] w fun e w' => e = .returned (.agg (vals (ofN L t B W))) ∧ Below w.heap.size w w' := by
  have Hr := hid hr
  have hli : (L.length : Int) ≤ 1000000 := by omega
  have Wz : (W == 0) = false := by rw [beq_eq_false_iff_ne]; omega
  have Wz2 : ¬ W = 0 := by omega
  have bt : 0 ≤ t / W ∧ t / W ≤ t := ⟨Int.ediv_nonneg t0 (by omega), Int.ediv_le_self _ t0⟩
  obtain ⟨b, hb⟩ : ∃ b, t / W = b := ⟨_, rfl⟩
  rw [hb] at bt
  obtain ⟨bt0, bt1⟩ := bt
  have bt2 : b ≤ 18446744073709551615 := by omega
  obtain ⟨m, hm⟩ : ∃ m, Sat.mn b (B - 1) = m := ⟨_, rfl⟩
  have hm2 : 0 ≤ m ∧ m ≤ b := by rw [← hm]; unfold Sat.mn; split <;> omega
  obtain ⟨m0, m1⟩ := hm2
  have m2 : 0 ≤ b - m := by omega
  have m3 : b - m ≤ 18446744073709551615 := by omega
  have Hm : Hid (∀ a : Int, 0 ≤ a → (b - m ≤ a ∧ a ≤ b ↔ a ≤ b ∧ b - a < B)) := by
    intro a a0
    rw [← hm]
    unfold Sat.mn
    split <;> omega
  have Bw : IntKind.u64.wrap (B - 1) = B - 1 := Sat.u64_in (by omega) (by omega)
  clear hr
  go_enter Try.func19, Try.ntmps19
  go_wp2_with fail
  go_loopw [34] (fun i wr => ∃ k : Nat, k ≤ L.length ∧ i = .int .i64 k ∧ Inv w w.heap.size (w.heap.size + 1) L t B W k wr) (fun i _ => L.length - (intOf i).toNat)
  case atStart =>
    refine ⟨0, Nat.zero_le _, rfl, ((Below.refl _ _).alloc (Nat.le_refl _) _).alloc (by simp) _, ?_, five_zero (heap_alloc2_old _ _ _), by simp⟩
    exact five_zero (heap_alloc2_new _ _ _)
  case round =>
    obtain ⟨k, hk, rfl, hI⟩ := hrel
    have HI := hid hI
    by_cases hlt : k < L.length
    · obtain ⟨bb, o, rfl, hcell⟩ : ∃ bb o, A = some ⟨bb, o, none⟩ ∧ (wr.cell? ⟨bb, o + k * 2, none⟩ = some (.int .u64 (L.getD k (0, 0)).1) ∧ wr.cell? ⟨bb, o + k * 2 + 1, none⟩ = some (.int .i64 (L.getD k (0, 0)).2)) := by
        rcases Hr.out.below hI.1 with rfl | ⟨bb, o, rfl, h⟩
        · exact absurd hlt (Nat.not_lt_zero _)
        · exact ⟨bb, o, rfl, h k hlt⟩
      obtain ⟨c0, c1⟩ := hcell
      have hek : EOk (L.getD k (0, 0)) := by
        rw [List.getD_eq_getElem?_getD, List.getElem?_eq_getElem hlt]
        exact hx.out _ (List.getElem_mem hlt)
      have hcnt : Hid (∀ j : Nat, counts t B W j (L.getD k (0, 0)) = decide ((L.getD k (0, 0)).2 = j ∧ (L.getD k (0, 0)).1 / W ≤ t / W ∧ t / W - (L.getD k (0, 0)).1 / W < B)) := hid fun j => rfl
      have hs := hI.2.2.2
      have hF := hid hI.2.1
      have hlti : (k : Int) < L.length := by omega
      obtain ⟨⟨x0, x1⟩, y0, y1⟩ := hek
      rw [hb] at hcnt
      have ab : 0 ≤ (L.getD k (0, 0)).1 / W ∧ (L.getD k (0, 0)).1 / W ≤ (L.getD k (0, 0)).1 := ⟨Int.ediv_nonneg x0 (by omega), Int.ediv_le_self _ x0⟩
      clear hI
      generalize (L.getD k (0, 0)).1 = x at *
      generalize (L.getD k (0, 0)).2 = y at *
      obtain ⟨a, ha⟩ : ∃ a, x / W = a := ⟨_, rfl⟩
      rw [ha] at ab hcnt
      obtain ⟨a0, a1⟩ := ab
      have a2 : a ≤ 18446744073709551615 := by omega
      have hiff := hid (Hm.out a a0)
      have hlt1 : wr.heap.size ≠ w.heap.size + 1 := by omega
      by_cases hy : 0 ≤ y ∧ y < 5 ∧ a ≤ b ∧ b - a < B
      · obtain ⟨y2, y3, e1, e2⟩ := hy
        obtain ⟨j, rfl⟩ := Int.eq_ofNat_of_zero_le y2
        have g1 : b - m ≤ a := (hiff.out.2 ⟨e1, e2⟩).1
        have hj : j < 5 := by omega
        have f1 := (hF.out j hj).1
        have f2 := (hF.out j hj).2
        have f3 := ofN_in (L.take k) t B W j
        have f4 : ofN (L.take k) t B W j ≤ 1000000 := by have := f3.2; rw [List.length_take] at this; omega
        have f5 := f3.1
        have hjc := hid (show counts t B W j (L.getD k (0, 0)) = true from by rw [hcnt.out]; simp; exact ⟨e1, e2⟩)
        have ff1 := fun o => cell_of (w' := wr.alloc o) ((Below.refl _ _).alloc (Nat.le_refl _) _) f1
        have ff2 : ∀ o, (wr.alloc o).frozen? ⟨w.heap.size + 1, j, none⟩ = false := fun o => by rw [World.frozen?_of_block (w := wr) (Below.heap_alloc _ _ _ hs)]; exact f2
        clear f3 hF
        dsimp only at ff1
        go_wp2_with fail
        all_goals exact ⟨⟨k + 1, by omega, by go_num, (HI.out.count hlt (by omega) (by omega) hjc.out).alloc (by omega) _⟩, by simp [intOf]; omega⟩
      · have hno := hid (show ∀ i, i < 5 → counts t B W i (L.getD k (0, 0)) = false from fun i hi => by
          rw [hcnt.out, decide_eq_false_iff_not]
          rintro ⟨h1, h2, h3⟩
          exact hy ⟨by omega, by omega, h2, h3⟩)
        clear hF
        by_cases n1 : y < 0
        · go_wp2_with fail
          exact ⟨⟨_, _, .int .i64 ((k : Int) + 1), ⟨k + 1, by omega, by go_num, (HI.out.alloc (by omega) _).skip hlt hno.out⟩, rfl, rfl, rfl⟩, by simp [intOf]; omega⟩
        by_cases n2 : 5 ≤ y
        · go_wp2_with fail
          exact ⟨⟨_, _, .int .i64 ((k : Int) + 1), ⟨k + 1, by omega, by go_num, (HI.out.alloc (by omega) _).skip hlt hno.out⟩, rfl, rfl, rfl⟩, by simp [intOf]; omega⟩
        by_cases n3 : a < b - m
        · go_wp2_with fail
          exact ⟨⟨_, _, .int .i64 ((k : Int) + 1), ⟨k + 1, by omega, by go_num, (HI.out.alloc (by omega) _).skip hlt hno.out⟩, rfl, rfl, rfl⟩, by simp [intOf]; omega⟩
        · have n4 : b < a := by
            apply Int.not_le.1
            intro h
            have := hiff.out.1 ⟨by omega, h⟩
            exact hy ⟨by omega, by omega, this.1, this.2⟩
          go_wp2_with fail
          exact ⟨⟨_, _, .int .i64 ((k : Int) + 1), ⟨k + 1, by omega, by go_num, (HI.out.alloc (by omega) _).skip hlt hno.out⟩, rfl, rfl, rfl⟩, by simp [intOf]; omega⟩
    · obtain rfl : k = L.length := by omega
      have F0 := hI.2.1 0 (by omega)
      have F1 := hI.2.1 1 (by omega)
      have F2 := hI.2.1 2 (by omega)
      have F3 := hI.2.1 3 (by omega)
      have F4 := hI.2.1 4 (by omega)
      have R0 := hI.2.2.1 0 (by omega)
      have R1 := hI.2.2.1 1 (by omega)
      have R2 := hI.2.2.1 2 (by omega)
      have R3 := hI.2.2.1 3 (by omega)
      have R4 := hI.2.2.1 4 (by omega)
      simp only [List.take_length] at F0 F1 F2 F3 F4
      clear hI
      go_wp2_with fail
      refine bodyPost_ret (v := .agg (vals (ofN L t B W))) (by simp [results, Try.results19, go_sem, R0, R1, R2, R3, R4]) rfl ⟨rfl, ?_⟩
      exact ((((HI.out.1.setCell (Nat.le_refl _) _).setCell (Nat.le_refl _) _).setCell (Nat.le_refl _) _).setCell (Nat.le_refl _) _).setCell (Nat.le_refl _) _
theorem of_none (L : List E) (A : Option Addr) (c : Nat) (t B W : Int) (w : World) (h : B < 1 ∨ W = 0) (B0 : I B) (W0 : U W) :
    Calls Try.prog 19 #[.slice A L.length c, .int .u64 t, .int .i64 B, .int .u64 W] w fun e w' => e = .returned (.agg (vals fun _ => 0)) ∧ Below w.heap.size w w' := by
  by_cases hB : B < 1
  · go_enter Try.func19, Try.ntmps19
    go_wp2_with fail
    refine bodyPost_ret (v := .agg (vals fun _ => 0)) (by simp [results, Try.results19, go_sem]) rfl ⟨rfl, ?_⟩
    exact ((Below.refl _ _).alloc (Nat.le_refl _) _).alloc (by simp) _
  · obtain rfl : W = 0 := by omega
    go_enter Try.func19, Try.ntmps19
    go_wp2_with fail
    refine bodyPost_ret (v := .agg (vals fun _ => 0)) (by simp [results, Try.results19, go_sem]) rfl ⟨rfl, ?_⟩
    exact ((Below.refl _ _).alloc (Nat.le_refl _) _).alloc (by simp) _
end Go.Proofs.Ytiplgihdgckbaaa.C16
