/- What 'made' and the reference's Of tell; the walk of the law HealthOf. -/
import Derived.Test.YtiplgihdgckbaaaC16F
import Derived.Test.YtiplgihdgckbaaaReg2
import Derived.Deep.RegionWith
import Derived.Deep.MidRow
namespace Go.Proofs.Ytiplgihdgckbaaa.C16
open Go.RowKit Go.Proofs.Ytiplgihdgckbaaa
set_option linter.unusedVariables false
set_option linter.unusedSimpArgs false
set_option linter.unnecessarySimpa false
attribute [local go_sem] C01.max2_mx C01.min2_mn C01.max_two C01.min_two
theorem below_grown {w0 w w' : World} {row : Option Nat} (hb : Below w0.heap.size w0 w) (hg : w.grownBy w' row) (hr : ∀ g, row = some g → w0.heap.size ≤ g) : Below w0.heap.size w0 w' :=
  ⟨hg.os.trans hb.os, hg.tape.trans hb.tape, hg.output.trans hb.output, Nat.le_trans hb.size hg.size, fun j hj => (hg.block j (Nat.lt_of_lt_of_le hj hb.size) (fun h => by have := hr j h.symm; omega)).trans (hb.block j hj)⟩
def flat (L : List E) : List Value := L.flatMap fun e => [.int .u64 e.1, .int .i64 e.2]
theorem flat_succ (L : List E) (k : Nat) (h : k < L.length) : flat (L.take (k + 1)) = flat (L.take k) ++ [.int .u64 (L.getD k (0, 0)).1, .int .i64 (L.getD k (0, 0)).2] := by
  unfold flat
  rw [List.take_succ_eq_append_getElem h, List.flatMap_append, List.getD_eq_getElem?_getD, List.getElem?_eq_getElem h]
  simp
theorem flat_get (L : List E) : ∀ i, i < L.length → (flat L)[i * 2]? = some (.int .u64 (L.getD i (0, 0)).1) ∧ (flat L)[i * 2 + 1]? = some (.int .i64 (L.getD i (0, 0)).2) := by
  induction L with
  | nil => intro i h; exact absurd h (Nat.not_lt_zero _)
  | cons e L ih =>
    intro i h
    have e1 : flat (e :: L) = Value.int .u64 e.1 :: Value.int .i64 e.2 :: flat L := rfl
    rw [e1]
    rcases i with _ | i
    · exact ⟨rfl, rfl⟩
    · have := ih i (by simpa using h)
      rw [show (i + 1) * 2 = i * 2 + 1 + 1 from by omega]
      exact this
/-- A slice that owns events holds them. -/
theorem owns_row {w : World} {base : Nat} {T : TypeId} {v : Value} {L : List E} (h : w.ownsRow base T 2 v L.length (flat L)) : ∃ A c, v = .slice A L.length c ∧ RowE w A L := by
  have hc := h
  rcases h.2 with ⟨rfl, h0⟩ | ⟨g, cap, cur, rfl, _⟩
  · have : L = [] := List.eq_nil_of_length_eq_zero h0
    subst this
    exact ⟨none, 0, rfl, .inl rfl⟩
  · refine ⟨some ⟨g, 0, none⟩, cap, rfl, .inr ⟨g, 0, rfl, fun i hi => ?_⟩⟩
    have hg := flat_get L i hi
    have h1 := hc.cells rfl _ _ hg.1
    have h2 := hc.cells rfl _ _ hg.2
    rw [Addr.add_mid, Nat.zero_add] at h1 h2
    rw [Nat.zero_add]
    exact ⟨h1, h2⟩
theorem infoE : ∃ i, Try.prog.info? 59 = some i ∧ i.zero = some (.agg #[.int .u64 0, .int .i64 0]) ∧ i.size = 2 ∧ i.bytes = 16 := by
  have h : (Try.prog.info? 59).map (fun i => (i.zero, i.size, i.bytes)) = some (some (.agg #[.int .u64 0, .int .i64 0]), 2, 16) := by kernel_rfl
  cases hq : Try.prog.info? 59 with
  | none => rw [hq] at h; exact absurd h (by simp)
  | some i => rw [hq] at h; simp at h; exact ⟨i, rfl, h.1, h.2.1, h.2.2⟩
set_option maxHeartbeats 2000000 in
theorem made_calls (L : List E) (A : Option Addr) (c : Nat) (w : World) (hl : L.length ≤ 1000000) (hx : Hid (∀ e ∈ L, EOk e)) (hr : RowE w A L) :
    Calls Try.prog 20 #[.slice A L.length c] w fun e w' => ∃ A' c', e = .returned (.slice A' L.length c') ∧ RowE w' A' L ∧ Below w.heap.size w w' := by
  have Hr := hid hr
  obtain ⟨i0, i1, i2, i3, i4⟩ := infoE
  have hli : (L.length : Int) ≤ 1000000 := by omega
  clear hr
  go_enter Try.func20, Try.ntmps20
  go_wp2_with fail
  go_loopw [3, 4] (fun v i wr => ∃ (k : Nat) (v0 : Value), v = v0 ∧ k ≤ L.length ∧ i = .int .i64 k ∧ wr.ownsRow w.heap.size 59 2 v0 k (flat (L.take k)) ∧ Below w.heap.size w wr) (fun _ i _ => L.length - (intOf i).toNat)
  case atStart => exact ⟨0, _, rfl, Nat.zero_le _, rfl, World.ownsRow_nil _ _ _ _, Below.refl _ _⟩
  case round =>
    obtain ⟨k, v, hv, hk, rfl, hown0, hB⟩ := hrel
    have hv' := hv.symm
    clear hv
    subst hv'
    have hO := hid hown0
    have HB := hid hB
    clear hown0 hB
    by_cases hlt : k < L.length
    · obtain ⟨bb, o, rfl, hcell⟩ : ∃ bb o, A = some ⟨bb, o, none⟩ ∧ (w.cell? ⟨bb, o + k * 2, none⟩ = some (.int .u64 (L.getD k (0, 0)).1) ∧ w.cell? ⟨bb, o + k * 2 + 1, none⟩ = some (.int .i64 (L.getD k (0, 0)).2)) := by
        rcases Hr.out with rfl | ⟨bb, o, rfl, h⟩
        · exact absurd hlt (Nat.not_lt_zero _)
        · exact ⟨bb, o, rfl, h k hlt⟩
      obtain ⟨cx, cy⟩ := hcell
      have hs := hid (flat_succ L k hlt)
      have hlti : (k : Int) < L.length := by omega
      generalize (L.getD k (0, 0)).1 = x at *
      generalize (L.getD k (0, 0)).2 = y at *
      go_wp2_with fail
      refine Rg.start2 (S := fun w' => Hid (Below w.heap.size w w')) (T := fun w' => Hid (w'.ownsRow w.heap.size 59 2 v k (flat (L.take k)))) (by kernel_rfl) (fun _ _ _ _ _ h => h) (hid HB.out.drew) (hO) ?_
      intro Q hp hn wz hH0 hT0
      refine Rg.tk (i := 0) rfl hp ?_
      refine ⟨?_, ?_, by kernel_rfl, by kernel_rfl, by kernel_rfl, Or.inl ⟨by rfl, ?_⟩, hH0, ?_, ?_⟩
      rotate_left 2
      · (intro w hSw; clear hSw; go_simp; try with_reducible rfl)
      · ((try simp only [Act.put, List.setIfInBounds_toArray, List.set_cons_zero, List.set_cons_succ]); exact rfl)
      refine Rg.tk (i := 1) rfl hp ?_
      refine ⟨?_, ?_, by kernel_rfl, by kernel_rfl, by kernel_rfl, Or.inl ⟨by rfl, ?_⟩, hH0, ?_, ?_⟩
      rotate_left 2
      · (intro w hSw; clear hSw; go_simp; try with_reducible rfl)
      · ((try simp only [Act.put, List.setIfInBounds_toArray, List.set_cons_zero, List.set_cons_succ]); exact rfl)
      refine Rg.tk (i := 2) rfl hp ?_
      refine ⟨?_, ?_, by kernel_rfl, by kernel_rfl, by kernel_rfl, Or.inl ⟨by rfl, ?_⟩, hH0, ?_, ?_⟩
      rotate_left 2
      · (intro w hSw; clear hSw; go_simp; try with_reducible rfl)
      · ((try simp only [Act.put, List.setIfInBounds_toArray, List.set_cons_zero, List.set_cons_succ]); exact rfl)
      refine Rg.tk (i := 3) rfl hp ?_
      refine ⟨?_, ?_, by kernel_rfl, by kernel_rfl, by kernel_rfl, Or.inl ⟨by rfl, ?_⟩, hH0, ?_, ?_⟩
      rotate_left 2
      · (intro w hSw; clear hSw; go_simp; try with_reducible rfl)
      · ((try simp only [Act.put, List.setIfInBounds_toArray, List.set_cons_zero, List.set_cons_succ]); exact rfl)
      refine Rg.tk (i := 4) rfl hp ?_
      refine ⟨?_, ?_, by kernel_rfl, by kernel_rfl, by kernel_rfl, Or.inl ⟨by rfl, ?_⟩, hH0, ?_, ?_⟩
      rotate_left 2
      · (intro w hSw; clear hSw; go_simp; try with_reducible rfl)
      · ((try simp only [Act.put, List.setIfInBounds_toArray, List.set_cons_zero, List.set_cons_succ]); exact rfl)
      refine Rg.tk (i := 5) rfl hp ?_
      refine ⟨?_, ?_, by kernel_rfl, by kernel_rfl, by kernel_rfl, Or.inl ⟨by rfl, ?_⟩, hH0, ?_, ?_⟩
      rotate_left 2
      · (intro w hSw; have hc := cell_of hSw.out cx; clear hSw; go_simp; try with_reducible rfl)
      · ((try simp only [Act.put, List.setIfInBounds_toArray, List.set_cons_zero, List.set_cons_succ]); exact rfl)
      refine Rg.tk (i := 6) rfl hp ?_
      refine ⟨?_, ?_, by kernel_rfl, by kernel_rfl, by kernel_rfl, Or.inl ⟨by rfl, ?_⟩, hH0, ?_, ?_⟩
      rotate_left 2
      · (intro w hSw; clear hSw; go_simp; try with_reducible rfl)
      · ((try simp only [Act.put, List.setIfInBounds_toArray, List.set_cons_zero, List.set_cons_succ]); exact rfl)
      refine Rg.tk (i := 7) rfl hp ?_
      refine ⟨?_, ?_, by kernel_rfl, by kernel_rfl, by kernel_rfl, Or.inl ⟨by rfl, ?_⟩, hH0, ?_, ?_⟩
      rotate_left 2
      · (intro w hSw; clear hSw; go_simp; try with_reducible rfl)
      · ((try simp only [Act.put, List.setIfInBounds_toArray, List.set_cons_zero, List.set_cons_succ]); exact rfl)
      refine Rg.tk (i := 8) rfl hp ?_
      refine ⟨?_, ?_, by kernel_rfl, by kernel_rfl, by kernel_rfl, Or.inl ⟨by rfl, ?_⟩, hH0, ?_, ?_⟩
      rotate_left 2
      · (intro w hSw; clear hSw; go_simp; try with_reducible rfl)
      · ((try simp only [Act.put, List.setIfInBounds_toArray, List.set_cons_zero, List.set_cons_succ]); exact rfl)
      refine Rg.tk (i := 9) rfl hp ?_
      refine ⟨?_, ?_, by kernel_rfl, by kernel_rfl, by kernel_rfl, Or.inl ⟨by rfl, ?_⟩, hH0, ?_, ?_⟩
      rotate_left 2
      · (intro w hSw; clear hSw; go_simp; try with_reducible rfl)
      · ((try simp only [Act.put, List.setIfInBounds_toArray, List.set_cons_zero, List.set_cons_succ]); exact rfl)
      refine Rg.tk (i := 10) rfl hp ?_
      refine ⟨?_, ?_, by kernel_rfl, by kernel_rfl, by kernel_rfl, Or.inl ⟨by rfl, ?_⟩, hH0, ?_, ?_⟩
      rotate_left 2
      · (intro w hSw; have hc := cell_of hSw.out cy; clear hSw; go_simp; try with_reducible rfl)
      · ((try simp only [Act.put, List.setIfInBounds_toArray, List.set_cons_zero, List.set_cons_succ]); exact rfl)
      refine Rg.tk (i := 11) rfl hp ?_
      refine ⟨?_, ?_, by kernel_rfl, by kernel_rfl, by kernel_rfl, Or.inl ⟨by rfl, ?_⟩, hH0, ?_, ?_⟩
      rotate_left 2
      · (intro w hSw; clear hSw; go_simp; try with_reducible rfl)
      · ((try simp only [Act.put, List.setIfInBounds_toArray, List.set_cons_zero, List.set_cons_succ]); exact rfl)
      refine Rg.one (i := 12) rfl ⟨by kernel_rfl, by rfl, fun K hK => ?_⟩
      go_simp
      refine hK.out _ _ ?_ (hid (hH0.out.alloc hH0.out.size _)) ?_ (fun hH1 => ?_)
      rotate_left
      · ((try simp only [Act.put, List.setIfInBounds_toArray, List.set_cons_zero, List.set_cons_succ]); exact rfl)
      clear hK K hH0
      refine Rg.one (i := 13) rfl ⟨by kernel_rfl, by rfl, fun K hK => ?_⟩
      refine wp_append_own _ _ _ 43 rfl w.heap.size 59 i0 (.agg #[.int .u64 0, .int .i64 0]) 2 16 Try.underlying43 i1 i2 i3 i4 rfl (by decide) v k (flat (L.take k)) rfl (hT0.out.alloc _) ⟨wz.heap.size, 0, none⟩ 1 1 [.int .u64 x, .int .i64 y] rfl rfl ?_ ?_ ?_ ?_ ?_ ?_
      · intro j u hj
        match j, hj with
        | 0, hj => simp at hj; subst hj; simp [Addr.add, go_sem]
        | 1, hj => simp at hj; subst hj; simp [Addr.add, go_sem]
      · intro u hu
        simp at hu
        rcases hu with rfl | rfl <;> rfl
      · unfold maxLen; omega
      · omega
      · have := hH1.out.size; simp at this; simp; omega
      intro v' w1 hown hgrow _
      have hbw := below_grown hH1.out hgrow (fun g hg => (hT0.out.lt g hg).1)
      refine hK.out _ _ ?_ (hid hbw) ?_ (fun hH2 => ?_)
      rotate_left
      · ((try simp only [Act.put, List.setIfInBounds_toArray, List.set_cons_zero, List.set_cons_succ]); exact rfl)
      clear hK K hH1
      refine Rg.tk (i := 14) rfl hp ?_
      refine ⟨?_, ?_, by kernel_rfl, by kernel_rfl, by kernel_rfl, Or.inl ⟨by rfl, ?_⟩, hH2, ?_, ?_⟩
      rotate_left 2
      · (intro w hSw; clear hSw; go_simp; try with_reducible rfl)
      · ((try simp only [Act.put, List.setIfInBounds_toArray, List.set_cons_zero, List.set_cons_succ]); exact rfl)
      refine wpAnyH_done (by kernel_rfl) ?_ _
      refine hn.out _ _ ?_
      go_wp2_with fail
      go_roundw
      case rel => exact ⟨k + 1, _, rfl, by omega, by go_num, by rw [hs.out]; exact hown, hH2.out⟩
      case measure => simp [intOf]; omega
    · obtain rfl : k = L.length := by omega
      rw [List.take_length] at hO
      obtain ⟨A', c', rfl, hrow⟩ := owns_row hO.out
      clear hO
      go_wp2_with fail
      go_ret
      exact ⟨A', c', rfl, hrow, HB.out⟩
end Go.Proofs.Ytiplgihdgckbaaa.C16
