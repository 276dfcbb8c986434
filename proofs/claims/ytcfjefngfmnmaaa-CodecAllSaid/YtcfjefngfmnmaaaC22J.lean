/- Two slices that hold the same events are alike. -/
import Derived.Test.YtcfjefngfmnmaaaC22I
namespace Go.Proofs.Ytcfjefngfmnmaaa.C22
open Go.RowKit Go.Proofs.Ytcfjefngfmnmaaa Go.Proofs.Ytcfjefngfmnmaaa.Cod
set_option linter.unusedVariables false
set_option linter.unusedSimpArgs false
set_option linter.unnecessarySimpa false
/-- An event lies at a place. -/
def EvAt (w : World) (b o : Nat) (e : Ev) : Prop := ∃ V c, w.rangeAt b o (evF e V c).toList ∧ RowI w V e.vals
theorem EvAt.below {w w' : World} {b o : Nat} {e : Ev} (h : EvAt w b o e) (hb : Below w.heap.size w w') : EvAt w' b o e := by
  obtain ⟨V, c, h1, h2⟩ := h
  exact ⟨V, c, range_below hb h1, h2.below hb⟩
/-- What a slice of events holds. -/
def RowE (w : World) (A : Option Addr) (l : List Ev) : Prop := l = [] ∨ ∃ b o, A = some ⟨b, o, none⟩ ∧ ∀ i, i < l.length → EvAt w b (o + i * 9) (l.getD i zero)
theorem RowE.below {w w' : World} {A : Option Addr} {l : List Ev} (h : RowE w A l) (hb : Below w.heap.size w w') : RowE w' A l := by
  rcases h with rfl | ⟨b, o, rfl, h⟩
  · exact .inl rfl
  · exact .inr ⟨b, o, rfl, fun i hi => (h i hi).below hb⟩
theorem RowE.at {w : World} {A : Option Addr} {l : List Ev} (h : RowE w A l) {i : Nat} (hi : i < l.length) : ∃ b o, A = some ⟨b, o, none⟩ ∧ EvAt w b (o + i * 9) (l.getD i zero) := by
  rcases h with rfl | ⟨b, o, rfl, h⟩
  · exact absurd hi (Nat.not_lt_zero _)
  · exact ⟨b, o, rfl, h i hi⟩
theorem RowI.at {w : World} {A : Option Addr} {l : List Int} (h : RowI w A l) {i : Nat} (hi : i < l.length) : ∃ b o, A = some ⟨b, o, none⟩ ∧ w.cell? ⟨b, o + i, none⟩ = some (.int .i64 (l.getD i 0)) := by
  rcases h with rfl | ⟨b, o, rfl, h⟩
  · exact absurd hi (Nat.not_lt_zero _)
  · exact ⟨b, o, rfl, h i hi⟩
theorem cells9 {w : World} {B o : Nat} {e : Ev} {V : Option Addr} {c : Nat} (h : w.rangeAt B o (evF e V c).toList) : w.cell? ⟨B, o, none⟩ = some (.int .i64 e.kind) ∧ w.cell? ⟨B, o + 1, none⟩ = some (.int .i64 e.id) ∧ w.cell? ⟨B, o + 2, none⟩ = some (.int .i64 e.dep) ∧ w.cell? ⟨B, o + 3, none⟩ = some (.int .i64 e.scope) ∧ w.cell? ⟨B, o + 4, none⟩ = some (.int .i64 e.arg) ∧ w.cell? ⟨B, o + 5, none⟩ = some (.int .i64 e.step) ∧ w.cell? ⟨B, o + 6, none⟩ = some (.int .u64 e.n) ∧ w.cell? ⟨B, o + 7, none⟩ = some (.bool e.ok) ∧ w.cell? ⟨B, o + 8, none⟩ = some (.slice V e.vals.length c) := by
  have r := fun j v (hj : (evF e V c).toList[j]? = some v) => h j v hj
  exact ⟨r 0 _ rfl, r 1 _ rfl, r 2 _ rfl, r 3 _ rfl, r 4 _ rfl, r 5 _ rfl, r 6 _ rfl, r 7 _ rfl, r 8 _ rfl⟩
set_option maxHeartbeats 4000000 in
set_option maxRecDepth 20000 in
theorem events_same (l : List Ev) (A B : Option Addr) (c d : Nat) (w : World) (hl : l.length ≤ 1000000) (hv : Hid (∀ e ∈ l, e.vals.length ≤ 1000000)) (ha : Hid (RowE w A l)) (hb : Hid (RowE w B l)) :
    Calls Try.prog 20 #[.slice A l.length c, .slice B l.length d] w fun x w' => x = .returned (.bool true) ∧ Below w.heap.size w w' := by
  have hli : (l.length : Int) ≤ 1000000 := by omega
  go_enter Try.func20, Try.ntmps20
  go_wp2_with fail
  go_loopw [5] (fun i wr => ∃ k : Nat, k ≤ l.length ∧ i = .int .i64 k ∧ Below w.heap.size w wr) (fun i _ => l.length - (intOf i).toNat)
  case atStart => exact ⟨0, Nat.zero_le _, rfl, Below.refl _ _⟩
  case round =>
    obtain ⟨k, hk, rfl, hw⟩ := hrel
    have Hw := hid hw
    obtain ⟨wo, rfl⟩ : ∃ wo : World, wo = wr := ⟨_, rfl⟩
    by_cases hlt : k < l.length
    · have hlti : (k : Int) < l.length := by omega
      obtain ⟨b1, o1, rfl, h1⟩ := (ha.out.below hw).at hlt
      obtain ⟨b2, o2, rfl, h2⟩ := (hb.out.below hw).at hlt
      have hve : (l.getD k zero).vals.length ≤ 1000000 := hv.out _ (by rw [List.getD_eq_getElem?_getD, List.getElem?_eq_getElem hlt]; exact List.getElem_mem hlt)
      clear hw
      generalize l.getD k zero = e at *
      obtain ⟨V1, c1, r1, s1⟩ := h1
      obtain ⟨V2, c2, r2, s2⟩ := h2
      have hvi : (e.vals.length : Int) ≤ 1000000 := by omega
      obtain ⟨a0, a1, a2, a3, a4, a5, a6, a7, a8⟩ := cells9 r1
      have g0 := fun o => cells9 (range_below (grow wo o) r2)
      have b0 := fun o => (g0 o).1
      have b1 := fun o => (g0 o).2.1
      have b2 := fun o => (g0 o).2.2.1
      have b3 := fun o => (g0 o).2.2.2.1
      have b4 := fun o => (g0 o).2.2.2.2.1
      have b5 := fun o => (g0 o).2.2.2.2.2.1
      have b6 := fun o => (g0 o).2.2.2.2.2.2.1
      have b7 := fun o => (g0 o).2.2.2.2.2.2.2.1
      have b8 := fun o => (g0 o).2.2.2.2.2.2.2.2
      have S1 := hid s1
      have S2 := hid s2
      clear g0 r1 r2 s1 s2
      go_wp2_with fail
      clear a0 a1 a2 a3 a4 a5 a6 a7 a8 b0 b1 b2 b3 b4 b5 b6 b7 b8
      go_loopw [8] (fun i wr => ∃ j : Nat, j ≤ e.vals.length ∧ i = .int .i64 j ∧ Below (wo.heap.size + 2) ((wo.alloc (.cells (evF e V1 c1) 25 (0, 0))).alloc (.cells (evF e V2 c2) 25 (0, 0))) wr) (fun i _ => e.vals.length - (intOf i).toNat)
      case atStart => exact ⟨0, Nat.zero_le _, rfl, Below.refl _ _⟩
      case round =>
        obtain ⟨j, hj, rfl, hz⟩ := hrel
        have hsz : ((wo.alloc (.cells (evF e V1 c1) 25 (0, 0))).alloc (.cells (evF e V2 c2) 25 (0, 0))).heap.size = wo.heap.size + 2 := by simp
        have hz' := hz
        rw [← hsz] at hz'
        have x8 : wr.cell? ⟨wo.heap.size, 8, none⟩ = some (.slice V1 e.vals.length c1) := cell_of hz' (by simp [go_sem])
        have y8 : wr.cell? ⟨wo.heap.size + 1, 8, none⟩ = some (.slice V2 e.vals.length c2) := cell_of hz' (by simp [go_sem])
        have Hz := hid hz
        have hbw : Below wo.heap.size wo wr := ((grow wo _).alloc (by simp) _).trans (hz.mono (by omega))
        have Hbw := hid hbw
        clear hsz hz hz'
        by_cases hlj : j < e.vals.length
        · have hlji : (j : Int) < e.vals.length := by omega
          obtain ⟨p1, q1, rfl, m1⟩ := (S1.out.below hbw).at hlj
          obtain ⟨p2, q2, rfl, m2⟩ := (S2.out.below hbw).at hlj
          clear hbw
          generalize e.vals.getD j 0 = v at *
          go_wp2_with fail
          go_quiet (fail)
          go_wp2_with fail
          go_roundw
          case rel => exact ⟨j + 1, by omega, by go_num, quietN Hz.out _⟩
          case measure => simp [intOf]; omega
        · obtain rfl : j = e.vals.length := by omega
          clear hbw hlj hj
          go_wp2_with fail
          go_roundw
          case rel => exact ⟨k + 1, by omega, by go_num, via Hw.out Hbw.out⟩
          case measure => simp [intOf]; omega
    · clear hw
      go_wp2_with fail
      go_ret
      exact ⟨rfl, Hw.out⟩
end Go.Proofs.Ytcfjefngfmnmaaa.C22
