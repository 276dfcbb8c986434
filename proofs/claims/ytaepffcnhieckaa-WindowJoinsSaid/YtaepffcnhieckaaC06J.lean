/- Plain: what two windows tell together is what one tells that was told all. -/
import Derived.Test.YtaepffcnhieckaaC06D
namespace Go.Proofs.Ytaepffcnhieckaa.C06
open Go.RowKit Go.Proofs.Ytaepffcnhieckaa Go.Proofs.Ytaepffcnhieckaa.Win
set_option linter.unusedVariables false
set_option linter.unusedSimpArgs false
set_option linter.unnecessarySimpa false
theorem mx_of_le {a b : Int} (h : a ≤ b) : Sat.mx a b = b := by unfold Sat.mx; split <;> omega
/-- A window of four buckets of ten, at a time, and what was counted. -/
structure Is (V : Win) (L : List Ev) (now : Int) : Prop where
  holds : Holds V L
  n : V.n = 4
  width : V.width = 10
  now : V.now ≤ now
def evs (t k v : Int) : List Ev := if 0 ≤ k ∧ k < 5 then [⟨t / 10, k.toNat, v⟩] else []
theorem Is.bkt {V : Win} {L : List Ev} {now : Int} (h : Is V L now) : V.bkt now = now / 10 := by
  unfold Win.bkt Win.time
  rw [mx_of_le h.now, h.width]
theorem Is.add {V : Win} {L : List Ev} {now : Int} (h : Is V L now) (t0 : 0 ≤ now) (t1 : now ≤ 18446744073709551615) (k v : Int) (v0 : 0 ≤ v) : Is (addI V now k v) (L ++ evs now k v) now := by
  unfold addI evs
  by_cases hk : 0 ≤ k ∧ k < 5
  · rw [if_pos hk, if_pos hk, ← h.bkt]
    exact ⟨h.holds.add t0 t1 k.toNat v0, h.n, h.width, by show Sat.mx V.now now ≤ now; rw [mx_of_le h.now]; exact Int.le_refl _⟩
  · rw [if_neg hk, if_neg hk, List.append_nil]
    exact h
theorem Is.tick {V : Win} {L : List Ev} {now : Int} (h : Is V L now) (t0 : 0 ≤ now) (t1 : now ≤ 18446744073709551615) : Is (V.tick now) L now :=
  ⟨h.holds.tick t0 t1, h.n, h.width, by show Sat.mx V.now now ≤ now; rw [mx_of_le h.now]; exact Int.le_refl _⟩
theorem Is.later {V : Win} {L : List Ev} {now t : Int} (h : Is V L now) (ht : now ≤ t) : Is V L t := ⟨h.holds, h.n, h.width, Int.le_trans h.now ht⟩
theorem Is.told {V : Win} {L : List Ev} {now : Int} (h : Is V L now) (t0 : 0 ≤ now) (t1 : now ≤ 18446744073709551615) (k : Nat) : V.told now k = Sat.cap (tot L fun e => decide (e.k = k ∧ now / 10 - 4 < e.q)) := by
  rw [h.holds.told t0 t1 k, h.bkt, h.n]
theorem Is.nonneg {V : Win} {L : List Ev} {now : Int} (h : Is V L now) (p : Ev → Bool) : 0 ≤ tot L p := tot_nonneg (fun e he => (h.holds.ev e he).2.1) p
theorem tot_evs (t k v : Int) (v0 : 0 ≤ v) (p : Ev → Bool) : 0 ≤ tot (evs t k v) p ∧ tot (evs t k v) p ≤ v := by
  unfold evs
  split
  · rw [tot_cons, tot_nil, Int.add_zero]
    split
    · exact ⟨v0, Int.le_refl _⟩
    · exact ⟨Int.le_refl _, v0⟩
  · rw [tot_nil]; omega
/-- Three windows: the third holds what the first two hold. -/
def Three (Va Vb Vc : Win) (now : Int) (j : Nat) : Prop := ∃ La Lb Lc, Is Va La now ∧ Is Vb Lb now ∧ Is Vc Lc now ∧ (∀ p, tot Lc p = tot La p + tot Lb p) ∧ ∀ p, tot Lc p ≤ 1000 * j
theorem Three.later {Va Vb Vc : Win} {now t : Int} {j : Nat} (h : Three Va Vb Vc now j) (ht : now ≤ t) : Three Va Vb Vc t j := by
  obtain ⟨La, Lb, Lc, ha, hb, hc, h1, h2⟩ := h
  exact ⟨La, Lb, Lc, ha.later ht, hb.later ht, hc.later ht, h1, h2⟩
theorem Three.left {Va Vb Vc : Win} {now : Int} {j : Nat} (h : Three Va Vb Vc now j) (t0 : 0 ≤ now) (t1 : now ≤ 18446744073709551615) (k v : Int) (v0 : 0 ≤ v) (v1 : v ≤ 1000) : Three (addI Va now k v) Vb (addI Vc now k v) now (j + 1) := by
  obtain ⟨La, Lb, Lc, ha, hb, hc, h1, h2⟩ := h
  refine ⟨_, _, _, ha.add t0 t1 k v v0, hb, hc.add t0 t1 k v v0, fun p => ?_, fun p => ?_⟩
  · have := h1 p
    rw [tot_append, tot_append]; omega
  · have := h2 p
    have := tot_evs now k v v0 p
    rw [tot_append]; push_cast; omega
theorem Three.right {Va Vb Vc : Win} {now : Int} {j : Nat} (h : Three Va Vb Vc now j) (t0 : 0 ≤ now) (t1 : now ≤ 18446744073709551615) (k v : Int) (v0 : 0 ≤ v) (v1 : v ≤ 1000) : Three Va (addI Vb now k v) (addI Vc now k v) now (j + 1) := by
  obtain ⟨La, Lb, Lc, ha, hb, hc, h1, h2⟩ := h
  refine ⟨_, _, _, ha, hb.add t0 t1 k v v0, hc.add t0 t1 k v v0, fun p => ?_, fun p => ?_⟩
  · have := h1 p
    rw [tot_append, tot_append]; omega
  · have := h2 p
    have := tot_evs now k v v0 p
    rw [tot_append]; push_cast; omega
theorem Three.tick {Va Vb Vc : Win} {now : Int} {j : Nat} (h : Three Va Vb Vc now j) (t0 : 0 ≤ now) (t1 : now ≤ 18446744073709551615) : Three (Va.tick now) (Vb.tick now) (Vc.tick now) now j := by
  obtain ⟨La, Lb, Lc, ha, hb, hc, h1, h2⟩ := h
  exact ⟨La, Lb, Lc, ha.tick t0 t1, hb.tick t0 t1, hc.tick t0 t1, h1, h2⟩
theorem Three.told {Va Vb Vc : Win} {now : Int} {j : Nat} (h : Three Va Vb Vc now j) (hj : j ≤ 1000) (t0 : 0 ≤ now) (t1 : now ≤ 18446744073709551615) (k : Nat) :
    Vc.told now k = Va.told now k + Vb.told now k ∧ 0 ≤ Va.told now k ∧ 0 ≤ Vb.told now k ∧ Va.told now k + Vb.told now k ≤ 1000000 := by
  obtain ⟨La, Lb, Lc, ha, hb, hc, h1, h2⟩ := h
  rw [ha.told t0 t1, hb.told t0 t1, hc.told t0 t1]
  have e := h1 fun e => decide (e.k = k ∧ now / 10 - 4 < e.q)
  have l := h2 fun e => decide (e.k = k ∧ now / 10 - 4 < e.q)
  have na := ha.nonneg fun e => decide (e.k = k ∧ now / 10 - 4 < e.q)
  have nb := hb.nonneg fun e => decide (e.k = k ∧ now / 10 - 4 < e.q)
  generalize (tot La fun e => decide (e.k = k ∧ now / 10 - 4 < e.q)) = x at *
  generalize (tot Lb fun e => decide (e.k = k ∧ now / 10 - 4 < e.q)) = y at *
  generalize (tot Lc fun e => decide (e.k = k ∧ now / 10 - 4 < e.q)) = z at *
  rw [cap_id (n := x) (by omega), cap_id (n := y) (by omega), cap_id (n := z) (by omega)]
  omega
theorem three_fresh : Three (fresh 4 10) (fresh 4 10) (fresh 4 10) 0 0 := by
  have h : Is (fresh 4 10) [] 0 := ⟨holds_fresh (by omega) (by omega) (by omega) (by omega), rfl, rfl, Int.le_refl _⟩
  exact ⟨[], [], [], h, h, h, fun p => rfl, fun p => Int.le_refl _⟩
end Go.Proofs.Ytaepffcnhieckaa.C06
