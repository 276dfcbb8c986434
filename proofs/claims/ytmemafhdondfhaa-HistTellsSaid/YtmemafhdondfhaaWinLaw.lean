/- Plain: what is told by the buckets is what was counted in the last of them, whatever was counted; no program in sight. -/
import Derived.Test.YtmemafhdondfhaaWin
namespace Go.Proofs.Ytmemafhdondfhaa.Win
open Go.Proofs.Ytmemafhdondfhaa
set_option linter.unusedVariables false
set_option linter.unusedSimpArgs false
set_option linter.unnecessarySimpa false
/-- Something that was counted: in which bucket, of which kind, how often. -/
structure Ev where
  q : Int
  k : Nat
  v : Int
def tot (L : List Ev) (p : Ev → Bool) : Int := (L.map fun e => if p e then e.v else 0).sum
theorem tot_nil (p : Ev → Bool) : tot [] p = 0 := rfl
theorem tot_cons (e : Ev) (L : List Ev) (p : Ev → Bool) : tot (e :: L) p = (if p e then e.v else 0) + tot L p := by unfold tot; rw [List.map_cons, List.sum_cons]
theorem tot_append (L M : List Ev) (p : Ev → Bool) : tot (L ++ M) p = tot L p + tot M p := by
  induction L with
  | nil => rw [List.nil_append, tot_nil, Int.zero_add]
  | cons e L ih => rw [List.cons_append, tot_cons, tot_cons, ih, Int.add_assoc]
theorem tot_nonneg {L : List Ev} (h : ∀ e ∈ L, 0 ≤ e.v) (p : Ev → Bool) : 0 ≤ tot L p := by
  induction L with
  | nil => exact Int.le_refl 0
  | cons e L ih =>
    have h1 := h e (List.mem_cons_self)
    have h2 := ih fun x hx => h x (List.mem_cons_of_mem _ hx)
    rw [tot_cons]
    split <;> omega
theorem tot_congr {L : List Ev} {p q : Ev → Bool} (h : ∀ e ∈ L, p e = q e) : tot L p = tot L q := by
  induction L with
  | nil => rfl
  | cons e L ih => rw [tot_cons, tot_cons, h e (List.mem_cons_self), ih fun x hx => h x (List.mem_cons_of_mem _ hx)]
theorem tot_none {L : List Ev} {p : Ev → Bool} (h : ∀ e ∈ L, p e = false) : tot L p = 0 := by
  induction L with
  | nil => rfl
  | cons e L ih => rw [tot_cons, h e (List.mem_cons_self), ih fun x hx => h x (List.mem_cons_of_mem _ hx)]; rfl
theorem tot_split {L : List Ev} {p q r : Ev → Bool} (h : ∀ e ∈ L, p e = true ∧ q e = false ∧ r e = true ∨ p e = false ∧ q e = true ∧ r e = true ∨ p e = false ∧ q e = false ∧ r e = false) : tot L r = tot L p + tot L q := by
  induction L with
  | nil => rfl
  | cons e L ih =>
    have h2 := ih fun x hx => h x (List.mem_cons_of_mem _ hx)
    rw [tot_cons, tot_cons, tot_cons, h2]
    rcases h e (List.mem_cons_self) with ⟨a, b, c⟩ | ⟨a, b, c⟩ | ⟨a, b, c⟩ <;> rw [a, b, c] <;> simp <;> omega
theorem add_caps {x y : Int} (hx : 0 ≤ x) (hy : 0 ≤ y) : Sat.add (Sat.cap x) (Sat.cap y) = Sat.cap (x + y) := by
  unfold Sat.add Sat.cap
  (repeat' split) <;> omega
theorem cap_zero : Sat.cap 0 = 0 := by decide

/-- The buckets hold what was counted in the last of them. -/
structure Holds (W : Win) (L : List Ev) : Prop where
  ok : Ok W
  le : ∀ j, W.a j ≤ W.now / W.width
  md : ∀ j : Nat, (j : Int) < W.n → W.a j = 0 ∨ W.a j % W.n = j
  ev : ∀ e ∈ L, 0 ≤ e.q ∧ 0 ≤ e.v ∧ e.q ≤ W.a (e.q % W.n).toNat
  c : ∀ j : Nat, (j : Int) < W.n → ∀ k, W.c j k = if W.a j % W.n = j then Sat.cap (tot L fun e => decide (e.q = W.a j ∧ e.k = k)) else 0

theorem Holds.tick {W : Win} {L : List Ev} (h : Holds W L) {t : Int} (t0 : 0 ≤ t) (t1 : t ≤ 18446744073709551615) : Holds (W.tick t) L := by
  have ok' := h.ok.tick t0 t1
  have hs := h.ok.slot t
  have hb := h.ok.bkt t0 t1
  have hn := h.ok.n1
  have hw := h.ok.w1
  have hmono : W.now / W.width ≤ W.bkt t := by
    unfold Win.bkt Win.time
    exact Int.ediv_le_ediv (by omega) (Sat.mx_ge W.now t).1
  have hnow : (W.tick t).now / (W.tick t).width = W.bkt t := rfl
  refine ⟨ok', fun j => ?_, fun j hj => ?_, fun e he => ?_, fun j hj k => ?_⟩
  · rw [hnow]
    simp only [Win.tick, upd]
    split
    · exact Int.le_refl _
    · exact Int.le_trans (h.le j) hmono
  · simp only [Win.tick, upd]
    split
    · rename_i e; right; rw [e]; exact hs.2.2.symm
    · exact h.md j hj
  · obtain ⟨e0, ev, e1⟩ := h.ev e he
    refine ⟨e0, ev, ?_⟩
    simp only [Win.tick, upd]
    split
    · rename_i heq
      rw [heq] at e1
      exact Int.le_trans e1 (Int.le_trans (h.le _) hmono)
    · exact e1
  · by_cases hj2 : j = W.slot t
    · subst hj2
      have ha : (W.tick t).a (W.slot t) = W.bkt t := by simp only [Win.tick]; exact upd_same _ _ _
      have e1 : (W.tick t).n = W.n := rfl
      rw [ha, e1, if_pos hs.2.2.symm]
      by_cases heq : W.a (W.slot t) = W.bkt t
      · have : (W.tick t).c (W.slot t) k = W.c (W.slot t) k := by simp only [Win.tick, if_pos heq]
        rw [this, h.c _ hj k, heq, if_pos hs.2.2.symm]
      · have : (W.tick t).c (W.slot t) k = 0 := by simp only [Win.tick, if_neg heq, upd_same]
        rw [this, tot_none, cap_zero]
        intro e he
        rw [decide_eq_false_iff_not]
        rintro ⟨h1, _⟩
        have h2 := (h.ev e he).2.2
        rw [h1] at h2
        have h3 : (W.bkt t % W.n).toNat = W.slot t := rfl
        rw [h3] at h2
        have := h.le (W.slot t)
        omega
    · have ha : (W.tick t).a j = W.a j := by simp only [Win.tick]; exact upd_ne _ _ hj2
      have hc : (W.tick t).c j k = W.c j k := by
        simp only [Win.tick]
        split
        · rfl
        · rw [upd_ne _ _ hj2]
      rw [ha, hc]
      exact h.c j hj k

theorem Holds.add {W : Win} {L : List Ev} (h : Holds W L) {t : Int} (t0 : 0 ≤ t) (t1 : t ≤ 18446744073709551615) (k : Nat) {v : Int} (v0 : 0 ≤ v) : Holds (W.add t k v) (L ++ [⟨W.bkt t, k, v⟩]) := by
  have g := h.tick t0 t1
  have hs := h.ok.slot t
  have hb := h.ok.bkt t0 t1
  have ha : (W.tick t).a (W.slot t) = W.bkt t := by simp only [Win.tick]; exact upd_same _ _ _
  refine ⟨h.ok.add t0 t1 k v0, g.le, g.md, fun e he => ?_, fun j hj i => ?_⟩
  · rcases List.mem_append.1 he with he | he
    · exact g.ev e he
    · rw [List.mem_singleton] at he
      subst he
      refine ⟨hb.1, v0, ?_⟩
      show W.bkt t ≤ (W.tick t).a (W.bkt t % W.n).toNat
      have : (W.bkt t % W.n).toNat = W.slot t := rfl
      rw [this, ha]
      exact Int.le_refl _
  · show (upd (W.tick t).c (W.slot t) (upd ((W.tick t).c (W.slot t)) k (Sat.add ((W.tick t).c (W.slot t) k) v))) j i = if (W.tick t).a j % W.n = j then Sat.cap (tot (L ++ [⟨W.bkt t, k, v⟩]) fun e => decide (e.q = (W.tick t).a j ∧ e.k = i)) else 0
    rw [tot_append, tot_cons, tot_nil, Int.add_zero]
    by_cases hj2 : j = W.slot t
    · subst hj2
      rw [upd_same, ha, if_pos hs.2.2.symm]
      have hc := g.c (W.slot t) hj
      by_cases hi : i = k
      · subst hi
        have := hc i
        rw [ha] at this
        rw [upd_same, this]
        have e1 : (W.tick t).n = W.n := rfl
        rw [e1, if_pos hs.2.2.symm, Sat.add_cap (tot_nonneg (fun e he => (h.ev e he).2.1) _) v0]
        simp
      · rw [upd_ne _ _ hi, hc i, ha]
        have e1 : (W.tick t).n = W.n := rfl
        rw [e1, if_pos hs.2.2.symm]
        have hz : (if decide (W.bkt t = W.bkt t ∧ k = i) = true then v else 0) = 0 := by rw [if_neg]; simp; omega
        show _ = Sat.cap (_ + if decide (W.bkt t = W.bkt t ∧ k = i) = true then v else 0)
        rw [hz, Int.add_zero]
    · rw [upd_ne _ _ hj2, g.c j hj i]
      have e1 : (W.tick t).n = W.n := rfl
      rw [e1]
      by_cases hm : (W.tick t).a j % W.n = j
      · rw [if_pos hm, if_pos hm]
        have : decide (W.bkt t = (W.tick t).a j ∧ k = i) = false := by
          rw [decide_eq_false_iff_not]
          rintro ⟨h1, _⟩
          apply hj2
          rw [← h1] at hm
          have := hs.2.2
          omega
        simp only [this]
        simp
      · rw [if_neg hm, if_neg hm]

theorem Holds.sum {W : Win} {L : List Ev} (h : Holds W L) (k : Nat) (b : Int) (hb : b = W.now / W.width) (hb0 : b ≤ 18446744073709551615) :
    ∀ m : Nat, (m : Int) ≤ W.n → W.sumTo b k m = Sat.cap (tot L fun e => decide (e.k = k ∧ b - W.n < e.q ∧ (e.q % W.n).toNat < m)) := by
  have hn := h.ok.n1
  intro m
  induction m with
  | zero =>
    intro _
    rw [tot_none (by intro e _; simp), cap_zero]
    rfl
  | succ m ih =>
    intro hm
    have ha := h.ok.a0 m
    have hle := h.le m
    rw [sumTo_succ, ih (by omega)]
    unfold Win.part
    have hwr : IntKind.u64.wrap (b - W.a m) = b - W.a m := Sat.u64_in (by omega) (by omega)
    rw [hwr]
    have hnn : ∀ p, 0 ≤ tot L p := fun p => tot_nonneg (fun e he => (h.ev e he).2.1) p
    -- events of slot m that are in the window are of the bucket that lies there
    have key : ∀ e ∈ L, (e.q % W.n).toNat = m → b - W.n < e.q → e.q = W.a m ∧ W.a m % W.n = m := by
      intro e he hs hq
      obtain ⟨e0, _, e1⟩ := h.ev e he
      rw [hs] at e1
      have hmod := Int.emod_nonneg e.q (b := W.n) (by omega)
      have hem : e.q % W.n = m := by omega
      have h3 : W.a m % W.n = m := by
        rcases h.md m (by omega) with h0 | h0
        · have : e.q = 0 := by omega
          rw [h0]; rw [this] at hem; exact hem
        · exact h0
      refine ⟨?_, h3⟩
      have d1 := Int.emod_add_mul_ediv e.q W.n
      have d2 := Int.emod_add_mul_ediv (W.a m) W.n
      rw [hem] at d1
      rw [h3] at d2
      have hlt : W.a m - e.q < W.n := by omega
      have hx : W.n * (W.a m / W.n - e.q / W.n) < W.n * 1 := by rw [Int.mul_sub]; omega
      have hx2 := Int.lt_of_mul_lt_mul_left hx (by omega)
      have hy : W.n * (e.q / W.n) ≤ W.n * (W.a m / W.n) := by omega
      have hy2 := Int.le_of_mul_le_mul_left hy (by omega)
      have : W.a m / W.n = e.q / W.n := by omega
      rw [this] at d2
      omega
    by_cases hin : W.n ≤ b - W.a m
    · rw [if_pos hin]
      congr 1
      apply tot_congr
      intro e he
      rw [decide_eq_decide]
      constructor
      · rintro ⟨h1, h2, h3⟩; exact ⟨h1, h2, by omega⟩
      · rintro ⟨h1, h2, h3⟩
        refine ⟨h1, h2, ?_⟩
        by_cases hs : (e.q % W.n).toNat = m
        · have := (key e he hs h2).1; omega
        · omega
    · rw [if_neg hin, h.c m (by omega) k]
      by_cases hm2 : W.a m % W.n = m
      · rw [if_pos hm2, add_caps (hnn _) (hnn _)]
        congr 1
        symm
        apply tot_split
        intro e he
        have hslot : e.q = W.a m → (e.q % W.n).toNat = m := by intro hq; rw [hq, hm2]; omega
        by_cases h1 : e.k = k
        · by_cases h2 : b - W.n < e.q
          · by_cases hs : (e.q % W.n).toNat = m
            · have hq := (key e he hs h2).1
              right; left
              simp only [decide_eq_true_eq, decide_eq_false_iff_not]
              exact ⟨fun hh => by omega, ⟨hq, h1⟩, h1, h2, by omega⟩
            · have hq : e.q ≠ W.a m := fun hh => hs (hslot hh)
              by_cases hl : (e.q % W.n).toNat < m
              · left
                simp only [decide_eq_true_eq, decide_eq_false_iff_not]
                exact ⟨⟨h1, h2, hl⟩, fun hh => hq hh.1, h1, h2, by omega⟩
              · right; right
                simp only [decide_eq_false_iff_not]
                exact ⟨fun hh => hl hh.2.2, fun hh => hq hh.1, fun hh => by omega⟩
          · have hq : e.q ≠ W.a m := by omega
            right; right
            simp only [decide_eq_false_iff_not]
            exact ⟨fun hh => h2 hh.2.1, fun hh => hq hh.1, fun hh => h2 hh.2.1⟩
        · right; right
          simp only [decide_eq_false_iff_not]
          exact ⟨fun hh => h1 hh.1, fun hh => h1 hh.2, fun hh => h1 hh.1⟩
      · rw [if_neg hm2]
        have := Sat.cap_in (hnn fun e => decide (e.k = k ∧ b - W.n < e.q ∧ (e.q % W.n).toNat < m))
        rw [Sat.add_zero this.1 this.2]
        congr 1
        apply tot_congr
        intro e he
        rw [decide_eq_decide]
        constructor
        · rintro ⟨h1, h2, h3⟩; exact ⟨h1, h2, by omega⟩
        · rintro ⟨h1, h2, h3⟩
          refine ⟨h1, h2, ?_⟩
          by_cases hs : (e.q % W.n).toNat = m
          · exact absurd (key e he hs h2).2 hm2
          · omega
/-- WHAT IS TOLD: what was counted in the last buckets, capped. -/
theorem Holds.told {W : Win} {L : List Ev} (h : Holds W L) {t : Int} (t0 : 0 ≤ t) (t1 : t ≤ 18446744073709551615) (k : Nat) :
    W.told t k = Sat.cap (tot L fun e => decide (e.k = k ∧ W.bkt t - W.n < e.q)) := by
  have g := h.tick t0 t1
  have hn := h.ok.n1
  unfold Win.told
  rw [g.sum k (W.bkt t) rfl (h.ok.bkt t0 t1).2 W.n.toNat (by show (W.n.toNat : Int) ≤ W.n; omega)]
  congr 1
  apply tot_congr
  intro e _
  rw [decide_eq_decide]
  have hmod := Int.emod_lt_of_pos e.q (b := W.n) (by omega)
  show (e.k = k ∧ W.bkt t - W.n < e.q ∧ (e.q % W.n).toNat < W.n.toNat) ↔ _
  constructor
  · rintro ⟨h1, h2, _⟩; exact ⟨h1, h2⟩
  · rintro ⟨h1, h2⟩; exact ⟨h1, h2, by omega⟩
end Go.Proofs.Ytmemafhdondfhaa.Win
