/- Plain: counts in buckets of time, as one state; what a tick, a count and a look do to it; no program in sight. -/
import Derived.Test.YtmemafhdondfhaaSat
namespace Go.Proofs.Ytmemafhdondfhaa.Win
set_option linter.unusedVariables false
set_option linter.unusedSimpArgs false
set_option linter.unnecessarySimpa false
/-- Eight buckets: of each its time, and its counts; how many of them are used, how wide they are, and the time. -/
structure Win where
  a : Nat → Int
  c : Nat → Nat → Int
  n : Int
  width : Int
  now : Int
def upd {α : Type} (f : Nat → α) (j : Nat) (x : α) : Nat → α := fun i => if i = j then x else f i
theorem upd_same {α : Type} (f : Nat → α) (j : Nat) (x : α) : upd f j x j = x := by unfold upd; rw [if_pos rfl]
theorem upd_ne {α : Type} (f : Nat → α) {i j : Nat} (x : α) (h : i ≠ j) : upd f j x i = f i := by unfold upd; rw [if_neg h]
/-- The time behind a look at a time; its bucket; where that bucket lies. -/
def Win.time (W : Win) (t : Int) : Int := Sat.mx W.now t
def Win.bkt (W : Win) (t : Int) : Int := W.time t / W.width
def Win.slot (W : Win) (t : Int) : Nat := (W.bkt t % W.n).toNat
def Win.tick (W : Win) (t : Int) : Win :=
  { a := upd W.a (W.slot t) (W.bkt t), c := if W.a (W.slot t) = W.bkt t then W.c else upd W.c (W.slot t) (fun _ => 0), n := W.n, width := W.width, now := W.time t }
def Win.add (W : Win) (t : Int) (k : Nat) (v : Int) : Win :=
  { W.tick t with c := upd (W.tick t).c (W.slot t) (upd ((W.tick t).c (W.slot t)) k (Sat.add ((W.tick t).c (W.slot t) k) v)) }
/-- One bucket's part of a count. -/
def Win.part (W : Win) (b : Int) (k : Nat) (s : Int) (j : Nat) : Int := if W.n ≤ IntKind.u64.wrap (b - W.a j) then s else Sat.add s (W.c j k)
def Win.sumTo (W : Win) (b : Int) (k : Nat) (m : Nat) : Int := (List.range m).foldl (W.part b k) 0
/-- What is told at a time: of each kind the sum over the buckets. -/
def Win.told (W : Win) (t : Int) (k : Nat) : Int := (W.tick t).sumTo (W.bkt t) k W.n.toNat
theorem sumTo_succ (W : Win) (b : Int) (k m : Nat) : W.sumTo b k (m + 1) = W.part b k (W.sumTo b k m) m := by
  unfold Win.sumTo; rw [List.range_succ, List.foldl_append]; rfl
/-- All numbers are of 64 bits, and the shape is one that may be. -/
structure Ok (W : Win) : Prop where
  n1 : 1 ≤ W.n
  n8 : W.n ≤ 8
  w1 : 1 ≤ W.width
  w2 : W.width ≤ 1099511627776
  t0 : 0 ≤ W.now
  t1 : W.now ≤ 18446744073709551615
  a0 : ∀ j, 0 ≤ W.a j ∧ W.a j ≤ 18446744073709551615
  c0 : ∀ j k, 0 ≤ W.c j k ∧ W.c j k ≤ 18446744073709551615
theorem Ok.time {W : Win} (h : Ok W) {t : Int} (h0 : 0 ≤ t) (h1 : t ≤ 18446744073709551615) : 0 ≤ W.time t ∧ W.time t ≤ 18446744073709551615 := by
  have := h.t0; have := h.t1
  unfold Win.time
  have := Sat.mx_or W.now t
  omega
theorem Ok.bkt {W : Win} (h : Ok W) {t : Int} (h0 : 0 ≤ t) (h1 : t ≤ 18446744073709551615) : 0 ≤ W.bkt t ∧ W.bkt t ≤ 18446744073709551615 := by
  have := h.time h0 h1
  have := h.w1
  unfold Win.bkt
  exact ⟨Int.ediv_nonneg (by omega) (by omega), Int.le_trans (Int.ediv_le_self _ (by omega)) (by omega)⟩
theorem Ok.slot {W : Win} (h : Ok W) (t : Int) : W.slot t < 8 ∧ (W.slot t : Int) < W.n ∧ (W.slot t : Int) = W.bkt t % W.n := by
  have := h.n1; have := h.n8
  have h1 := Int.emod_nonneg (W.bkt t) (b := W.n) (by omega)
  have h2 := Int.emod_lt_of_pos (W.bkt t) (b := W.n) (by omega)
  unfold Win.slot
  omega
theorem Ok.tick {W : Win} (h : Ok W) {t : Int} (h0 : 0 ≤ t) (h1 : t ≤ 18446744073709551615) : Ok (W.tick t) := by
  refine ⟨h.n1, h.n8, h.w1, h.w2, (h.time h0 h1).1, (h.time h0 h1).2, fun j => ?_, fun j k => ?_⟩
  · simp only [Win.tick, upd]
    split
    · exact h.bkt h0 h1
    · exact h.a0 j
  · simp only [Win.tick]
    split
    · exact h.c0 j k
    · by_cases hj : j = W.slot t
      · subst hj; rw [upd_same]; omega
      · rw [upd_ne _ _ hj]; exact h.c0 j k
theorem Ok.add {W : Win} (h : Ok W) {t : Int} (h0 : 0 ≤ t) (h1 : t ≤ 18446744073709551615) (k : Nat) {v : Int} (v0 : 0 ≤ v) : Ok (W.add t k v) := by
  have g := h.tick h0 h1
  refine ⟨g.n1, g.n8, g.w1, g.w2, g.t0, g.t1, g.a0, fun j i => ?_⟩
  simp only [Win.add]
  by_cases hj : j = W.slot t
  · subst hj
    rw [upd_same]
    by_cases hi : i = k
    · subst hi
      rw [upd_same]
      have := Sat.add_in (g.c0 (W.slot t) i).1 v0
      omega
    · rw [upd_ne _ _ hi]; exact g.c0 _ _
  · rw [upd_ne _ _ hj]; exact g.c0 _ _
theorem part_in {W : Win} (h : Ok W) (b : Int) (k : Nat) {s : Int} (h0 : 0 ≤ s) (h1 : s ≤ 18446744073709551615) (j : Nat) : 0 ≤ W.part b k s j ∧ W.part b k s j ≤ 18446744073709551615 := by
  unfold Win.part
  split
  · exact ⟨h0, h1⟩
  · have := Sat.add_in h0 (h.c0 j k).1; omega
theorem sumTo_in {W : Win} (h : Ok W) (b : Int) (k m : Nat) : 0 ≤ W.sumTo b k m ∧ W.sumTo b k m ≤ 18446744073709551615 := by
  induction m with
  | zero => unfold Win.sumTo; simp
  | succ m ih => rw [sumTo_succ]; exact part_in h b k ih.1 ih.2 m
/-- The number in cell i, of buckets of S cells. -/
def Win.cell (W : Win) (S i : Nat) : Int := if i < 8 * S then (if i % S = 0 then W.a (i / S) else W.c (i / S) (i % S - 1)) else if i = 8 * S then W.n else if i = 8 * S + 1 then W.width else W.now
theorem cell_n (W : Win) (S : Nat) : W.cell S (8 * S) = W.n := by unfold Win.cell; rw [if_neg (by omega), if_pos rfl]
theorem cell_w (W : Win) (S : Nat) : W.cell S (8 * S + 1) = W.width := by unfold Win.cell; rw [if_neg (by omega), if_neg (by omega), if_pos rfl]
theorem cell_t (W : Win) (S : Nat) : W.cell S (8 * S + 2) = W.now := by unfold Win.cell; rw [if_neg (by omega), if_neg (by omega), if_neg (by omega)]
theorem cell_a (W : Win) (S j : Nat) (hS : 0 < S) (hj : j < 8) : W.cell S (j * S) = W.a j := by
  have : j * S < 8 * S := Nat.mul_lt_mul_of_pos_right hj hS
  unfold Win.cell; rw [if_pos this, Nat.mul_mod_left, if_pos rfl, Nat.mul_div_cancel _ hS]
theorem cell_c (W : Win) (S j k : Nat) (hk : k + 1 < S) (hj : j < 8) : W.cell S (j * S + (k + 1)) = W.c j k := by
  have h1 : j * S + S ≤ 8 * S := by rw [← Nat.succ_mul]; exact Nat.mul_le_mul_right _ hj
  have hm : (j * S + (k + 1)) % S = k + 1 := by rw [Nat.mul_comm, Nat.mul_add_mod, Nat.mod_eq_of_lt hk]
  have hd : (j * S + (k + 1)) / S = j := by rw [Nat.mul_comm, Nat.mul_add_div (by omega), Nat.div_eq_of_lt hk, Nat.add_zero]
  unfold Win.cell; rw [if_pos (by omega), hm, if_neg (by omega), hd, Nat.add_sub_cancel]
/-- The cells behind a tick that makes a bucket anew. -/
theorem cell_tick_new (W : Win) (S : Nat) (hS : 0 < S) (t : Int) (hj : W.slot t < 8) (hne : W.a (W.slot t) ≠ W.bkt t) (i : Nat) (hi : i < 8 * S + 3) :
    (W.tick t).cell S i = if W.slot t * S ≤ i ∧ i < W.slot t * S + S then (if i = W.slot t * S then W.bkt t else 0) else if i = 8 * S + 2 then W.time t else W.cell S i := by
  have hle : W.slot t * S + S ≤ 8 * S := by rw [← Nat.succ_mul]; exact Nat.mul_le_mul_right _ hj
  unfold Win.cell Win.tick
  simp only [if_neg hne]
  by_cases h8 : i < 8 * S
  · have hd := Nat.div_add_mod i S
    have hm := Nat.mod_lt i hS
    by_cases hij : i / S = W.slot t
    · rw [hij] at hd
      rw [Nat.mul_comm] at hd
      have hin : W.slot t * S ≤ i ∧ i < W.slot t * S + S := by omega
      by_cases h0 : i % S = 0
      · have h1 : i = W.slot t * S := by omega
        simp only [h8, hin, hij, h0, if_true, upd_same, h1, Nat.mul_mod_left, Nat.le_refl, true_and]
        rw [if_pos (by omega), if_pos (by omega), Nat.mul_div_cancel _ hS, upd_same]
      · have h1 : i ≠ W.slot t * S := fun e => h0 (by rw [e, Nat.mul_mod_left])
        simp only [h8, hin, hij, h0, if_true, if_false, upd_same, h1]
        rfl
    · have hout : ¬ (W.slot t * S ≤ i ∧ i < W.slot t * S + S) := by
        rintro ⟨h1, h2⟩
        apply hij
        have : i = S * W.slot t + (i - W.slot t * S) := by rw [Nat.mul_comm]; omega
        rw [this, Nat.mul_add_div hS, Nat.div_eq_of_lt (by omega), Nat.add_zero]
      have h9 : i ≠ 8 * S + 2 := by omega
      rw [if_neg hout, if_neg h9, upd_ne _ _ hij, upd_ne _ _ hij, if_pos h8, if_pos h8]
  · have hout : ¬ (W.slot t * S ≤ i ∧ i < W.slot t * S + S) := by omega
    rw [if_neg hout]
    by_cases h10 : i = 8 * S + 2
    · subst h10
      rw [if_pos rfl, if_neg h8, if_neg (by omega), if_neg (by omega)]
    · rw [if_neg h10, if_neg h8, if_neg h8]
      have : i = 8 * S ∨ i = 8 * S + 1 := by omega
      rcases this with rfl | rfl <;> simp
theorem cell_tick_old (W : Win) (S : Nat) (t : Int) (heq : W.a (W.slot t) = W.bkt t) (i : Nat) (hi : i < 8 * S + 3) :
    (W.tick t).cell S i = if i = 8 * S + 2 then W.time t else W.cell S i := by
  have ha : upd W.a (W.slot t) (W.bkt t) = W.a := by funext k; unfold upd; split <;> simp_all
  unfold Win.cell Win.tick
  simp only [if_pos heq, ha]
  by_cases h10 : i = 8 * S + 2
  · subst h10
    rw [if_neg (by omega), if_neg (by omega), if_neg (by omega), if_pos rfl]
  · rw [if_neg h10]
    by_cases h8 : i < 8 * S
    · rw [if_pos h8, if_pos h8]
    · rw [if_neg h8, if_neg h8]
      have : i = 8 * S ∨ i = 8 * S + 1 := by omega
      rcases this with rfl | rfl <;> simp
theorem cell_add (W : Win) (S : Nat) (t : Int) (k : Nat) (v : Int) (hk : k + 1 < S) (hj : W.slot t < 8) (i : Nat) (hi : i < 8 * S + 3) :
    (W.add t k v).cell S i = if i = W.slot t * S + (k + 1) then Sat.add ((W.tick t).c (W.slot t) k) v else (W.tick t).cell S i := by
  have hle : W.slot t * S + S ≤ 8 * S := by rw [← Nat.succ_mul]; exact Nat.mul_le_mul_right _ hj
  have hS : 0 < S := by omega
  by_cases h : i = W.slot t * S + (k + 1)
  · rw [if_pos h]
    subst h
    rw [cell_c _ S _ k hk hj]
    simp only [Win.add]
    rw [upd_same, upd_same]
  · rw [if_neg h]
    unfold Win.cell Win.add
    simp only
    by_cases h8 : i < 8 * S
    · simp only [h8, if_true]
      by_cases h0 : i % S = 0
      · simp only [h0, if_true]
      · simp only [h0, if_false]
        have hd := Nat.div_add_mod i S
        have hm := Nat.mod_lt i hS
        by_cases hij : i / S = W.slot t
        · rw [hij, upd_same, upd_ne]
          intro hk2
          apply h
          rw [hij, Nat.mul_comm] at hd
          omega
        · rw [upd_ne _ _ hij]
    · simp only [h8, if_false]
end Go.Proofs.Ytmemafhdondfhaa.Win
