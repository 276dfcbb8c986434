/- What is told of notes, by the hist and by the reference: the same; no program in sight. And: worlds that a call on a hist leaves. -/
import Derived.Test.YtmemafhdondfhaaC07T
import Derived.Test.YtmemafhdondfhaaC07G
namespace Go.Proofs.Ytmemafhdondfhaa.C06
open Go.RowKit Go.Proofs.Ytmemafhdondfhaa Go.Proofs.Ytmemafhdondfhaa.Win
set_option linter.unusedVariables false
set_option linter.unusedSimpArgs false
set_option linter.unnecessarySimpa false
attribute [local go_sem] C01.max2_mx C01.min2_mn C01.max_two C01.min_two
/-- Notes as what was counted. -/
def evs (l : List O) : List Ev := l.map fun e => ⟨e.1, Bits.blen e.2, 1⟩
theorem evs_snoc (l : List O) (e : O) : evs (l ++ [e]) = evs l ++ [⟨e.1, Bits.blen e.2, 1⟩] := by unfold evs; rw [List.map_append]; rfl
theorem tot_evs (l : List O) (p : Ev → Bool) (r : O → Bool) (h : ∀ e ∈ l, p ⟨e.1, Bits.blen e.2, 1⟩ = r e) : tot (evs l) p = ((l.countP r : Nat) : Int) := by
  induction l with
  | nil => rfl
  | cons e l ih =>
    have h2 := ih fun x hx => h x (List.mem_cons_of_mem _ hx)
    show tot (_ :: evs l) p = _
    rw [tot_cons, h2, h e List.mem_cons_self, List.countP_cons]
    split <;> simp <;> omega
theorem told_cnt {V : Win} {l : List O} (h : Holds V (evs l)) {t b n : Int} (t0 : 0 ≤ t) (t1 : t ≤ 18446744073709551615) (hb : V.bkt t = b) (hn : V.n = n) (hl : l.length ≤ 1000) (q : Nat) : V.told t q = rcnt b n l q := by
  rw [h.told t0 t1 q, hb, hn]
  have hbb := h.ok.bkt t0 t1
  rw [hb] at hbb
  have e1 := tot_evs l (fun e => decide (e.k = q ∧ b - n < e.q)) (fun e => rin b n e && (Bits.blen e.2 == q)) (fun e he => by
    have hev := h.ev ⟨e.1, Bits.blen e.2, 1⟩ (List.mem_map.2 ⟨e, he, rfl⟩)
    obtain ⟨q0, _, q1⟩ := hev
    dsimp only at q0 q1
    have hle := h.le (e.1 % V.n).toNat
    have hmono : V.now / V.width ≤ b := by
      rw [← hb]
      unfold Win.bkt Win.time
      have := h.ok.w1
      exact Int.ediv_le_ediv (by omega) (Sat.mx_ge V.now t).1
    have hw : IntKind.u64.wrap (b - e.1) = b - e.1 := Sat.u64_in (by omega) (by omega)
    unfold rin
    rw [hw]
    dsimp only
    rw [Bool.eq_iff_iff]
    simp only [decide_eq_true_eq, Bool.and_eq_true, beq_iff_eq]
    constructor
    · rintro ⟨a1, a2⟩; exact ⟨by omega, a1⟩
    · rintro ⟨a1, a2⟩; exact ⟨a2, by omega⟩)
  rw [e1]
  have := rcnt_le b n l q
  unfold rcnt at this ⊢
  exact cap_id (by omega)
theorem rcnt_in (b n : Int) (l : List O) (hl : l.length ≤ 1000) : ∀ q, 0 ≤ rcnt b n l q ∧ rcnt b n l q ≤ 18446744073709551615 := fun q => by have := rcnt_le b n l q; omega
theorem range_only {w w' : World} {B b o : Nat} {cs : List Value} (h : w.rangeAt b o cs) (ho : Only B w w') (hne : b ≠ B) : w'.rangeAt b o cs := fun j v hj => ho.cell (h j v hj) hne
theorem there_only {w w' : World} {B b o k : Nat} (h : w.there b o k) (ho : Only B w w') (hne : b ≠ B) : w'.there b o k := fun j hj => by
  obtain ⟨h1, h2⟩ := h j hj
  obtain ⟨v, hv⟩ := Option.isSome_iff_exists.1 h1
  have hlt := World.block_lt_of_cell? w _ hv
  exact ⟨by rw [ho.cell hv hne]; rfl, by rw [World.frozen?_of_block (w := w) (ho.block b hlt hne)]; exact h2⟩
theorem RowO.only {w w' : World} {B : Nat} {A : Option Addr} {l : List O} (h : RowO w A l) (ho : Only B w w') (hne : ∀ b o, A = some ⟨b, o, none⟩ → b ≠ B) : RowO w' A l := by
  rcases h with rfl | ⟨b, o, rfl, h⟩
  · exact .inl rfl
  · exact .inr ⟨b, o, rfl, fun i hi => ⟨ho.cell (h i hi).1 (hne b o rfl), ho.cell (h i hi).2 (hne b o rfl)⟩⟩
theorem cell_far {w w' : World} (h : Below w.heap.size w w') {p : Addr} {v : Value} (hc : w.cell? p = some v) : w'.cell? p = some v := cell_below h hc
/-- Where the law's loop stands. -/
structure Lp (w : World) (H X : Nat) (n wd t : Int) (W : Win) (V : Option Addr) (c : Nat) (rl : List O) (wr : World) : Prop where
  has : Has w H W wr
  holds : Holds W (evs rl)
  en : W.n = n
  ewd : W.width = wd
  enow : W.now = t
  t0 : 0 ≤ t
  t1 : t ≤ 18446744073709551615
  rng : wr.rangeAt X 0 (rh n wd t V rl.length c).toList
  thr : wr.there X 0 4
  row : RowO wr V rl
  nil : V = none → rl = [] ∧ c = 0
  far : ∀ b o, V = some ⟨b, o, none⟩ → b ≠ H ∧ b ≠ X
  bnd : ∀ e ∈ rl, 0 ≤ e.1 ∧ e.1 ≤ 18446744073709551615 ∧ e.2 < 18446744073709551616
theorem new_bad (n wd : Int) (w : World) (n0 : -9223372036854775808 ≤ n) (n1 : n ≤ 9223372036854775807) (w0 : 0 ≤ wd) (w1 : wd ≤ 18446744073709551615) (h : ¬(1 ≤ n ∧ n ≤ 8 ∧ 1 ≤ wd ∧ wd ≤ 1099511627776)) :
    Calls Try.prog 16 #[.int .i64 n, .int .u64 wd] w fun e w' => e = .returned (.pointer none) ∧ w = w' := by
  by_cases h1 : n < 1
  · go_enter Try.func16, Try.ntmps16
    go_wp2_with fail
    go_ret
    exact ⟨rfl, rfl⟩
  by_cases h2 : 8 < n
  · go_enter Try.func16, Try.ntmps16
    go_wp2_with fail
    go_ret
    exact ⟨rfl, rfl⟩
  by_cases h3 : wd < 1
  · go_enter Try.func16, Try.ntmps16
    go_wp2_with fail
    go_ret
    exact ⟨rfl, rfl⟩
  have h4 : 1099511627776 < wd := by omega
  clear h
  go_enter Try.func16, Try.ntmps16
  go_wp2_with fail
  go_ret
  exact ⟨rfl, rfl⟩
end Go.Proofs.Ytmemafhdondfhaa.C06
