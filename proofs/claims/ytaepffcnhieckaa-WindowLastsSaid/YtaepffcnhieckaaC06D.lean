/- Deeds: a slice of them, read off an argument; a later time; a count of whatever kind. -/
import Derived.Test.YtaepffcnhieckaaC06N
import Derived.Test.YtaepffcnhieckaaR01
import Derived.Test.YtaepffcnhieckaaOpen
namespace Go.Proofs.Ytaepffcnhieckaa.C06
open Go.RowKit Go.Proofs.Ytaepffcnhieckaa Go.Proofs.Ytaepffcnhieckaa.Win
set_option linter.unusedVariables false
set_option linter.unusedSimpArgs false
set_option linter.unnecessarySimpa false
attribute [local go_sem] C01.max2_mx C01.min2_mn C01.max_two C01.min_two
structure Dd where
  d : Int
  k : Int
  t : Int
  n : Int
def Dd.ok (x : Dd) : Prop := (-9223372036854775808 ≤ x.d ∧ x.d ≤ 9223372036854775807) ∧ (-9223372036854775808 ≤ x.k ∧ x.k ≤ 9223372036854775807) ∧ (0 ≤ x.t ∧ x.t ≤ 18446744073709551615) ∧ (0 ≤ x.n ∧ x.n ≤ 18446744073709551615)
def Dd.cells (x : Dd) : List Value := [.int .i64 x.d, .int .i64 x.k, .int .u64 x.t, .int .u64 x.n]
/-- The deeds lie there. -/
def DeedsAt (w : World) (A : Option Addr) (l : List Dd) : Prop := l = [] ∨ ∃ b o, A = some ⟨b, o, none⟩ ∧ ∀ (i : Nat) (x : Dd), l[i]? = some x → w.cell? ⟨b, o + i * 4, none⟩ = some (.int .i64 x.d) ∧ w.cell? ⟨b, o + i * 4 + 1, none⟩ = some (.int .i64 x.k) ∧ w.cell? ⟨b, o + i * 4 + 2, none⟩ = some (.int .u64 x.t) ∧ w.cell? ⟨b, o + i * 4 + 3, none⟩ = some (.int .u64 x.n)
theorem below_cell {w w' : World} {B C i : Nat} {v : Value} (hb : Below B w w') (hC : C < B) (hc : w.cell? ⟨C, i, none⟩ = some v) : w'.cell? ⟨C, i, none⟩ = some v := by
  rw [World.cell?_of_block (w := w) (hb.block C hC)]; exact hc
theorem deedsAt_of_slc {H : Type} {enc : TypeId × Value → H} {P : Program} {w : World} {e : TypeId} {a : Option Addr} {l c : Nat} (he : Opn.leaves P 3 e = some [.int .i64, .int .i64, .int .u64, .int .u64]) (hc : P.cellsOf e = 4) (h : (Opn.Lf.slc e).ok enc P w 0 (fun _ => true) true (.slice a l c)) :
    ∃ ds : List Dd, ds.length = l ∧ (∀ x ∈ ds, x.ok) ∧ DeedsAt w a ds := by
  obtain ⟨a', l', c', hv, _, vs, hlen, hok, hcell⟩ := Opn.slc_cells 3 he (by rw [hc]; rfl) h
  injection hv with h1 h2 h3
  subst h1 h2 h3
  obtain ⟨ds, rfl, hz⟩ := Opn.list_of Dd.cells Dd.ok vs (fun x hx => by
    obtain ⟨_, _, rfl, ⟨n0, rfl, w0⟩, _, _, rfl, ⟨n1, rfl, w1⟩, _, _, rfl, ⟨n2, rfl, w2⟩, _, _, rfl, ⟨n3, rfl, w3⟩, rfl⟩ := hok x hx
    exact ⟨⟨n0, n1, n2, n3⟩, rfl, Sat.wf_i64 w0, Sat.wf_i64 w1, ⟨(Sat.wf_u64 w2).1, by have := (Sat.wf_u64 w2).2; show n2 ≤ _; omega⟩, ⟨(Sat.wf_u64 w3).1, by have := (Sat.wf_u64 w3).2; show n3 ≤ _; omega⟩⟩)
  refine ⟨ds, by simpa using hlen, hz, ?_⟩
  by_cases hne : ds = []
  · exact .inl hne
  · right
    rcases hcell with h0 | ⟨ad, rfl, hcell⟩
    · exfalso
      apply hne
      exact List.eq_nil_of_length_eq_zero (by simpa [h0] using hlen)
    · obtain ⟨b, o, rfl, hat⟩ := Opn.slc_at (sz := 4) (by intro x hx; obtain ⟨d, _, rfl⟩ := List.mem_map.1 hx; rfl) (by omega) (by simpa using hne) hcell
      refine ⟨b, o, rfl, fun i x hi => ?_⟩
      have h0 := hat i 0 x.cells (.int .i64 x.d) (by simp [hi]) rfl
      have h1 := hat i 1 x.cells (.int .i64 x.k) (by simp [hi]) rfl
      have h2 := hat i 2 x.cells (.int .u64 x.t) (by simp [hi]) rfl
      have h3 := hat i 3 x.cells (.int .u64 x.n) (by simp [hi]) rfl
      simp only [Nat.add_zero] at h0
      exact ⟨h0, h1, h2, h3⟩
theorem DeedsAt.below {w w' : World} {A : Option Addr} {l : List Dd} (h : DeedsAt w A l) (hb : Below w.heap.size w w') : DeedsAt w' A l := by
  rcases h with h | ⟨b, o, rfl, h⟩
  · exact .inl h
  · refine .inr ⟨b, o, rfl, fun i x hi => ?_⟩
    obtain ⟨h0, h1, h2, h3⟩ := h i x hi
    have hlt := World.block_lt_of_cell? w _ h0
    exact ⟨below_cell hb hlt h0, below_cell hb hlt h1, below_cell hb hlt h2, below_cell hb hlt h3⟩
theorem later_calls (a b : Int) (a0 : 0 ≤ a) (a1 : a ≤ 18446744073709551615) (b0 : 0 ≤ b) (b1 : b ≤ 18446744073709551615) (w : World) :
    Calls Try.prog 12 #[.int .u64 a, .int .u64 b] w fun e w' => e = .returned (.int .u64 (Sat.add a b)) ∧ w = w' := by
  have H := hid fun w => C01.radd_calls a b a0 (by omega) b0 (by omega) w
  go_enter Try.func12, Try.ntmps12
  go_wp2_with fail
  refine (H.out _).mono ?_
  rintro e w' ⟨rfl, rfl⟩
  go_wp2_with fail
  go_ret
  exact ⟨rfl, rfl⟩
/-- A count of whatever kind. -/
def addI (W : Win) (t k v : Int) : Win := if 0 ≤ k ∧ k < 5 then W.add t k.toNat v else W
theorem add_any {base w : World} {B : Nat} {W : Win} (h : Has base B W w) (t v k : Int) (t0 : 0 ≤ t) (t1 : t ≤ 18446744073709551615) (k0 : -9223372036854775808 ≤ k) (k1 : k ≤ 9223372036854775807) (v0 : 0 ≤ v) (v1 : v ≤ 18446744073709551615) :
    Calls Try.prog 10 #[.pointer (some ⟨B, 0, none⟩), .int .u64 t, .int .i64 k, .int .u64 v] w fun e w' => e = .returned (.bool (decide (0 ≤ k ∧ k < 5))) ∧ Has base B (addI W t k v) w' ∧ Only B w w' := by
  by_cases hk : 0 ≤ k ∧ k < 5
  · obtain ⟨j, rfl⟩ := Int.eq_ofNat_of_zero_le hk.1
    refine (add_has h t v j t0 t1 (by omega) v0 v1).mono ?_
    rintro e w' ⟨rfl, h1, h2⟩
    refine ⟨by rw [decide_eq_true hk], ?_, h2⟩
    unfold addI
    rw [if_pos hk]
    exact h1
  · refine (add_none B t v k w (by omega) k0 k1).mono ?_
    rintro e w' ⟨rfl, rfl⟩
    refine ⟨by rw [decide_eq_false hk], ?_, Only.refl _ _⟩
    unfold addI
    rw [if_neg hk]
    exact h
end Go.Proofs.Ytaepffcnhieckaa.C06
