/- What laws say of windows: states that are carried from call to call; the examples' function of chapter 6 answers true. -/
import Derived.Test.YtaepffcnhieckaaC06R
import Derived.Test.YtaepffcnhieckaaWinLaw
import Derived.Test.YtaepffcnhieckaaEq
import Derived.Deep.RegionWith
namespace Go.Proofs.Ytaepffcnhieckaa.C06
open Go.RowKit Go.Proofs.Ytaepffcnhieckaa Go.Proofs.Ytaepffcnhieckaa.Win
set_option linter.unusedVariables false
set_option linter.unusedSimpArgs false
set_option linter.unnecessarySimpa false
attribute [local go_sem] C01.max2_mx C01.min2_mn C01.max_two C01.min_two
/-- A window of the call's own, that holds W. -/
structure Has (base : World) (B : Nat) (W : Win) (w : World) : Prop where
  here : At w B W
  ok : Ok W
  lt : B < w.heap.size
  ge : base.heap.size ≤ B
  below : Below base.heap.size base w
theorem Only.cell {B : Nat} {w w' : World} (h : Only B w w') {C i : Nat} {v : Value} (hc : w.cell? ⟨C, i, none⟩ = some v) (hne : C ≠ B) : w'.cell? ⟨C, i, none⟩ = some v := by
  have hlt := World.block_lt_of_cell? w _ hc
  rw [World.cell?_of_block (w := w) (h.block C hlt hne)]
  exact hc
theorem Only.toBelow {base w w' : World} {B : Nat} (h : Only B w w') (hb : Below base.heap.size base w) (hB : base.heap.size ≤ B) : Below base.heap.size base w' :=
  hb.trans ⟨h.os, h.tape, h.output, h.size, fun k hk => h.block k (by have := hb.size; omega) (by omega)⟩
theorem Has.other {base w w' : World} {B B2 : Nat} {W2 : Win} (h : Has base B2 W2 w) (ho : Only B w w') (hne : B2 ≠ B) (hB : base.heap.size ≤ B) : Has base B2 W2 w' :=
  ⟨h.here.same (ho.block B2 h.lt hne), h.ok, Nat.lt_of_lt_of_le h.lt ho.size, h.ge, ho.toBelow h.below hB⟩
theorem Has.alloc {base w : World} {B : Nat} {W : Win} (h : Has base B W w) (o : Obj) : Has base B W (w.alloc o) :=
  ⟨h.here.same (Below.heap_alloc _ _ _ h.lt), h.ok, by simp; have := h.lt; omega, h.ge, h.below.alloc h.below.size o⟩
theorem Has.far {base w : World} {B C : Nat} {W : Win} (h : Has base B W w) (hC : base.heap.size ≤ C) (hne : B ≠ C) (i : Nat) (v : Value) : Has base B W (w.setCell ⟨C, i, none⟩ v) :=
  ⟨h.here.same (Below.heap_setCell _ _ _ _ hne), h.ok, by simpa [World.setCell] using h.lt, h.ge, h.below.setCell hC v⟩
theorem Has.drewN {base w : World} {B : Nat} {W : Win} (h : Has base B W w) (n : Nat) : Has base B W (w.drewN n) := ⟨h.here, h.ok, h.lt, h.ge, ⟨h.below.os, h.below.tape, h.below.output, h.below.size, h.below.block⟩⟩
theorem Has.drew {base w : World} {B : Nat} {W : Win} (h : Has base B W w) : Has base B W w.drew := h.drewN 1
/-- Behind a call that leaves all that was there as it was. -/
theorem Has.quiet {base w w' : World} {B : Nat} {W : Win} (h : Has base B W w) (hb : Below w.heap.size w w') : Has base B W w' :=
  ⟨h.here.same (hb.block B h.lt), h.ok, Nat.lt_of_lt_of_le h.lt hb.size, h.ge, h.below.trans (hb.mono h.below.size)⟩
theorem ok_fresh {n width : Int} (n1 : 1 ≤ n) (n8 : n ≤ 8) (w1 : 1 ≤ width) (w2 : width ≤ 1099511627776) : Ok (fresh n width) :=
  ⟨n1, n8, w1, w2, by show (0 : Int) ≤ 0; omega, by show (0 : Int) ≤ _; omega, fun j => ⟨by show (0 : Int) ≤ 0; omega, by show (0 : Int) ≤ _; omega⟩, fun j k => ⟨by show (0 : Int) ≤ 0; omega, by show (0 : Int) ≤ _; omega⟩⟩
theorem new_has (base : World) (n width : Int) (w : World) (hb : Below base.heap.size base w) (n1 : 1 ≤ n) (n8 : n ≤ 8) (w1 : 1 ≤ width) (w2 : width ≤ 1099511627776) :
    Calls Try.prog 9 #[.int .i64 n, .int .u64 width] w fun e w' => e = .returned (.pointer (some ⟨w.heap.size, 0, none⟩)) ∧ Has base w.heap.size (fresh n width) w' ∧ Below w.heap.size w w' ∧ w'.heap.size = w.heap.size + 1 := by
  refine (new_calls n width w n1 n8 w1 w2).mono ?_
  rintro e w' ⟨he, hat, hbl, hs⟩
  exact ⟨he, ⟨hat, ok_fresh n1 n8 w1 w2, by omega, hb.size, hb.trans (hbl.mono hb.size)⟩, hbl, hs⟩
theorem add_has {base w : World} {B : Nat} {W : Win} (h : Has base B W w) (t v : Int) (k : Nat) (t0 : 0 ≤ t) (t1 : t ≤ 18446744073709551615) (hk : k < 5) (v0 : 0 ≤ v) (v1 : v ≤ 18446744073709551615) :
    Calls Try.prog 10 #[.pointer (some ⟨B, 0, none⟩), .int .u64 t, .int .i64 k, .int .u64 v] w fun e w' => e = .returned (.bool true) ∧ Has base B (W.add t k v) w' ∧ Only B w w' := by
  refine (add_calls B W t v k w h.here h.ok t0 t1 hk v0 v1).mono ?_
  rintro e w' ⟨he, hat, ho⟩
  exact ⟨he, ⟨hat, h.ok.add t0 t1 k v0, Nat.lt_of_lt_of_le h.lt ho.size, h.ge, ho.toBelow h.below h.ge⟩, ho⟩
/-- The five counts, as a value. -/
def toldV (W : Win) (t : Int) : Array Value := #[.int .u64 (W.told t 0), .int .u64 (W.told t 1), .int .u64 (W.told t 2), .int .u64 (W.told t 3), .int .u64 (W.told t 4)]
theorem counts_has {base w : World} {B : Nat} {W : Win} (h : Has base B W w) (t : Int) (t0 : 0 ≤ t) (t1 : t ≤ 18446744073709551615) :
    Calls Try.prog 11 #[.pointer (some ⟨B, 0, none⟩), .int .u64 t] w fun e w' => e = .returned (.agg #[.int .u64 (W.told t 0), .int .u64 (W.told t 1), .int .u64 (W.told t 2), .int .u64 (W.told t 3), .int .u64 (W.told t 4)]) ∧ Has base B (W.tick t) w' ∧ Only B w w' := by
  refine (counts_calls B W t w h.here h.lt h.ok t0 t1).mono ?_
  rintro e w' ⟨he, hat, ho⟩
  exact ⟨he, ⟨hat, h.ok.tick t0 t1, Nat.lt_of_lt_of_le h.lt ho.size, h.ge, ho.toBelow h.below h.ge⟩, ho⟩
theorem told_in {W : Win} (h : Ok W) {t : Int} (t0 : 0 ≤ t) (t1 : t ≤ 18446744073709551615) (k : Nat) : 0 ≤ W.told t k ∧ W.told t k ≤ 18446744073709551615 := sumTo_in (h.tick t0 t1) _ _ _
theorem wf_u64 {n : Int} (h0 : 0 ≤ n) (h1 : n ≤ 18446744073709551615) : (Lit.int .u64 n).wf = true := WalkArith.wf_u64 (by omega)
/-- Two arrays of five are compared. -/
theorem eq5 {a0 a1 a2 a3 a4 b0 b1 b2 b3 b4 : Int} (ha : (0 ≤ a0 ∧ a0 ≤ 18446744073709551615) ∧ (0 ≤ a1 ∧ a1 ≤ 18446744073709551615) ∧ (0 ≤ a2 ∧ a2 ≤ 18446744073709551615) ∧ (0 ≤ a3 ∧ a3 ≤ 18446744073709551615) ∧ (0 ≤ a4 ∧ a4 ≤ 18446744073709551615))
    (hb : (0 ≤ b0 ∧ b0 ≤ 18446744073709551615) ∧ (0 ≤ b1 ∧ b1 ≤ 18446744073709551615) ∧ (0 ≤ b2 ∧ b2 ≤ 18446744073709551615) ∧ (0 ≤ b3 ∧ b3 ≤ 18446744073709551615) ∧ (0 ≤ b4 ∧ b4 ≤ 18446744073709551615)) (r : Bool)
    (hr : r = true ↔ a0 = b0 ∧ a1 = b1 ∧ a2 = b2 ∧ a3 = b3 ∧ a4 = b4) (w : World) :
    Sem.run Try.prog (Op.equalIn 10000 30 (.agg #[.int .u64 a0, .int .u64 a1, .int .u64 a2, .int .u64 a3, .int .u64 a4]) (.agg #[.int .u64 b0, .int .u64 b1, .int .u64 b2, .int .u64 b3, .int .u64 b4])) w = .ok r w := by
  have hl : ∀ {a0 a1 a2 a3 a4 : Int}, (0 ≤ a0 ∧ a0 ≤ 18446744073709551615) ∧ (0 ≤ a1 ∧ a1 ≤ 18446744073709551615) ∧ (0 ≤ a2 ∧ a2 ≤ 18446744073709551615) ∧ (0 ≤ a3 ∧ a3 ≤ 18446744073709551615) ∧ (0 ≤ a4 ∧ a4 ≤ 18446744073709551615) →
      Opn.LitOk [.int .u64, .int .u64, .int .u64, .int .u64, .int .u64] (#[Value.int .u64 a0, .int .u64 a1, .int .u64 a2, .int .u64 a3, .int .u64 a4]).toList [.int .u64 a0, .int .u64 a1, .int .u64 a2, .int .u64 a3, .int .u64 a4] := by
    rintro a0 a1 a2 a3 a4 ⟨h0, h1, h2, h3, h4⟩
    exact ⟨_, _, _, _, rfl, rfl, ⟨_, rfl, rfl, wf_u64 h0.1 h0.2⟩, _, _, _, _, rfl, rfl, ⟨_, rfl, rfl, wf_u64 h1.1 h1.2⟩, _, _, _, _, rfl, rfl, ⟨_, rfl, rfl, wf_u64 h2.1 h2.2⟩, _, _, _, _, rfl, rfl, ⟨_, rfl, rfl, wf_u64 h3.1 h3.2⟩, _, _, _, _, rfl, rfl, ⟨_, rfl, rfl, wf_u64 h4.1 h4.2⟩, rfl, rfl⟩
  exact Opn.eq_run (ls := [.int .u64, .int .u64, .int .u64, .int .u64, .int .u64]) 9997 3 10000 (by rfl) (by kernel_rfl) (by kernel_rfl) (by kernel_rfl) (by kernel_rfl) (hl ha) (hl hb) r (by rw [hr]; simp) w
theorem awake19 : (((fresh 2 10).add 5 0 3).add 12 2 1).told 19 0 = 3 ∧ (((fresh 2 10).add 5 0 3).add 12 2 1).told 19 1 = 0 ∧ (((fresh 2 10).add 5 0 3).add 12 2 1).told 19 2 = 1 ∧ (((fresh 2 10).add 5 0 3).add 12 2 1).told 19 3 = 0 ∧ (((fresh 2 10).add 5 0 3).add 12 2 1).told 19 4 = 0 := by decide +kernel
theorem awake20 : ((((fresh 2 10).add 5 0 3).add 12 2 1).tick 19).told 20 0 = 0 ∧ ((((fresh 2 10).add 5 0 3).add 12 2 1).tick 19).told 20 1 = 0 ∧ ((((fresh 2 10).add 5 0 3).add 12 2 1).tick 19).told 20 2 = 1 ∧ ((((fresh 2 10).add 5 0 3).add 12 2 1).tick 19).told 20 3 = 0 ∧ ((((fresh 2 10).add 5 0 3).add 12 2 1).tick 19).told 20 4 = 0 := by decide +kernel
set_option maxHeartbeats 1000000 in
theorem awake_calls (w : World) : Calls Try.prog 8 #[] w fun e w' => e = .returned (.bool true) ∧ Below w.heap.size w w' := by
  go_enter Try.func8, Try.ntmps8
  go_wp2_with fail
  refine (new_has w 2 10 w (Below.refl _ _) (by omega) (by omega) (by omega) (by omega)).mono ?_
  rintro e w1 ⟨rfl, h1, _, z1⟩
  have H1 := hid h1
  clear h1 z1
  go_wp2_with fail
  refine (add_has H1.out 5 3 0 (by omega) (by omega) (by omega) (by omega) (by omega)).mono ?_
  rintro e w2 ⟨rfl, h2, _⟩
  have H2 := hid h2
  clear h2
  go_wp2_with fail
  refine (add_has H2.out 12 1 2 (by omega) (by omega) (by omega) (by omega) (by omega)).mono ?_
  rintro e w3 ⟨rfl, h3, _⟩
  have H3 := hid h3
  clear h3
  go_wp2_with fail
  refine (counts_has H3.out 19 (by omega) (by omega)).mono ?_
  rintro e w4 ⟨rfl, h4, _⟩
  have H4 := hid h4
  have H4a := hid (h4.alloc)
  have hlt := h4.lt
  clear h4
  obtain ⟨f0, f1, f2, f3, f4⟩ := awake19
  rw [f0, f1, f2, f3, f4]
  go_wp2_with fail
  refine (counts_has (H4a.out _) 20 (by omega) (by omega)).mono ?_
  rintro e w5 ⟨rfl, h5, o5⟩
  obtain ⟨g0, g1, g2, g3, g4⟩ := awake20
  rw [g0, g1, g2, g3, g4]
  have c0 := o5.cell (C := w4.heap.size) (i := 0) (v := .int .u64 3) (by simp [go_sem]) (by omega)
  have c1 := o5.cell (C := w4.heap.size) (i := 1) (v := .int .u64 0) (by simp [go_sem]) (by omega)
  have c2 := o5.cell (C := w4.heap.size) (i := 2) (v := .int .u64 1) (by simp [go_sem]) (by omega)
  have c3 := o5.cell (C := w4.heap.size) (i := 3) (v := .int .u64 0) (by simp [go_sem]) (by omega)
  have c4 := o5.cell (C := w4.heap.size) (i := 4) (v := .int .u64 0) (by simp [go_sem]) (by omega)
  have hlt5 : w4.heap.size < w5.heap.size := by have := o5.size; simp at this; omega
  have H5 := hid h5
  have eqa := eq5 (a0 := 3) (a1 := 0) (a2 := 1) (a3 := 0) (a4 := 0) (b0 := 3) (b1 := 0) (b2 := 1) (b3 := 0) (b4 := 0) (by omega) (by omega) true (by simp)
  have eqb := eq5 (a0 := 0) (a1 := 0) (a2 := 1) (a3 := 0) (a4 := 0) (b0 := 0) (b1 := 0) (b2 := 1) (b3 := 0) (b4 := 0) (by omega) (by omega) true (by simp)
  clear h5 o5 f0 f1 f2 f3 f4 g0 g1 g2 g3 g4
  go_wp2_with fail
  refine (add_none _ 20 1 5 _ (by omega) (by omega) (by omega)).mono ?_
  rintro e w' ⟨rfl, rfl⟩
  go_wp2_with fail
  go_ret
  exact ⟨rfl, H5.out.below.alloc H5.out.below.size _⟩
end Go.Proofs.Ytaepffcnhieckaa.C06
