/- Windows as states that are carried from call to call. -/
import Derived.Test.YtiplgihdgckbaaaC06B
import Derived.Test.YtiplgihdgckbaaaWinLaw
namespace Go.Proofs.Ytiplgihdgckbaaa.C06
open Go.RowKit Go.Proofs.Ytiplgihdgckbaaa Go.Proofs.Ytiplgihdgckbaaa.Win
set_option linter.unusedVariables false
set_option linter.unusedSimpArgs false
set_option linter.unnecessarySimpa false
attribute [local go_sem] C01.max2_mx C01.min2_mn C01.max_two C01.min_two
/-- A window of the call's own, that holds W. -/
structure Has (base : World) (B : Nat) (W : Win) (w : World) : Prop where
  here : At w B W
  ok : Ok W
  lt : B < w.heap.size
  ge : base.heap.size ≤ B
  below : Below base.heap.size base w
theorem Only.cell {B : Nat} {w w' : World} (h : Only B w w') {C i : Nat} {v : Value} (hc : w.cell? ⟨C, i, none⟩ = some v) (hne : C ≠ B) : w'.cell? ⟨C, i, none⟩ = some v := by
  have hlt := World.block_lt_of_cell? w _ hc
  rw [World.cell?_of_block (w := w) (h.block C hlt hne)]
  exact hc
theorem Only.toBelow {base w w' : World} {B : Nat} (h : Only B w w') (hb : Below base.heap.size base w) (hB : base.heap.size ≤ B) : Below base.heap.size base w' :=
  hb.trans ⟨h.os, h.tape, h.output, h.size, fun k hk => h.block k (by have := hb.size; omega) (by omega)⟩
theorem Has.other {base w w' : World} {B B2 : Nat} {W2 : Win} (h : Has base B2 W2 w) (ho : Only B w w') (hne : B2 ≠ B) (hB : base.heap.size ≤ B) : Has base B2 W2 w' :=
  ⟨h.here.same (ho.block B2 h.lt hne), h.ok, Nat.lt_of_lt_of_le h.lt ho.size, h.ge, ho.toBelow h.below hB⟩
theorem Has.alloc {base w : World} {B : Nat} {W : Win} (h : Has base B W w) (o : Obj) : Has base B W (w.alloc o) :=
  ⟨h.here.same (Below.heap_alloc _ _ _ h.lt), h.ok, by simp; have := h.lt; omega, h.ge, h.below.alloc h.below.size o⟩
theorem Has.far {base w : World} {B C : Nat} {W : Win} (h : Has base B W w) (hC : base.heap.size ≤ C) (hne : B ≠ C) (i : Nat) (v : Value) : Has base B W (w.setCell ⟨C, i, none⟩ v) :=
  ⟨h.here.same (Below.heap_setCell _ _ _ _ hne), h.ok, by simpa [World.setCell] using h.lt, h.ge, h.below.setCell hC v⟩
theorem Has.drewN {base w : World} {B : Nat} {W : Win} (h : Has base B W w) (n : Nat) : Has base B W (w.drewN n) := ⟨h.here, h.ok, h.lt, h.ge, ⟨h.below.os, h.below.tape, h.below.output, h.below.size, h.below.block⟩⟩
theorem Has.drew {base w : World} {B : Nat} {W : Win} (h : Has base B W w) : Has base B W w.drew := h.drewN 1
/-- Behind a call that leaves all that was there as it was. -/
theorem Has.quiet {base w w' : World} {B : Nat} {W : Win} (h : Has base B W w) (hb : Below w.heap.size w w') : Has base B W w' :=
  ⟨h.here.same (hb.block B h.lt), h.ok, Nat.lt_of_lt_of_le h.lt hb.size, h.ge, h.below.trans (hb.mono h.below.size)⟩
theorem ok_fresh {n width : Int} (n1 : 1 ≤ n) (n8 : n ≤ 8) (w1 : 1 ≤ width) (w2 : width ≤ 1099511627776) : Ok (fresh n width) :=
  ⟨n1, n8, w1, w2, by show (0 : Int) ≤ 0; omega, by show (0 : Int) ≤ _; omega, fun j => ⟨by show (0 : Int) ≤ 0; omega, by show (0 : Int) ≤ _; omega⟩, fun j k => ⟨by show (0 : Int) ≤ 0; omega, by show (0 : Int) ≤ _; omega⟩⟩
theorem new_has (base : World) (n width : Int) (w : World) (hb : Below base.heap.size base w) (n1 : 1 ≤ n) (n8 : n ≤ 8) (w1 : 1 ≤ width) (w2 : width ≤ 1099511627776) :
    Calls Try.prog 22 #[.int .i64 n, .int .u64 width] w fun e w' => e = .returned (.pointer (some ⟨w.heap.size, 0, none⟩)) ∧ Has base w.heap.size (fresh n width) w' ∧ Below w.heap.size w w' ∧ w'.heap.size = w.heap.size + 1 := by
  refine (new_calls n width w n1 n8 w1 w2).mono ?_
  rintro e w' ⟨he, hat, hbl, hs⟩
  exact ⟨he, ⟨hat, ok_fresh n1 n8 w1 w2, by omega, hb.size, hb.trans (hbl.mono hb.size)⟩, hbl, hs⟩
theorem add_has {base w : World} {B : Nat} {W : Win} (h : Has base B W w) (t v : Int) (k : Nat) (t0 : 0 ≤ t) (t1 : t ≤ 18446744073709551615) (hk : k < 5) (v0 : 0 ≤ v) (v1 : v ≤ 18446744073709551615) :
    Calls Try.prog 23 #[.pointer (some ⟨B, 0, none⟩), .int .u64 t, .int .i64 k, .int .u64 v] w fun e w' => e = .returned (.bool true) ∧ Has base B (W.add t k v) w' ∧ Only B w w' := by
  refine (add_calls B W t v k w h.here h.ok t0 t1 hk v0 v1).mono ?_
  rintro e w' ⟨he, hat, ho⟩
  exact ⟨he, ⟨hat, h.ok.add t0 t1 k v0, Nat.lt_of_lt_of_le h.lt ho.size, h.ge, ho.toBelow h.below h.ge⟩, ho⟩
/-- The five counts, as a value. -/
def toldV (W : Win) (t : Int) : Array Value := #[.int .u64 (W.told t 0), .int .u64 (W.told t 1), .int .u64 (W.told t 2), .int .u64 (W.told t 3), .int .u64 (W.told t 4)]
theorem counts_has {base w : World} {B : Nat} {W : Win} (h : Has base B W w) (t : Int) (t0 : 0 ≤ t) (t1 : t ≤ 18446744073709551615) :
    Calls Try.prog 24 #[.pointer (some ⟨B, 0, none⟩), .int .u64 t] w fun e w' => e = .returned (.agg #[.int .u64 (W.told t 0), .int .u64 (W.told t 1), .int .u64 (W.told t 2), .int .u64 (W.told t 3), .int .u64 (W.told t 4)]) ∧ Has base B (W.tick t) w' ∧ Only B w w' := by
  refine (counts_calls B W t w h.here h.lt h.ok t0 t1).mono ?_
  rintro e w' ⟨he, hat, ho⟩
  exact ⟨he, ⟨hat, h.ok.tick t0 t1, Nat.lt_of_lt_of_le h.lt ho.size, h.ge, ho.toBelow h.below h.ge⟩, ho⟩
theorem told_in {W : Win} (h : Ok W) {t : Int} (t0 : 0 ≤ t) (t1 : t ≤ 18446744073709551615) (k : Nat) : 0 ≤ W.told t k ∧ W.told t k ≤ 18446744073709551615 := sumTo_in (h.tick t0 t1) _ _ _
theorem holds_fresh {n width : Int} (n1 : 1 ≤ n) (n8 : n ≤ 8) (w1 : 1 ≤ width) (w2 : width ≤ 1099511627776) : Holds (fresh n width) [] := by
  refine ⟨ok_fresh n1 n8 w1 w2, fun j => ?_, fun j hj => .inl rfl, fun e he => absurd he (List.not_mem_nil), fun j hj k => ?_⟩
  · show (0 : Int) ≤ 0 / width; simp
  · rw [tot_nil, cap_zero]; split <;> rfl
theorem cap_id {n : Int} (h : n ≤ 18446744073709551615) : Sat.cap n = n := by unfold Sat.cap; split <;> omega
end Go.Proofs.Ytiplgihdgckbaaa.C06
