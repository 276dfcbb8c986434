/- What laws say of hists: states that are carried from call to call; the examples' function of chapter 7 answers true. -/
import Derived.Test.YtmemafhdondfhaaC07C
import Derived.Test.YtmemafhdondfhaaEq
namespace Go.Proofs.Ytmemafhdondfhaa.C06
open Go.RowKit Go.Proofs.Ytmemafhdondfhaa Go.Proofs.Ytmemafhdondfhaa.Win
set_option linter.unusedVariables false
set_option linter.unusedSimpArgs false
set_option linter.unnecessarySimpa false
attribute [local go_sem] C01.max2_mx C01.min2_mn C01.max_two C01.min_two
/-- A hist of the call's own, that holds W. -/
structure Has (base : World) (B : Nat) (W : Win) (w : World) : Prop where
  here : At w B W
  ok : Ok W
  lt : B < w.heap.size
  ge : base.heap.size ≤ B
  below : Below base.heap.size base w
theorem Only.cell {B : Nat} {w w' : World} (h : Only B w w') {C i : Nat} {v : Value} (hc : w.cell? ⟨C, i, none⟩ = some v) (hne : C ≠ B) : w'.cell? ⟨C, i, none⟩ = some v := by
  have hlt := World.block_lt_of_cell? w _ hc
  rw [World.cell?_of_block (w := w) (h.block C hlt hne)]
  exact hc
theorem Only.toBelow {base w w' : World} {B : Nat} (h : Only B w w') (hb : Below base.heap.size base w) (hB : base.heap.size ≤ B) : Below base.heap.size base w' :=
  hb.trans ⟨h.os, h.tape, h.output, h.size, fun k hk => h.block k (by have := hb.size; omega) (by omega)⟩
theorem Has.other {base w w' : World} {B B2 : Nat} {W2 : Win} (h : Has base B2 W2 w) (ho : Only B w w') (hne : B2 ≠ B) (hB : base.heap.size ≤ B) : Has base B2 W2 w' :=
  ⟨h.here.same (ho.block B2 h.lt hne), h.ok, Nat.lt_of_lt_of_le h.lt ho.size, h.ge, ho.toBelow h.below hB⟩
theorem Has.alloc {base w : World} {B : Nat} {W : Win} (h : Has base B W w) (o : Obj) : Has base B W (w.alloc o) :=
  ⟨h.here.same (Below.heap_alloc _ _ _ h.lt), h.ok, by simp; have := h.lt; omega, h.ge, h.below.alloc h.below.size o⟩
theorem Has.far {base w : World} {B C : Nat} {W : Win} (h : Has base B W w) (hC : base.heap.size ≤ C) (hne : B ≠ C) (i : Nat) (v : Value) : Has base B W (w.setCell ⟨C, i, none⟩ v) :=
  ⟨h.here.same (Below.heap_setCell _ _ _ _ hne), h.ok, by simpa [World.setCell] using h.lt, h.ge, h.below.setCell hC v⟩
theorem Has.drewN {base w : World} {B : Nat} {W : Win} (h : Has base B W w) (n : Nat) : Has base B W (w.drewN n) := ⟨h.here, h.ok, h.lt, h.ge, ⟨h.below.os, h.below.tape, h.below.output, h.below.size, h.below.block⟩⟩
theorem Has.drew {base w : World} {B : Nat} {W : Win} (h : Has base B W w) : Has base B W w.drew := h.drewN 1
/-- Behind a call that leaves all that was there as it was. -/
theorem Has.quiet {base w w' : World} {B : Nat} {W : Win} (h : Has base B W w) (hb : Below w.heap.size w w') : Has base B W w' :=
  ⟨h.here.same (hb.block B h.lt), h.ok, Nat.lt_of_lt_of_le h.lt hb.size, h.ge, h.below.trans (hb.mono h.below.size)⟩
theorem ok_fresh {n width : Int} (n1 : 1 ≤ n) (n8 : n ≤ 8) (w1 : 1 ≤ width) (w2 : width ≤ 1099511627776) : Ok (fresh n width) :=
  ⟨n1, n8, w1, w2, by show (0 : Int) ≤ 0; omega, by show (0 : Int) ≤ _; omega, fun j => ⟨by show (0 : Int) ≤ 0; omega, by show (0 : Int) ≤ _; omega⟩, fun j k => ⟨by show (0 : Int) ≤ 0; omega, by show (0 : Int) ≤ _; omega⟩⟩
theorem new_has (base : World) (n width : Int) (w : World) (hb : Below base.heap.size base w) (n1 : 1 ≤ n) (n8 : n ≤ 8) (w1 : 1 ≤ width) (w2 : width ≤ 1099511627776) :
    Calls Try.prog 16 #[.int .i64 n, .int .u64 width] w fun e w' => e = .returned (.pointer (some ⟨w.heap.size, 0, none⟩)) ∧ Has base w.heap.size (fresh n width) w' ∧ Below w.heap.size w w' := by
  refine (new_calls n width w n1 n8 w1 w2).mono ?_
  rintro e w' ⟨he, hat, hbl, hs⟩
  exact ⟨he, ⟨hat, ok_fresh n1 n8 w1 w2, by omega, hb.size, hb.trans (hbl.mono hb.size)⟩, hbl⟩
theorem add_has {base w : World} {B : Nat} {W : Win} (h : Has base B W w) (t : Int) (x : Nat) (t0 : 0 ≤ t) (t1 : t ≤ 18446744073709551615) (hx : x < 18446744073709551616) :
    Calls Try.prog 17 #[.pointer (some ⟨B, 0, none⟩), .int .u64 t, .int .u64 x] w fun e w' => e = .returned (.tuple #[]) ∧ Has base B (W.add t (Bits.blen x) 1) w' ∧ Only B w w' := by
  refine (add_calls B W t x w h.here h.ok t0 t1 hx).mono ?_
  rintro e w' ⟨he, hat, ho⟩
  exact ⟨he, ⟨hat, h.ok.add t0 t1 _ (by omega), Nat.lt_of_lt_of_le h.lt ho.size, h.ge, ho.toBelow h.below h.ge⟩, ho⟩
theorem all_has {base w : World} {B : Nat} {W : Win} (h : Has base B W w) (t : Int) (t0 : 0 ≤ t) (t1 : t ≤ 18446744073709551615) :
    Calls Try.prog 18 #[.pointer (some ⟨B, 0, none⟩), .int .u64 t] w fun e w' => e = .returned (.agg (bl fun k => W.told t k).toArray) ∧ Has base B (W.tick t) w' ∧ Only B w w' := by
  refine (all_calls B W t w h.here h.lt h.ok t0 t1).mono ?_
  rintro e w' ⟨he, hat, ho⟩
  exact ⟨he, ⟨hat, h.ok.tick t0 t1, Nat.lt_of_lt_of_le h.lt ho.size, h.ge, ho.toBelow h.below h.ge⟩, ho⟩
theorem perc_has {base w : World} {B : Nat} {W : Win} (h : Has base B W w) (t p : Int) (t0 : 0 ≤ t) (t1 : t ≤ 18446744073709551615) (p0 : -9223372036854775808 ≤ p) (p1 : p ≤ 9223372036854775807) :
    Calls Try.prog 15 #[.pointer (some ⟨B, 0, none⟩), .int .u64 t, .int .i64 p] w fun e w' => e = .returned (.tuple #[.int .u64 (Hst.percN (W.told t) p), .bool (Hst.percB (W.told t) p)]) ∧ Has base B (W.tick t) w' ∧ Only B w w' := by
  refine (perc_calls B W t p w h.here h.lt h.ok t0 t1 p0 p1).mono ?_
  rintro e w' ⟨he, hat, ho⟩
  exact ⟨he, ⟨hat, h.ok.tick t0 t1, Nat.lt_of_lt_of_le h.lt ho.size, h.ge, ho.toBelow h.below h.ge⟩, ho⟩
theorem wf_u64 {n : Int} (h0 : 0 ≤ n) (h1 : n ≤ 18446744073709551615) : (Lit.int .u64 n).wf = true := WalkArith.wf_u64 (by omega)
theorem idx65 (f : Nat → Int) (k : Nat) (hk : k < 65) (w : World) : (Instr.index 42 (.agg (bl f).toArray) (.int .i64 k)).run Try.prog w = .ok (.int .u64 (f k)) w := by
  have hg := bl_get f k hk
  generalize bl f = L at *
  unfold Instr.index
  simp [go_sem, run_underlying Try.underlying42, hk]
  rw [hg]
  rfl
theorem ret_bool {a b : Bool} (h : a = b) : Ending.returned (.bool a) = .returned (.bool b) := by rw [h]
theorem awA : Hst.percN (((((fresh 2 10).add 1 (Bits.blen 3) 1).add 2 (Bits.blen 3) 1).add 3 (Bits.blen 100) 1).told 3) 50 = 3 := by decide +kernel
theorem awB : Hst.percB (((((fresh 2 10).add 1 (Bits.blen 3) 1).add 2 (Bits.blen 3) 1).add 3 (Bits.blen 100) 1).told 3) 50 = true := by decide +kernel
theorem awC : Hst.percN ((((((fresh 2 10).add 1 (Bits.blen 3) 1).add 2 (Bits.blen 3) 1).add 3 (Bits.blen 100) 1).tick 3).told 3) 100 = 127 := by decide +kernel
theorem awD : Hst.percB ((((((fresh 2 10).add 1 (Bits.blen 3) 1).add 2 (Bits.blen 3) 1).add 3 (Bits.blen 100) 1).tick 3).told 3) 100 = true := by decide +kernel
theorem awE : (((((((fresh 2 10).add 1 (Bits.blen 3) 1).add 2 (Bits.blen 3) 1).add 3 (Bits.blen 100) 1).tick 3).tick 3).told 3) 2 = 2 := by decide +kernel
theorem awF : Bits.blen 100 = 7 := by decide +kernel
theorem awG : Hst.top 7 = 127 := by decide +kernel
set_option maxHeartbeats 1000000 in
theorem awake_calls (w : World) : Calls Try.prog 10 #[] w fun e w' => e = .returned (.bool true) ∧ Below w.heap.size w w' := by
  have hA := awA
  have hB := awB
  have hC := awC
  have hD := awD
  have hE := awE
  generalize hV : (((fresh 2 10).add 1 (Bits.blen 3) 1).add 2 (Bits.blen 3) 1).add 3 (Bits.blen 100) 1 = V at *
  have HV := hid hV
  clear hV
  go_enter Try.func10, Try.ntmps10
  go_wp2_with fail
  refine (new_has w 2 10 w (Below.refl _ _) (by omega) (by omega) (by omega) (by omega)).mono ?_
  rintro e w1 ⟨rfl, h1, _⟩
  have H1 := hid h1
  clear h1
  go_wp2_with fail
  refine (add_has H1.out 1 3 (by omega) (by omega) (by omega)).mono ?_
  rintro e w2 ⟨rfl, h2, _⟩
  have H2 := hid h2
  clear h2
  go_wp2_with fail
  refine (add_has H2.out 2 3 (by omega) (by omega) (by omega)).mono ?_
  rintro e w3 ⟨rfl, h3, _⟩
  have H3 := hid h3
  clear h3
  go_wp2_with fail
  refine (add_has H3.out 3 100 (by omega) (by omega) (by omega)).mono ?_
  rintro e w4 ⟨rfl, h4, _⟩
  rw [HV.out] at h4
  have H4 := hid h4
  clear h4
  go_wp2_with fail
  refine (perc_has H4.out 3 50 (by omega) (by omega) (by omega) (by omega)).mono ?_
  rintro e w5 ⟨rfl, h5, _⟩
  rw [hA, hB]
  have H5 := hid h5
  clear h5
  go_wp2_with fail
  refine (perc_has H5.out 3 100 (by omega) (by omega) (by omega) (by omega)).mono ?_
  rintro e w6 ⟨rfl, h6, _⟩
  rw [hC, hD]
  have H6 := hid h6
  clear h6
  go_wp2_with fail
  refine (bin_calls 100 (by omega) _).mono ?_
  rintro e w' ⟨rfl, rfl⟩
  rw [awF]
  go_wp2_with fail
  refine (top_calls 7 7 (by decide) (by omega) (by omega) (by omega) _).mono ?_
  rintro e w' ⟨rfl, rfl⟩
  rw [awG]
  go_wp2_with fail
  refine (all_has H6.out 3 (by omega) (by omega)).mono ?_
  rintro e w7 ⟨rfl, h7, _⟩
  have H7 := hid h7
  clear h7
  obtain ⟨LA, hLA⟩ : ∃ Z : Array Value, Hid (Z = (bl fun k => ((V.tick 3).tick 3).told 3 k).toArray) := ⟨_, hid rfl⟩
  have hi : ∀ w, (Instr.index 42 (.agg LA) (.int .i64 2)).run Try.prog w = .ok (.int .u64 2) w := by
    intro w
    have := idx65 (fun k => ((V.tick 3).tick 3).told 3 k) 2 (by omega) w
    rw [hE] at this
    rw [hLA.out]
    exact this
  rw [← hLA.out]
  go_wp2_with fail
  go_ret
  exact ⟨rfl, H7.out.below⟩
end Go.Proofs.Ytmemafhdondfhaa.C06
