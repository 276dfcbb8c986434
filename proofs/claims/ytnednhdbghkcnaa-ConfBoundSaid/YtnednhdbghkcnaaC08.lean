/- What the functions of the package conf return, whatever configuration they are handed. -/
import Derived.Test.YtnednhdbghkcnaaC01
import Derived.Test.YtnednhdbghkcnaaEq
import Derived.Deep.RegionHeld3
import Derived.ChangeAlike
import Derived.Deep.QuietTactic
import Derived.BigQuiet
namespace Go.Proofs.Ytnednhdbghkcnaa.C08
open Go.RowKit Go.Proofs.Ytnednhdbghkcnaa
set_option linter.unusedVariables false
set_option linter.unusedSimpArgs false
set_option linter.unnecessarySimpa false
attribute [local go_sem] C01.max2_mx C01.min2_mn C01.max_two C01.min_two
theorem hid {p : Prop} (h : p) : Hid p := h
theorem ret_int {k : IntKind} {a b : Int} (h : a = b) : Ending.returned (.int k a) = .returned (.int k b) := by rw [h]
theorem ret_bool {a b : Bool} (h : a = b) : Ending.returned (.bool a) = .returned (.bool b) := by rw [h]
theorem via {W w w' : World} (hb : Below W.heap.size W w) (hl : Below w.heap.size w w') : Below W.heap.size W w' := hb.trans (hl.mono hb.size)
theorem cell_of {w w' : World} (h : Below w.heap.size w w') {p : Addr} {v : Value} (hc : w.cell? p = some v) : w'.cell? p = some v := (h.cell (World.block_lt_of_cell? w p hc)).trans hc
theorem quiet (w : World) : Below w.heap.size w w.drew := (Below.refl _ _).drew
theorem quietN {B : Nat} {a w : World} (h : Below B a w) (n : Nat) : Below B a (w.drewN n) := ⟨h.os, h.tape, h.output, h.size, h.block⟩
theorem there_of {w w' : World} (h : Below w.heap.size w w') {b o n : Nat} (hb : b < w.heap.size) (ht : w.there b o n) : w'.there b o n := by
  intro j hj
  have := ht j hj
  rw [h.cell (p := ⟨b, o + j, none⟩) hb, h.frozen (p := ⟨b, o + j, none⟩) hb]
  exact this
/-- A number of 64 bits. -/
abbrev U (n : Int) : Prop := 0 ≤ n ∧ n ≤ 18446744073709551615
abbrev I (n : Int) : Prop := -9223372036854775808 ≤ n ∧ n ≤ 9223372036854775807
/-- A number, if something is so, else 0. -/
def sel (b : Bool) (x : Int) : Int := if b then x else 0
theorem when_calls (is : Bool) (l u : Int) (w : World) : Calls Try.prog 27 #[.bool is, .int .i64 l, .int .i64 u] w fun e w' => e = .returned (.agg #[.int .i64 (sel is l), .int .i64 (sel is u)]) ∧ Below w.heap.size w w' := by
  cases is
  · go_enter Try.func27, Try.ntmps27
    go_wp2_with fail
    refine bodyPost_ret (v := .agg #[.int .i64 0, .int .i64 0]) (by simp [results, Try.results27, go_sem]) rfl ⟨rfl, ?_⟩
    repeat (first | exact Below.refl _ _ | refine Below.setCell ?_ (Nat.le_refl _) _ | refine Below.alloc ?_ (by simp) _)
  · go_enter Try.func27, Try.ntmps27
    go_wp2_with fail
    refine bodyPost_ret (v := .agg #[.int .i64 l, .int .i64 u]) (by simp [results, Try.results27, go_sem]) rfl ⟨rfl, ?_⟩
    repeat (first | exact Below.refl _ _ | refine Below.setCell ?_ (Nat.le_refl _) _ | refine Below.alloc ?_ (by simp) _)
theorem there_new (w : World) (cs : Array Value) (t : TypeId) (n : Nat) (hn : n ≤ cs.size) : (w.alloc (.cells cs t (0, 0))).there w.heap.size 0 n := by
  intro j hj
  have hh : (w.alloc (.cells cs t (0, 0))).heap[w.heap.size]? = some (.cells cs t (0, 0)) := heap_alloc_new _ _
  refine ⟨?_, frozen_of_row _ _ _ _ _ hh⟩
  rw [Nat.zero_add, cell_of_row _ _ _ _ _ _ hh, Array.getElem?_eq_getElem (by omega)]
  rfl
theorem there_new2 {w : World} {B : Nat} (cs : Array Value) (t : TypeId) (n : Nat) (hB : B = w.heap.size) (hn : n ≤ cs.size) : (w.alloc (.cells cs t (0, 0))).there B 0 n := hB ▸ there_new w cs t n hn
theorem setCells_below {B b : Nat} {a : World} (hB : B ≤ b) : ∀ (vs : List Value) (o : Nat) (w : World), Below B a w → Below B a (w.setCells b o vs) := by
  intro vs
  induction vs with
  | nil => intro o w h; exact h
  | cons v vs ih => intro o w h; exact ih (o + 1) _ (h.setCell hB v)
set_option maxRecDepth 20000 in
set_option maxHeartbeats 600000 in
theorem may_core (F : Nat → Int) (w : World) :
    Calls Try.prog 19 #[.agg #[.int .i64 (F 0), .int .i64 (F 1), .int .i64 (F 2), .int .i64 (F 3), .int .i64 (F 4), .int .i64 (F 5), .int .u64 (F 6), .int .u64 (F 7), .int .i64 (F 8), .int .i64 (F 9), .int .u64 (F 10), .int .i64 (F 11), .int .u64 (F 12), .int .u64 (F 13), .int .i64 (F 14), .int .i64 (F 15)]] w fun e w' => e = .returned (.agg #[.int .i64 1, .int .i64 2, .int .i64 (sel (F 0 == 1) 1), .int .i64 (sel (F 0 == 1) 8), .int .i64 (sel (F 0 == 1) 0), .int .i64 (sel (F 0 == 1) 8), .int .i64 (sel (F 0 == 2) 1), .int .i64 (sel (F 0 == 2) 8),
      .int .i64 0, .int .i64 4, .int .i64 0, .int .i64 3, .int .i64 1, .int .i64 1099511627776, .int .i64 1, .int .i64 1099511627776, .int .i64 1, .int .i64 1000, .int .i64 0, .int .i64 100, .int .i64 0, .int .i64 1099511627776, .int .i64 1, .int .i64 8, .int .i64 1, .int .i64 1099511627776, .int .i64 0, .int .i64 1099511627776,
      .int .i64 (sel (decide (0 < F 13)) 1), .int .i64 (sel (decide (0 < F 13)) 4), .int .i64 0, .int .i64 2]) ∧ Below w.heap.size w w' := by
  have hW := hid (when_calls)
  have keepS := hid (fun (w1 w2 : World) (hS : Below w.heap.size w w1 ∧ w.heap.size + 1 < w1.heap.size ∧ w1.cell? ⟨w.heap.size, 13, none⟩ = some (.int .u64 (F 13)) ∧ w1.there (w.heap.size + 1) 0 32) (hl : Below w1.heap.size w1 w2) =>
    (show Below w.heap.size w w2 ∧ w.heap.size + 1 < w2.heap.size ∧ w2.cell? ⟨w.heap.size, 13, none⟩ = some (.int .u64 (F 13)) ∧ w2.there (w.heap.size + 1) 0 32 from
      ⟨via hS.1 hl, Nat.lt_of_lt_of_le hS.2.1 hl.size, cell_of hl hS.2.2.1, there_of hl hS.2.1 hS.2.2.2⟩))
  have keepT := hid (fun (w1 : World) (vs : List Value) (hS : Below w.heap.size w w1 ∧ w.heap.size + 1 < w1.heap.size ∧ w1.cell? ⟨w.heap.size, 13, none⟩ = some (.int .u64 (F 13)) ∧ w1.there (w.heap.size + 1) 0 32) =>
    (show Below w.heap.size w (w1.setCells (w.heap.size + 1) 0 vs) ∧ w.heap.size + 1 < (w1.setCells (w.heap.size + 1) 0 vs).heap.size ∧ (w1.setCells (w.heap.size + 1) 0 vs).cell? ⟨w.heap.size, 13, none⟩ = some (.int .u64 (F 13)) ∧ (w1.setCells (w.heap.size + 1) 0 vs).there (w.heap.size + 1) 0 32 from by
      refine ⟨setCells_below (by omega) vs 0 w1 hS.1, ?_, ?_, World.there_setCells hS.2.2.2 _ _ _⟩
      · have := (setCells_below (B := 0) (b := w.heap.size + 1) (a := w1) (by omega) vs 0 w1 (Below.refl _ _)).size
        omega
      · rw [World.cell?_setCells_out _ _ _ _ _ (fun hx _ => absurd (show w.heap.size = w.heap.size + 1 from hx) (by omega))]
        exact hS.2.2.1))
  have hi : (Try.prog.info? 44).map (·.size) = some 32 := by kernel_rfl
  have h1 : ∀ v ∈ [.int .i64 1, .int .i64 2, .int .i64 (sel (F 0 == 1) 1), .int .i64 (sel (F 0 == 1) 8), .int .i64 (sel (F 0 == 1) 0), .int .i64 (sel (F 0 == 1) 8), .int .i64 (sel (F 0 == 2) 1), .int .i64 (sel (F 0 == 2) 8),
      .int .i64 0, .int .i64 4, .int .i64 0, .int .i64 3, .int .i64 1, .int .i64 1099511627776, .int .i64 1, .int .i64 1099511627776, .int .i64 1, .int .i64 1000, .int .i64 0, .int .i64 100, .int .i64 0, .int .i64 1099511627776, .int .i64 1, .int .i64 8, .int .i64 1, .int .i64 1099511627776, .int .i64 0, .int .i64 1099511627776,
      .int .i64 (sel (decide (0 < F 13)) 1), .int .i64 (sel (decide (0 < F 13)) 4), .int .i64 0, .int .i64 2], Value.oneCell' v = true := by simp [Value.oneCell']
  go_enter Try.func19, Try.ntmps19
  go_wp2_with fail
  go_quiet (fail)
  go_wp2_with fail
  go_region_held3 (fun w' => Below w.heap.size w w' ∧ w.heap.size + 1 < w'.heap.size ∧ w'.cell? ⟨w.heap.size, 13, none⟩ = some (.int .u64 (F 13)) ∧ w'.there (w.heap.size + 1) 0 32) (first | exact keepT.out _ _ (by assumption) | exact keepS.out _ _ (by assumption) (by assumption) | exact keepS.out _ _ ⟨((Below.refl _ _).alloc (Nat.le_refl _) _).alloc (by simp) _, by simp, by simp [go_sem], there_new2 _ _ _ (by simp) (by simp)⟩ (quietN (Below.refl _ _) _).drew)
    (first
    | (go_at_call 27; refine (hW.out _ _ _ _).mono ?_; rintro e w' ⟨rfl, hl⟩))
  rename_i w1 l1 w2 l2 w3 l3 hHeld
  have z1 : w.heap.size + 1 < w1.heap.size := Nat.lt_of_lt_of_le (by simp) l1.size
  have t1 : w1.there (w.heap.size + 1) 0 32 := there_of l1 (by simp) (there_new2 _ _ 32 (by simp) (by simp))
  have z2 := Nat.lt_of_lt_of_le z1 l2.size
  have t2 := there_of l2 z1 t1
  have z3 := Nat.lt_of_lt_of_le z2 l3.size
  have t3 := there_of l3 z2 t2
  have t4 := there_of hl z3 t3
  have hr := World.rangeAt_setCells_same w' (w.heap.size + 1) 0 [.int .i64 1, .int .i64 2, .int .i64 (sel (F 0 == 1) 1), .int .i64 (sel (F 0 == 1) 8), .int .i64 (sel (F 0 == 1) 0), .int .i64 (sel (F 0 == 1) 8), .int .i64 (sel (F 0 == 2) 1), .int .i64 (sel (F 0 == 2) 8),
      .int .i64 0, .int .i64 4, .int .i64 0, .int .i64 3, .int .i64 1, .int .i64 1099511627776, .int .i64 1, .int .i64 1099511627776, .int .i64 1, .int .i64 1000, .int .i64 0, .int .i64 100, .int .i64 0, .int .i64 1099511627776, .int .i64 1, .int .i64 8, .int .i64 1, .int .i64 1099511627776, .int .i64 0, .int .i64 1099511627776,
      .int .i64 (sel (decide (0 < F 13)) 1), .int .i64 (sel (decide (0 < F 13)) 4), .int .i64 0, .int .i64 2] t4
  have hld := run_loadVar_mid (P := Try.prog) _ _ _ 44 _ _ hr Try.underlying44 rfl hi
  go_wp2_with fail
  refine bodyPost_ret (v := .agg #[.int .i64 1, .int .i64 2, .int .i64 (sel (F 0 == 1) 1), .int .i64 (sel (F 0 == 1) 8), .int .i64 (sel (F 0 == 1) 0), .int .i64 (sel (F 0 == 1) 8), .int .i64 (sel (F 0 == 2) 1), .int .i64 (sel (F 0 == 2) 8),
      .int .i64 0, .int .i64 4, .int .i64 0, .int .i64 3, .int .i64 1, .int .i64 1099511627776, .int .i64 1, .int .i64 1099511627776, .int .i64 1, .int .i64 1000, .int .i64 0, .int .i64 100, .int .i64 0, .int .i64 1099511627776, .int .i64 1, .int .i64 8, .int .i64 1, .int .i64 1099511627776, .int .i64 0, .int .i64 1099511627776,
      .int .i64 (sel (decide (0 < F 13)) 1), .int .i64 (sel (decide (0 < F 13)) 4), .int .i64 0, .int .i64 2]) (by simp [results, Try.results19, Sem.run_bind, asAddr, hld]) rfl ⟨rfl, hHeld.1⟩
end Go.Proofs.Ytnednhdbghkcnaa.C08
