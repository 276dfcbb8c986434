/- What Add, Counts, New and Reset of the package window do, and tell. -/
import Derived.Test.YtiplgihdgckbaaaC06
namespace Go.Proofs.Ytiplgihdgckbaaa.C06
open Go.RowKit Go.Proofs.Ytiplgihdgckbaaa Go.Proofs.Ytiplgihdgckbaaa.Win
set_option linter.unusedVariables false
set_option linter.unusedSimpArgs false
set_option linter.unnecessarySimpa false
attribute [local go_sem] C01.max2_mx C01.min2_mn C01.max_two C01.min_two
set_option maxHeartbeats 1000000 in
theorem add_calls (B : Nat) (W : Win) (t v : Int) (k : Nat) (w : World) (h : At w B W) (ok : Ok W) (t0 : 0 ≤ t) (t1 : t ≤ 18446744073709551615) (hk : k < 5) (v0 : 0 ≤ v) (v1 : v ≤ 18446744073709551615) :
    Calls Try.prog 23 #[.pointer (some ⟨B, 0, none⟩), .int .u64 t, .int .i64 k, .int .u64 v] w fun e w' => e = .returned (.bool true) ∧ At w' B (W.add t k v) ∧ Only B w w' := by
  have Hat := hid (at_calls B W t w h ok t0 t1)
  have s1 := (ok.slot t).1
  have cc := (ok.tick t0 t1).c0 (W.slot t) k
  go_enter Try.func23, Try.ntmps23
  go_wp2_with fail
  refine Hat.out.mono ?_
  rintro e w1 ⟨rfl, hat, ho⟩
  have Ho := hid ho
  have hc := hat (W.slot t * 6 + (k + 1)) (by omega)
  rw [cell_c _ _ _ _ (by omega) s1, show W.slot t * 6 + (k + 1) = W.slot t * 6 + 1 + k from by omega] at hc
  have Hc := hid hat
  have hc1 := hc.1
  have hc2 := hc.2
  have Hadd := hid (C01.add_calls ((W.tick t).c (W.slot t) k) v cc.1 (by omega) v0 (by omega))
  have hk5 : (k : Int) < 5 := by omega
  have i1 : 0 ≤ (k : Int) := by omega
  have i2 : (k : Int).toNat = k := by omega
  clear ho hat hc
  go_wp2_with fail
  go_region_with (go_at_call 26; refine (Hadd.out _).mono ?_; rintro e w' ⟨rfl, rfl⟩)
  go_wp2_with fail
  go_ret
  refine ⟨rfl, ?_, ?_⟩
  · apply AtF.at
    · with_reducible apply AtF.drew
      with_reducible apply AtF.set
      exact Hc.out.to
    · intro i hi
      rw [cell_add W 6 t k v (by omega) s1 i hi]
      unfold upd
      (repeat' split) <;> first | rfl | omega
  · exact (Ho.out.set _ _).drew
/-- What is none of the kinds is not counted. -/
theorem add_none (B : Nat) (t v k : Int) (w : World) (hk : k < 0 ∨ 5 ≤ k) (k0 : -9223372036854775808 ≤ k) (k1 : k ≤ 9223372036854775807) :
    Calls Try.prog 23 #[.pointer (some ⟨B, 0, none⟩), .int .u64 t, .int .i64 k, .int .u64 v] w fun e w' => e = .returned (.bool false) ∧ w = w' := by
  rcases hk with hk | hk
  all_goals
    go_enter Try.func23, Try.ntmps23
    go_wp2_with fail
    go_ret
    exact ⟨rfl, rfl⟩
theorem add_nil (t v k : Int) (w : World) (k0 : -9223372036854775808 ≤ k) (k1 : k ≤ 9223372036854775807) :
    Calls Try.prog 23 #[.pointer none, .int .u64 t, .int .i64 k, .int .u64 v] w fun e w' => e = .returned (.bool false) ∧ w = w' := by
  go_enter Try.func23, Try.ntmps23
  go_wp2_with fail
  go_ret
  exact ⟨rfl, rfl⟩
/-- A new one. -/
def fresh (n width : Int) : Win := ⟨fun _ => 0, fun _ _ => 0, n, width, 0⟩
theorem at_fresh (n width : Int) (w : World) (T : TypeId) : At (w.alloc (.cells (List.replicate (8 * 6) (Value.int .u64 0) ++ [Value.int .u64 n, Value.int .u64 width, Value.int .u64 0]).toArray T)) w.heap.size (fresh n width) := by
  intro i hi
  have hh : (w.alloc (.cells (List.replicate (8 * 6) (Value.int .u64 0) ++ [Value.int .u64 n, Value.int .u64 width, Value.int .u64 0]).toArray T)).heap[w.heap.size]? = some (.cells (List.replicate (8 * 6) (Value.int .u64 0) ++ [Value.int .u64 n, Value.int .u64 width, Value.int .u64 0]).toArray T (0, 0)) := heap_alloc_new _ _
  refine ⟨?_, frozen_of_row _ _ _ _ _ hh⟩
  rw [cell_of_row _ _ _ _ _ _ hh, List.getElem?_toArray]
  by_cases h : i < 8 * 6
  · rw [List.getElem?_append_left (by simpa using h), List.getElem?_replicate, if_pos h]
    unfold Win.cell fresh
    rw [if_pos h]
    split <;> rfl
  · rw [List.getElem?_append_right (by simp; omega), List.length_replicate]
    have : i = 8 * 6 ∨ i = 8 * 6 + 1 ∨ i = 8 * 6 + 2 := by omega
    rcases this with rfl | rfl | rfl
    · rw [cell_n]; rfl
    · rw [cell_w]; rfl
    · rw [cell_t]; rfl
set_option maxHeartbeats 1000000 in
theorem new_calls (n width : Int) (w : World) (n1 : 1 ≤ n) (n8 : n ≤ 8) (w1 : 1 ≤ width) (w2 : width ≤ 1099511627776) :
    Calls Try.prog 22 #[.int .i64 n, .int .u64 width] w fun e w' => e = .returned (.pointer (some ⟨w.heap.size, 0, none⟩)) ∧ At w' w.heap.size (fresh n width) ∧ Below w.heap.size w w' ∧ w'.heap.size = w.heap.size + 1 := by
  go_enter Try.func22, Try.ntmps22
  go_wp2_with fail
  go_ret
  refine ⟨rfl, ?_, (Below.refl _ _).alloc (Nat.le_refl _) _, by simp⟩
  exact at_fresh n width w _
end Go.Proofs.Ytiplgihdgckbaaa.C06
