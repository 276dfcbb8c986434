/- What New, Bin, Top and Add of the package hist do, and tell. -/
import Derived.Test.YtmemafhdondfhaaC07
import Derived.Test.YtmemafhdondfhaaC02
import Derived.Test.YtmemafhdondfhaaHst
namespace Go.Proofs.Ytmemafhdondfhaa.C06
open Go.RowKit Go.Proofs.Ytmemafhdondfhaa Go.Proofs.Ytmemafhdondfhaa.Win
set_option linter.unusedVariables false
set_option linter.unusedSimpArgs false
set_option linter.unnecessarySimpa false
attribute [local go_sem] C01.max2_mx C01.min2_mn C01.max_two C01.min_two
theorem ret_int {k : IntKind} {a b : Int} (h : a = b) : Ending.returned (.int k a) = .returned (.int k b) := by rw [h]
theorem bin_calls (x : Nat) (hx : x < 18446744073709551616) (w : World) :
    Calls Try.prog 11 #[.int .u64 x] w fun e w' => e = .returned (.int .i64 (Bits.blen x)) ∧ w = w' := by
  have Hl := hid (C02.len_calls x hx w)
  have hx2 : x ≤ 18446744073709551615 := by omega
  go_enter Try.func11, Try.ntmps11
  go_wp2_with fail
  refine Hl.out.mono ?_
  rintro e w' ⟨rfl, rfl⟩
  go_wp2_with fail
  go_ret
  exact ⟨rfl, rfl⟩
theorem top_wrap {k : Nat} (h : k ≤ 64) : IntKind.u64.wrap (IntKind.u64.wrap ((2 : Int) ^ k) - 1) = Hst.top k := by
  have e : ((2 : Int) ^ k) = ((2 ^ k : Nat) : Int) := by simp
  have h0 := Nat.two_pow_pos k
  rw [e]
  unfold Hst.top
  by_cases h64 : k = 64
  · subst h64; decide
  · have : 2 ^ k ≤ 2 ^ 63 := Nat.pow_le_pow_right (by omega) (by omega)
    rw [Sat.wrap_u64, Sat.wrap_u64]
    omega
theorem top_calls (b : Int) (k : Nat) (hk : Sat.mn (Sat.mx b 0) 64 = k) (k64 : k ≤ 64) (b0 : -9223372036854775808 ≤ b) (b1 : b ≤ 9223372036854775807) (w : World) :
    Calls Try.prog 12 #[.int .i64 b] w fun e w' => e = .returned (.int .u64 (Hst.top k)) ∧ w = w' := by
  have k64i : (k : Int) ≤ 64 := by omega
  have k0 : 0 ≤ (k : Int) := by omega
  go_enter Try.func12, Try.ntmps12
  go_wp2_with fail
  go_ret
  exact ⟨ret_int (top_wrap k64), rfl⟩
/-- Sixty-five bins of a bucket: a note. -/
theorem add_calls (B : Nat) (W : Win) (t : Int) (x : Nat) (w : World) (h : At w B W) (ok : Ok W) (t0 : 0 ≤ t) (t1 : t ≤ 18446744073709551615) (hx : x < 18446744073709551616) :
    Calls Try.prog 17 #[.pointer (some ⟨B, 0, none⟩), .int .u64 t, .int .u64 x] w fun e w' => e = .returned (.tuple #[]) ∧ At w' B (W.add t (Bits.blen x) 1) ∧ Only B w w' := by
  have Hat := hid (at_calls B W t w h ok t0 t1)
  have Hbin := hid (fun w => bin_calls x hx w)
  have s1 := (ok.slot t).1
  have hk := Bits.blen_le64 hx
  have cc := (ok.tick t0 t1).c0 (W.slot t) (Bits.blen x)
  have hx2 : x ≤ 18446744073709551615 := by omega
  generalize Bits.blen x = k at *
  go_enter Try.func17, Try.ntmps17
  go_wp2_with fail
  refine Hat.out.mono ?_
  rintro e w1 ⟨rfl, hat, ho⟩
  have Ho := hid ho
  have hc := hat (W.slot t * 66 + (k + 1)) (by omega)
  rw [cell_c _ _ _ _ (by omega) s1, show W.slot t * 66 + (k + 1) = W.slot t * 66 + 1 + k from by omega] at hc
  have Hc := hid hat
  have hc1 := hc.1
  have hc2 := hc.2
  have Hadd := hid (C01.add_calls ((W.tick t).c (W.slot t) k) 1 cc.1 (by omega) (by omega) (by omega))
  have hk5 : (k : Int) < 65 := by omega
  have i1 : 0 ≤ (k : Int) := by omega
  have i2 : (k : Int).toNat = k := by omega
  clear ho hat hc
  go_wp2_with fail
  refine (Hbin.out _).mono ?_
  rintro e w' ⟨rfl, rfl⟩
  go_wp2_with fail
  go_region_with (go_at_call 25; refine (Hadd.out _).mono ?_; rintro e w' ⟨rfl, rfl⟩)
  go_wp2_with fail
  go_end0
  refine ⟨rfl, ?_, ?_⟩
  · apply AtF.at
    · with_reducible apply AtF.drew
      with_reducible apply AtF.set
      exact Hc.out.to
    · intro i hi
      rw [cell_add W 66 t k 1 (by omega) s1 i hi]
      unfold upd
      (repeat' split) <;> first | rfl | omega
  · exact (Ho.out.set _ _).drew
theorem add_nil (t x : Int) (w : World) :
    Calls Try.prog 17 #[.pointer none, .int .u64 t, .int .u64 x] w fun e w' => e = .returned (.tuple #[]) ∧ w = w' := by
  go_enter Try.func17, Try.ntmps17
  go_wp2_with fail
  go_end0
  exact ⟨rfl, rfl⟩
/-- A new one. -/
def fresh (n width : Int) : Win := ⟨fun _ => 0, fun _ _ => 0, n, width, 0⟩
def fcells (a b c : Int) : List Value := List.replicate 528 (Value.int .u64 0) ++ [Value.int .u64 a, Value.int .u64 b, Value.int .u64 c]
theorem fz (w : World) : (zeroValue 63).run Try.prog w = .ok (.agg (fcells 0 0 0).toArray) w := by kernel_rfl
theorem fset1 (n : Int) : (fcells 0 0 0).toArray.setIfInBounds 528 (.int .u64 n) = (fcells n 0 0).toArray := by
  unfold fcells
  rw [List.setIfInBounds_toArray, List.set_append_right _ _ (by rw [List.length_replicate]; omega), List.length_replicate]
  rfl
theorem fset2 (n d : Int) : (fcells n 0 0).toArray.setIfInBounds 529 (.int .u64 d) = (fcells n d 0).toArray := by
  unfold fcells
  rw [List.setIfInBounds_toArray, List.set_append_right _ _ (by rw [List.length_replicate]; omega), List.length_replicate]
  rfl
theorem fsize (a b c : Int) : (fcells a b c).toArray.size = 531 := by
  unfold fcells
  rw [List.size_toArray, List.length_append, List.length_replicate]
  rfl
theorem fne (a b c : Int) : ((fcells a b c).toArray = #[]) = False := by
  apply eq_false
  intro h
  have := congrArg Array.size h
  rw [fsize] at this
  exact absurd this (by decide)
theorem at_fresh (n width : Int) (w : World) (T : TypeId) : At (w.alloc (.cells (fcells n width 0).toArray T)) w.heap.size (fresh n width) := by
  intro i hi
  have hh : (w.alloc (.cells (fcells n width 0).toArray T)).heap[w.heap.size]? = some (.cells (fcells n width 0).toArray T (0, 0)) := heap_alloc_new _ _
  refine ⟨?_, frozen_of_row _ _ _ _ _ hh⟩
  rw [cell_of_row _ _ _ _ _ _ hh, List.getElem?_toArray]
  unfold fcells
  by_cases h : i < 8 * 66
  · rw [List.getElem?_append_left (by rw [List.length_replicate]; omega), List.getElem?_replicate, if_pos (by omega)]
    unfold Win.cell fresh
    rw [if_pos h]
    split <;> rfl
  · rw [List.getElem?_append_right (by rw [List.length_replicate]; omega), List.length_replicate]
    have : i = 8 * 66 ∨ i = 8 * 66 + 1 ∨ i = 8 * 66 + 2 := by omega
    rcases this with rfl | rfl | rfl
    · rw [cell_n]; rfl
    · rw [cell_w]; rfl
    · rw [cell_t]; rfl
set_option maxHeartbeats 1000000 in
theorem new_calls (n width : Int) (w : World) (n1 : 1 ≤ n) (n8 : n ≤ 8) (w1 : 1 ≤ width) (w2 : width ≤ 1099511627776) :
    Calls Try.prog 16 #[.int .i64 n, .int .u64 width] w fun e w' => e = .returned (.pointer (some ⟨w.heap.size, 0, none⟩)) ∧ At w' w.heap.size (fresh n width) ∧ Below w.heap.size w w' ∧ w'.heap.size = w.heap.size + 1 := by
  obtain ⟨Z0, h0⟩ : ∃ Z : Array Value, Hid (Z = (fcells 0 0 0).toArray) := ⟨_, hid rfl⟩
  obtain ⟨Z1, h1⟩ : ∃ Z : Array Value, Hid (Z = (fcells n 0 0).toArray) := ⟨_, hid rfl⟩
  obtain ⟨Z2, h2⟩ : ∃ Z : Array Value, Hid (Z = (fcells n width 0).toArray) := ⟨_, hid rfl⟩
  have hz : ∀ w, (zeroValue 63).run Try.prog w = .ok (.agg Z0) w := by rw [h0.out]; exact fz
  have z0 : (Z0 = #[]) = False := by rw [h0.out]; exact fne _ _ _
  have z1 : (Z1 = #[]) = False := by rw [h1.out]; exact fne _ _ _
  have s0 : Z0.size = 531 := by rw [h0.out]; exact fsize _ _ _
  have s1 : Z1.size = 531 := by rw [h1.out]; exact fsize _ _ _
  have s2 : Z2.size = 531 := by rw [h2.out]; exact fsize _ _ _
  have hs1 : Z0.setIfInBounds 528 (.int .u64 n) = Z1 := by rw [h0.out, h1.out]; exact fset1 _
  have hs2 : Z1.setIfInBounds 529 (.int .u64 width) = Z2 := by rw [h1.out, h2.out]; exact fset2 _ _
  go_enter Try.func16, Try.ntmps16
  go_wp2_with fail
  go_ret
  refine ⟨rfl, ?_, (Below.refl _ _).alloc (Nat.le_refl _) _, by simp⟩
  rw [h2.out]
  exact at_fresh n width w _
end Go.Proofs.Ytmemafhdondfhaa.C06
