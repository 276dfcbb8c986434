/- What the functions Bytes and From of the package bits and of its reference return. -/
import Derived.Test.YtbhgkbljapfhcaaC02
namespace Go.Proofs.Ytbhgkbljapfhcaa.C02
open Go.RowKit Go.Proofs.Ytbhgkbljapfhcaa
set_option linter.unusedVariables false
attribute [local go_sem] max2_mx min2_mn max_two min_two
/-- The eight bytes of a number, as a value. -/
def b8 (x : Nat) : Array Value := #[.int .u8 (Bits.byt x 0), .int .u8 (Bits.byt x 1), .int .u8 (Bits.byt x 2), .int .u8 (Bits.byt x 3), .int .u8 (Bits.byt x 4), .int .u8 (Bits.byt x 5), .int .u8 (Bits.byt x 6), .int .u8 (Bits.byt x 7)]
theorem ret_agg {a b : Array Value} (h : a = b) : Ending.returned (.agg a) = .returned (.agg b) := by rw [h]
set_option maxHeartbeats 4000000 in
set_option maxRecDepth 100000 in
theorem bytes_calls (x : Nat) (hx : x ≤ 18446744073709551615) (w : World) :
    Calls Try.prog 21 #[.int .u64 x] w fun e w' => e = .returned (.agg (b8 x)) ∧ Below w.heap.size w w' := by
  have F := hid (Bits.byt_all x hx)
  go_enter Try.func21, Try.ntmps21
  go_wp2_with fail
  refine wp_loop_rounds 9 ?_
  iterate 9 (rw [rounds_succ]; go_wp2_with fail)
  obtain ⟨f0, f1, f2, f3, f4, f5, f6, f7⟩ := F.out
  rw [f0, f1, f2, f3, f4, f5, f6, f7]
  refine bodyPost_ret (v := .agg (b8 x)) (by unfold b8; simp [results, Try.results21, go_sem]) rfl ⟨rfl, ?_⟩
  exact ((Below.refl _ _).alloc (Nat.le_refl _) _).alloc (by simp) _
set_option maxHeartbeats 4000000 in
set_option maxRecDepth 100000 in
theorem rbytes_calls (x : Nat) (hx : x ≤ 18446744073709551615) (w : World) :
    Calls Try.prog 22 #[.int .u64 x] w fun e w' => e = .returned (.agg (b8 x)) ∧ Below w.heap.size w w' := by
  have F := hid (Bits.byt_all2 x)
  go_enter Try.func22, Try.ntmps22
  go_wp2_with fail
  refine wp_loop_rounds 9 ?_
  iterate 9 (rw [rounds_succ]; go_wp2_with fail)
  obtain ⟨f0, f1, f2, f3, f4, f5, f6, f7⟩ := F.out
  rw [f0, f1, f2, f3, f4, f5, f6, f7]
  refine bodyPost_ret (v := .agg (b8 x)) (by unfold b8; simp [results, Try.results22, go_sem]) rfl ⟨rfl, ?_⟩
  exact ((Below.refl _ _).alloc (Nat.le_refl _) _).alloc (by simp) _
/-- What a slice of bytes holds: the numbers l, at the address A. -/
def BytesAt (w : World) (A : Option Addr) (l : List Int) : Prop := l = [] ∨ ∃ b o, A = some ⟨b, o, none⟩ ∧ ∀ i, i < l.length → w.cell? ⟨b, o + i, none⟩ = some (.int .u8 (l.getD i 0))
theorem getD_byte (l : List Int) (k : Nat) (h : k < l.length) (hx : ∀ x ∈ l, 0 ≤ x ∧ x < 256) : 0 ≤ l.getD k 0 ∧ l.getD k 0 < 256 := by
  rw [List.getD_eq_getElem?_getD, List.getElem?_eq_getElem h]
  exact hx _ (List.getElem_mem h)
theorem last8_mem {l : List Int} {x : Int} (h : x ∈ Bits.last8 l) : x ∈ l := List.mem_of_mem_drop h
theorem last8_getD (l : List Int) (k : Nat) : (Bits.last8 l).getD k 0 = l.getD (l.length - 8 + k) 0 := by
  unfold Bits.last8
  rw [List.getD_eq_getElem?_getD, List.getD_eq_getElem?_getD, List.getElem?_drop]
set_option maxHeartbeats 2000000 in
theorem from_calls (l : List Int) (A : Option Addr) (c : Nat) (w : World) (hc : l.length ≤ c) (hl : c ≤ 9223372036854775807) (hx : ∀ x ∈ l, 0 ≤ x ∧ x < 256) (hr : BytesAt w A l) (h0 : A = none → c = 0) :
    Calls Try.prog 18 #[.slice A l.length c] w fun e w' => e = .returned (.int .u64 (Bits.num (Bits.last8 l))) ∧ w = w' := by
  have HxL : Hid (∀ x ∈ Bits.last8 l, 0 ≤ x ∧ x < 256) := fun x h => hx x (last8_mem h)
  have LL : (Bits.last8 l).length = l.length - (l.length - 8) := by unfold Bits.last8; rw [List.length_drop]
  rcases hr with rfl | ⟨b, o, rfl, hr⟩
  · rcases A with _ | a
    · obtain rfl := h0 rfl
      clear hx h0 LL
      go_enter Try.func18, Try.ntmps18
      go_wp2_with fail
      refine wp_loop_rounds 1 ?_
      rw [rounds_succ]
      go_wp2_with fail
      go_ret
      exact ⟨rfl, rfl⟩
    · clear hx h0 LL
      go_enter Try.func18, Try.ntmps18
      go_wp2_with fail
      all_goals
        refine wp_loop_rounds 1 ?_
        rw [rounds_succ]
        go_wp2_with fail
        go_ret
        exact ⟨rfl, rfl⟩
  · by_cases h8 : 8 < l.length
    · have hm : Sat.mx 0 ((l.length : Int) - 8) = ((l.length - 8 : Nat) : Int) := by unfold Sat.mx; split <;> omega
      have Hr : Hid (∀ k, k < (Bits.last8 l).length → w.cell? ⟨b, o + (l.length - 8) + k, none⟩ = some (.int .u8 ((Bits.last8 l).getD k 0))) := by
        intro k hk
        rw [last8_getD, Nat.add_assoc]
        exact hr _ (by omega)
      have LL2 : (Bits.last8 l).length ≤ l.length - (l.length - 8) ∧ l.length - (l.length - 8) ≤ (Bits.last8 l).length := by omega
      clear hr hx LL h0
      go_enter Try.func18, Try.ntmps18
      go_wp2_with fail
      go_loop [3, 13] (fun s i => ∃ k : Nat, k ≤ (Bits.last8 l).length ∧ i = .int .i64 k ∧ s = .int .u64 (Bits.num ((Bits.last8 l).take k))) (fun _ i => (Bits.last8 l).length - (intOf i).toNat)
      case atStart => exact ⟨0, Nat.zero_le _, rfl, rfl⟩
      case round =>
        obtain ⟨k, hk, rfl, rfl⟩ := hrel
        by_cases hlt : k < (Bits.last8 l).length
        · have hcell := Hr.out k hlt
          have Hs := hid (Bits.num_take (Bits.last8 l) k hlt)
          have hb7 := Bits.num_bd7 (Bits.last8 l) HxL.out k (by omega) (by have := Bits.last8_len l; omega)
          have hgd := getD_byte (Bits.last8 l) k hlt HxL.out
          have hor := hid (Bits.or_byte (Bits.num ((Bits.last8 l).take k)) ((Bits.last8 l).getD k 0) hb7.1 hb7.2 hgd.1 hgd.2)
          have g0 := hgd.1
          have g1 : (Bits.last8 l).getD k 0 ≤ 255 := by omega
          have s0 := hb7.1
          have s1 := hb7.2
          have hlt2 : k < l.length - (l.length - 8) := by omega
          clear hgd hb7
          generalize (Bits.last8 l).getD k 0 = x at *
          generalize Bits.num ((Bits.last8 l).take k) = s at *
          go_wp2_with fail
          go_round
          case rel => exact ⟨k + 1, by omega, by go_num, by rw [Hs.out, ← hor.out]⟩
          case measure => simp [intOf]; omega
        · have hs : Hid (Bits.num ((Bits.last8 l).take k) = Bits.num (Bits.last8 l)) := by show _ = _; rw [List.take_of_length_le (by omega)]
          have hge : l.length - (l.length - 8) ≤ k := by omega
          generalize Bits.num ((Bits.last8 l).take k) = s at *
          go_wp2_with fail
          go_ret
          exact ⟨ret_int hs.out, rfl⟩
    · have hm : Sat.mx 0 ((l.length : Int) - 8) = 0 := by unfold Sat.mx; split <;> omega
      have Hr : Hid (∀ k, k < (Bits.last8 l).length → w.cell? ⟨b, o + k, none⟩ = some (.int .u8 ((Bits.last8 l).getD k 0))) := by
        intro k hk
        rw [last8_getD, show l.length - 8 + k = k from by omega]
        exact hr _ (by omega)
      have LL2 : (Bits.last8 l).length ≤ l.length ∧ l.length ≤ (Bits.last8 l).length := by omega
      by_cases hl0 : l.length = 0
      · have : l = [] := List.eq_nil_of_length_eq_zero hl0
        subst this
        clear hr hx LL h0
        go_enter Try.func18, Try.ntmps18
        go_wp2_with fail
        all_goals
          refine wp_loop_rounds 1 ?_
          rw [rounds_succ]
          go_wp2_with fail
          go_ret
          exact ⟨rfl, rfl⟩
      have hc0 : 0 < c := by omega
      have hl1 : 0 < l.length := by omega
      clear hr hx LL h0 hl0
      go_enter Try.func18, Try.ntmps18
      go_wp2_with fail
      go_loop [3, 13] (fun s i => ∃ k : Nat, k ≤ (Bits.last8 l).length ∧ i = .int .i64 k ∧ s = .int .u64 (Bits.num ((Bits.last8 l).take k))) (fun _ i => (Bits.last8 l).length - (intOf i).toNat)
      case atStart => exact ⟨0, Nat.zero_le _, rfl, rfl⟩
      case round =>
        obtain ⟨k, hk, rfl, rfl⟩ := hrel
        by_cases hlt : k < (Bits.last8 l).length
        · have hcell := Hr.out k hlt
          have Hs := hid (Bits.num_take (Bits.last8 l) k hlt)
          have hb7 := Bits.num_bd7 (Bits.last8 l) HxL.out k (by omega) (by have := Bits.last8_len l; omega)
          have hgd := getD_byte (Bits.last8 l) k hlt HxL.out
          have hor := hid (Bits.or_byte (Bits.num ((Bits.last8 l).take k)) ((Bits.last8 l).getD k 0) hb7.1 hb7.2 hgd.1 hgd.2)
          have g0 := hgd.1
          have g1 : (Bits.last8 l).getD k 0 ≤ 255 := by omega
          have s0 := hb7.1
          have s1 := hb7.2
          have hlt2 : k < l.length := by omega
          clear hgd hb7
          generalize (Bits.last8 l).getD k 0 = x at *
          generalize Bits.num ((Bits.last8 l).take k) = s at *
          go_wp2_with fail
          go_round
          case rel => exact ⟨k + 1, by omega, by go_num, by rw [Hs.out, ← hor.out]⟩
          case measure => simp [intOf]; omega
        · have hs : Hid (Bits.num ((Bits.last8 l).take k) = Bits.num (Bits.last8 l)) := by show _ = _; rw [List.take_of_length_le (by omega)]
          have hge : l.length ≤ k := by omega
          generalize Bits.num ((Bits.last8 l).take k) = s at *
          go_wp2_with fail
          go_ret
          exact ⟨ret_int hs.out, rfl⟩
end Go.Proofs.Ytbhgkbljapfhcaa.C02
