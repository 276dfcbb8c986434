/- What the reference of chapter 2 returns: the same plain numbers. -/
import Derived.Test.YtbhgkbljapfhcaaC02B
namespace Go.Proofs.Ytbhgkbljapfhcaa.C02
open Go.RowKit Go.Proofs.Ytbhgkbljapfhcaa
set_option linter.unusedVariables false
attribute [local go_sem] max2_mx min2_mn max_two min_two
set_option maxHeartbeats 400000 in
theorem rlen_calls (x : Nat) (hx : x < 18446744073709551616) (w : World) :
    Calls Try.prog 11 #[.int .u64 x] w fun e w' => e = .returned (.int .i64 (Bits.blen x)) ∧ w = w' := by
  have hx2 : x ≤ 18446744073709551615 := by omega
  have H64 := hid (Bits.blen_le64 hx)
  clear hx
  go_enter Try.func11, Try.ntmps11
  go_wp2_with fail
  go_loop [0, 3] (fun a n => ∃ y k : Nat, a = .int .u64 y ∧ n = .int .i64 k ∧ y ≤ 18446744073709551615 ∧ Hid (Bits.blen x = k + Bits.blen y)) (fun a _ => (intOf a).toNat)
  case atStart => exact ⟨x, 0, rfl, rfl, hx2, by show _ = _; omega⟩
  case round =>
    obtain ⟨y, k, rfl, rfl, hy, Hk⟩ := hrel
    by_cases h0 : y = 0
    · subst h0
      have fin : Hid ((k : Int) = (Bits.blen x : Int)) := by show _ = _; have := Hk.out; rw [Bits.blen_zero] at this; omega
      go_wp2_with fail
      go_ret
      exact ⟨ret_int fin.out, rfl⟩
    · have ht : 0 < y := by omega
      have hk64 : k ≤ 64 := by have := Hk.out; have := H64.out; omega
      have H2 : Hid (Bits.blen x = k + 1 + Bits.blen (y / 2)) := by show _ = _; have := Hk.out; rw [Bits.blen_pos (x := y) (by omega)] at this; omega
      clear h0
      go_wp2_with fail
      go_round
      case rel => exact ⟨y / 2, k + 1, by go_num, by go_num, by omega, H2⟩
      case measure => simp [intOf]; omega
set_option maxHeartbeats 400000 in
theorem rblock_calls (t : Nat) (L : Int) (ht : t < 18446744073709551616) (hL0 : -9223372036854775808 ≤ L) (hL : L ≤ 9223372036854775807) (w : World) :
    Calls Try.prog 13 #[.int .u64 t, .int .i64 L] w fun e w' => e = .returned (.int .u64 (Bits.blk t L.toNat)) ∧ w = w' := by
  have ht2 : t ≤ 18446744073709551615 := by omega
  clear ht
  go_enter Try.func13, Try.ntmps13
  go_wp2_with fail
  go_loop [0, 5] (fun a i => ∃ y k : Nat, a = .int .u64 y ∧ i = .int .i64 k ∧ y ≤ 18446744073709551615 ∧ (k = 0 ∨ (k : Int) ≤ L) ∧ Hid (y = Bits.blk t k)) (fun a _ => (intOf a).toNat)
  case atStart => exact ⟨t, 0, rfl, rfl, ht2, .inl rfl, by show _ = _; rw [Bits.blk_zero]⟩
  case round =>
    obtain ⟨y, k, rfl, rfl, hy, hk, Hk⟩ := hrel
    by_cases hlt : (k : Int) < L
    · by_cases h0 : y = 0
      · subst h0
        have fin : Hid ((0 : Int) = (Bits.blk t L.toNat : Int)) := by
          show _ = _
          have e : L.toNat = k + (L.toNat - k) := by omega
          rw [e, ← Bits.blk_blk, ← Hk.out, Bits.zero_blk]
          rfl
        clear hk
        go_wp2_with fail
        go_ret
        exact ⟨ret_int fin.out, rfl⟩
      · have hp : 0 < y := by omega
        have H2 : Hid (y / 64 = Bits.blk t (k + 1)) := by show _ = _; rw [← Bits.blk_succ', ← Hk.out]
        clear h0 hk
        go_wp2_with fail
        go_round
        case rel => exact ⟨y / 64, k + 1, by go_num, by go_num, by omega, .inr (by omega), H2⟩
        case measure => simp [intOf]; omega
    · have fin : Hid ((y : Int) = (Bits.blk t L.toNat : Int)) := by
        show _ = _
        have e : L.toNat = k := by omega
        rw [e, ← Hk.out]
      clear hk
      go_wp2_with fail
      go_ret
      exact ⟨ret_int fin.out, rfl⟩
set_option maxHeartbeats 400000 in
theorem rslot_calls (t : Nat) (L : Int) (ht : t < 18446744073709551616) (hL0 : -9223372036854775808 ≤ L) (hL : L ≤ 9223372036854775807) (w : World) :
    Calls Try.prog 15 #[.int .u64 t, .int .i64 L] w fun e w' => e = .returned (.int .i64 (Bits.blk t L.toNat % 64 : Nat)) ∧ w = w' := by
  have H := hid (rblock_calls t L ht hL0 hL w)
  have b1 : Bits.blk t L.toNat ≤ 18446744073709551615 := by have := Bits.blk_le t L.toNat; omega
  go_enter Try.func15, Try.ntmps15
  go_wp2_with (go_at_call 13; refine H.out.mono ?_; rintro e w' ⟨rfl, rfl⟩)
  go_ret
  exact ⟨ret_int (by omega), rfl⟩
set_option maxHeartbeats 1000000 in
theorem rlevel_calls (a b : Nat) (ha : a < 18446744073709551616) (hb : b < 18446744073709551616) (w : World) :
    Calls Try.prog 17 #[.int .u64 a, .int .u64 b] w fun e w' => e = .returned (.int .i64 (Bits.lvl a b)) ∧ w = w' := by
  have Ha := hid fun k : Int => rblock_calls a k ha
  have Hb := hid fun k : Int => rblock_calls b k hb
  clear hb ha
  go_enter Try.func17, Try.ntmps17
  go_wp2_with fail
  go_loop [5] (fun n => ∃ k : Nat, n = .int .i64 k ∧ k ≤ 4 ∧ Hid (∀ j, j < k → Bits.blk a (j + 1) ≠ Bits.blk b (j + 1))) (fun n => 4 - (intOf n).toNat)
  case atStart => exact ⟨0, rfl, by omega, fun j hj => absurd hj (by omega)⟩
  case round =>
    obtain ⟨k, rfl, hk, Hk⟩ := hrel
    have e1 : ((k : Int) + 1).toNat = k + 1 := by omega
    by_cases h4 : k < 4
    · have HA : Hid (∀ w, Calls Try.prog 13 #[.int .u64 a, .int .i64 ((k : Int) + 1)] w fun e w' => e = .returned (.int .u64 (Bits.blk a (k + 1))) ∧ w = w') := fun w => by
        have := Ha.out ((k : Int) + 1) (by omega) (by omega) w
        rwa [e1] at this
      have HB : Hid (∀ w, Calls Try.prog 13 #[.int .u64 b, .int .i64 ((k : Int) + 1)] w fun e w' => e = .returned (.int .u64 (Bits.blk b (k + 1))) ∧ w = w') := fun w => by
        have := Hb.out ((k : Int) + 1) (by omega) (by omega) w
        rwa [e1] at this
      clear e1
      by_cases hd : Bits.blk a (k + 1) = Bits.blk b (k + 1)
      · have fin : Hid ((k : Int) = (Bits.lvl a b : Int)) := by show _ = _; rw [Bits.lvl_of hk Hk.out (fun _ => hd)]
        rw [hd] at HA
        clear hd
        go_wp2_with fail
        refine (HA.out _).mono ?_
        rintro e w' ⟨rfl, rfl⟩
        go_wp2_with fail
        refine (HB.out _).mono ?_
        rintro e w' ⟨rfl, rfl⟩
        go_wp2_with fail
        go_ret
        exact ⟨ret_int fin.out, rfl⟩
      · have hz : ((Bits.blk a (k + 1) : Int) == (Bits.blk b (k + 1) : Int)) = false := by
          rw [beq_eq_false_iff_ne]
          omega
        have H2 : Hid (∀ j, j < k + 1 → Bits.blk a (j + 1) ≠ Bits.blk b (j + 1)) := fun j hj => by
          by_cases e : j = k
          · subst e; exact hd
          · exact Hk.out j (by omega)
        clear hd
        generalize (Bits.blk a (k + 1) : Int) = z at *
        generalize (Bits.blk b (k + 1) : Int) = z' at *
        go_wp2_with fail
        refine (HA.out _).mono ?_
        rintro e w' ⟨rfl, rfl⟩
        go_wp2_with fail
        refine (HB.out _).mono ?_
        rintro e w' ⟨rfl, rfl⟩
        go_wp2_with fail
        go_round
        case rel => exact ⟨k + 1, by go_num, by omega, H2⟩
        case measure => simp [intOf]; omega
    · have fin : Hid ((4 : Int) = (Bits.lvl a b : Int)) := by show _ = _; rw [Bits.lvl_of hk Hk.out (fun h => absurd h h4)]; omega
      go_wp2_with fail
      go_ret
      exact ⟨ret_int fin.out, rfl⟩
set_option maxHeartbeats 2000000 in
theorem rfrom_calls (l : List Int) (A : Option Addr) (c : Nat) (w : World) (hc : l.length ≤ c) (hl : c ≤ 9223372036854775807) (hx : ∀ x ∈ l, 0 ≤ x ∧ x < 256) (hr : BytesAt w A l) :
    Calls Try.prog 23 #[.slice A l.length c] w fun e w' => e = .returned (.int .u64 (Bits.num (Bits.last8 l))) ∧ w = w' := by
  have HxL : Hid (∀ x ∈ Bits.last8 l, 0 ≤ x ∧ x < 256) := fun x h => hx x (last8_mem h)
  have LL : (Bits.last8 l).length = l.length - (l.length - 8) := by unfold Bits.last8; rw [List.length_drop]
  have hm : Sat.mx 0 ((l.length : Int) - 8) = ((l.length - 8 : Nat) : Int) := by unfold Sat.mx; split <;> omega
  have LL2 : l.length ≤ l.length - 8 + (Bits.last8 l).length ∧ l.length - 8 + (Bits.last8 l).length ≤ l.length := by omega
  rcases hr with rfl | ⟨b, o, rfl, hr⟩
  · clear hx LL LL2 hm
    have hm : Sat.mx 0 (-8) = 0 := by decide
    go_enter Try.func23, Try.ntmps23
    go_wp2_with fail
    refine wp_loop_rounds 1 ?_
    rw [rounds_succ]
    go_wp2_with fail
    go_ret
    exact ⟨rfl, rfl⟩
  · have Hr : Hid (∀ k, k < (Bits.last8 l).length → w.cell? ⟨b, o + (l.length - 8 + k), none⟩ = some (.int .u8 ((Bits.last8 l).getD k 0))) := by
      intro k hk
      rw [last8_getD]
      exact hr _ (by omega)
    clear hr hx LL
    go_enter Try.func23, Try.ntmps23
    go_wp2_with fail
    go_loop [3, 4] (fun s i => ∃ k : Nat, k ≤ (Bits.last8 l).length ∧ i = .int .i64 ((l.length - 8 + k : Nat) : Int) ∧ s = .int .u64 (Bits.num ((Bits.last8 l).take k))) (fun _ i => l.length - (intOf i).toNat)
    case atStart => exact ⟨0, Nat.zero_le _, rfl, rfl⟩
    case round =>
      obtain ⟨k, hk, rfl, rfl⟩ := hrel
      by_cases hlt : k < (Bits.last8 l).length
      · have hcell := Hr.out k hlt
        have Hs := hid (Bits.num_take (Bits.last8 l) k hlt)
        have hb7 := Bits.num_bd7 (Bits.last8 l) HxL.out k (by omega) (by have := Bits.last8_len l; omega)
        have hgd := getD_byte (Bits.last8 l) k hlt HxL.out
        have g0 := hgd.1
        have g1 : (Bits.last8 l).getD k 0 ≤ 255 := by omega
        have s0 := hb7.1
        have s1 := hb7.2
        have hlt2 : l.length - 8 + k < l.length := by omega
        clear hgd hb7
        generalize (Bits.last8 l).getD k 0 = x at *
        generalize Bits.num ((Bits.last8 l).take k) = s at *
        generalize hj : l.length - 8 + k = j at *
        have Hj := hid hj
        clear hj
        go_wp2_with fail
        go_round
        case rel => exact ⟨k + 1, by omega, by have := Hj.out; rw [show l.length - 8 + (k + 1) = j + 1 from by omega]; go_num, by rw [Hs.out, Int.mul_comm]⟩
        case measure => simp [intOf]; omega
      · have hs : Hid (Bits.num ((Bits.last8 l).take k) = Bits.num (Bits.last8 l)) := by show _ = _; rw [List.take_of_length_le (by omega)]
        have hge : l.length ≤ l.length - 8 + k := by omega
        generalize Bits.num ((Bits.last8 l).take k) = s at *
        go_wp2_with fail
        go_ret
        exact ⟨ret_int hs.out, rfl⟩
end Go.Proofs.Ytbhgkbljapfhcaa.C02
