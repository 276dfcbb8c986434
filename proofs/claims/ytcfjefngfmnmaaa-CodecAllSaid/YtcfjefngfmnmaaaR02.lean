/- What the reference of chapter 2 returns: the same plain numbers. -/
import Derived.Test.YtcfjefngfmnmaaaC02B
namespace Go.Proofs.Ytcfjefngfmnmaaa.C02
open Go.RowKit Go.Proofs.Ytcfjefngfmnmaaa
set_option linter.unusedVariables false
attribute [local go_sem] max2_mx min2_mn max_two min_two
set_option maxHeartbeats 2000000 in
theorem rfrom_calls (l : List Int) (A : Option Addr) (c : Nat) (w : World) (hc : l.length ≤ c) (hl : c ≤ 9223372036854775807) (hx : ∀ x ∈ l, 0 ≤ x ∧ x < 256) (hr : BytesAt w A l) :
    Calls Try.prog 23 #[.slice A l.length c] w fun e w' => e = .returned (.int .u64 (Bits.num (Bits.last8 l))) ∧ w = w' := by
  have HxL : Hid (∀ x ∈ Bits.last8 l, 0 ≤ x ∧ x < 256) := fun x h => hx x (last8_mem h)
  have LL : (Bits.last8 l).length = l.length - (l.length - 8) := by unfold Bits.last8; rw [List.length_drop]
  have hm : Sat.mx 0 ((l.length : Int) - 8) = ((l.length - 8 : Nat) : Int) := by unfold Sat.mx; split <;> omega
  have LL2 : l.length ≤ l.length - 8 + (Bits.last8 l).length ∧ l.length - 8 + (Bits.last8 l).length ≤ l.length := by omega
  rcases hr with rfl | ⟨b, o, rfl, hr⟩
  · clear hx LL LL2 hm
    have hm : Sat.mx 0 (-8) = 0 := by decide
    go_enter Try.func23, Try.ntmps23
    go_wp2_with fail
    refine wp_loop_rounds 1 ?_
    rw [rounds_succ]
    go_wp2_with fail
    go_ret
    exact ⟨rfl, rfl⟩
  · have Hr : Hid (∀ k, k < (Bits.last8 l).length → w.cell? ⟨b, o + (l.length - 8 + k), none⟩ = some (.int .u8 ((Bits.last8 l).getD k 0))) := by
      intro k hk
      rw [last8_getD]
      exact hr _ (by omega)
    clear hr hx LL
    go_enter Try.func23, Try.ntmps23
    go_wp2_with fail
    go_loop [3, 4] (fun s i => ∃ k : Nat, k ≤ (Bits.last8 l).length ∧ i = .int .i64 ((l.length - 8 + k : Nat) : Int) ∧ s = .int .u64 (Bits.num ((Bits.last8 l).take k))) (fun _ i => l.length - (intOf i).toNat)
    case atStart => exact ⟨0, Nat.zero_le _, rfl, rfl⟩
    case round =>
      obtain ⟨k, hk, rfl, rfl⟩ := hrel
      by_cases hlt : k < (Bits.last8 l).length
      · have hcell := Hr.out k hlt
        have Hs := hid (Bits.num_take (Bits.last8 l) k hlt)
        have hb7 := Bits.num_bd7 (Bits.last8 l) HxL.out k (by omega) (by have := Bits.last8_len l; omega)
        have hgd := getD_byte (Bits.last8 l) k hlt HxL.out
        have g0 := hgd.1
        have g1 : (Bits.last8 l).getD k 0 ≤ 255 := by omega
        have s0 := hb7.1
        have s1 := hb7.2
        have hlt2 : l.length - 8 + k < l.length := by omega
        clear hgd hb7
        generalize (Bits.last8 l).getD k 0 = x at *
        generalize Bits.num ((Bits.last8 l).take k) = s at *
        generalize hj : l.length - 8 + k = j at *
        have Hj := hid hj
        clear hj
        go_wp2_with fail
        go_round
        case rel => exact ⟨k + 1, by omega, by have := Hj.out; rw [show l.length - 8 + (k + 1) = j + 1 from by omega]; go_num, by rw [Hs.out, Int.mul_comm]⟩
        case measure => simp [intOf]; omega
      · have hs : Hid (Bits.num ((Bits.last8 l).take k) = Bits.num (Bits.last8 l)) := by show _ = _; rw [List.take_of_length_le (by omega)]
        have hge : l.length ≤ l.length - 8 + k := by omega
        generalize Bits.num ((Bits.last8 l).take k) = s at *
        go_wp2_with fail
        go_ret
        exact ⟨ret_int hs.out, rfl⟩
end Go.Proofs.Ytcfjefngfmnmaaa.C02
