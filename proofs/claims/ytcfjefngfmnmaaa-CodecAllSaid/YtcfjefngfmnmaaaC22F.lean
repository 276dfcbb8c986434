/- What Take of the package codec returns, as the plain law says; the examples' function of chapter 22 answers true. -/
import Derived.Test.YtcfjefngfmnmaaaC22E
namespace Go.Proofs.Ytcfjefngfmnmaaa.C22
open Go.RowKit Go.Proofs.Ytcfjefngfmnmaaa Go.Proofs.Ytcfjefngfmnmaaa.Cod
set_option linter.unusedVariables false
set_option linter.unusedSimpArgs false
set_option linter.unnecessarySimpa false
theorem strOf_inj {l m : List Int} (hl : Cod.Ok l) (hm : Cod.Ok m) (h : strOfNums l = strOfNums m) : l = m := by rw [← nums_str hl, ← nums_str hm, h]
theorem extract_head (s : ByteArray) (n : Nat) : s.extract 0 n = strOfNums ((nums s).take n) := by
  rw [← str_nums (s.extract 0 n), nums_extract]
  simp
theorem extract_tail (s : ByteArray) (n : Nat) : s.extract n s.size = strOfNums ((nums s).drop n) := by
  rw [← str_nums (s.extract n s.size), nums_extract, List.take_of_length_le (by rw [List.length_drop, nums_len]; omega)]
theorem bytes_same (a : ByteArray) : (a != a) = false := by unfold bne; rw [beq_toListBytes]; simp
theorem bytes_ne {a b : ByteArray} (h : a ≠ b) : (a != b) = true := by
  unfold bne
  rw [beq_toListBytes, ByteArray.toList_eq, ByteArray.toList_eq, Bool.not_eq_true', beq_eq_false_iff_ne]
  intro he
  apply h
  obtain ⟨⟨x⟩⟩ := a
  obtain ⟨⟨y⟩⟩ := b
  have : x = y := he
  rw [this]
def noneV : Ending := .returned (.tuple #[.agg zeroF, .string ⟨#[]⟩, .int .i64 2])
def someV (e : Ev) (A : Option Addr) (c : Nat) (r : List Int) : Ending := .returned (.tuple #[.agg (evF e A c), .string (strOfNums r), .int .i64 0])
def Took (s : ByteArray) (w : World) (x : Ending) (w' : World) : Prop := (Cod.take (nums s) = none → x = noneV) ∧ (∀ e r, Cod.take (nums s) = some (e, r) → ∃ A c, x = someV e A c r ∧ RowI w' A e.vals ∧ ∀ b o, A = some ⟨b, o, none⟩ → w.heap.size ≤ b) ∧ Below w.heap.size w w'
theorem take_calls (s : ByteArray) (w : World) : Calls Try.prog 11 #[.string s] w fun x w' => Took s w x w' := by
  have hl := nums_len s
  by_cases h17 : s.size < 17
  · have hn : Cod.take (nums s) = none := by unfold Cod.take; rw [if_pos (by omega)]
    refine (take_short s w h17).mono ?_
    rintro x w' ⟨rfl, hb⟩
    exact ⟨fun _ => rfl, (fun e r h => by rw [hn] at h; cases h), hb⟩
  obtain ⟨m, hm⟩ := Int.eq_ofNat_of_zero_le (at_in (nums_ok s) 16).1
  have hmn : (at' (nums s) 16).toNat = m := by rw [hm]; rfl
  by_cases hb : 8 < m ∨ s.size < 17 + 4 * m
  · have hn : Cod.take (nums s) = none := by unfold Cod.take; rw [if_neg (by omega), hmn, if_pos (by omega)]
    refine (take_many s m w (by omega) hm hb).mono ?_
    rintro x w' ⟨rfl, hb⟩
    exact ⟨fun _ => rfl, (fun e r h => by rw [hn] at h; cases h), hb⟩
  have ht : Cod.take (nums s) = if put (parse (nums s) m) = (nums s).take (17 + 4 * m) then some (parse (nums s) m, (nums s).drop (17 + 4 * m)) else none := by
    unfold Cod.take
    rw [if_neg (by omega), hmn, if_neg (by omega)]
  refine (take_main s m w (by omega) hm (by omega) (by omega) (parse (nums s) m) rfl (strOfNums (put (parse (nums s) m)) != s.extract 0 (17 + 4 * m)) rfl).mono ?_
  rintro x w' ⟨h1, h2, hb⟩
  rw [extract_head] at h1 h2
  by_cases heq : put (parse (nums s) m) = (nums s).take (17 + 4 * m)
  · rw [if_pos heq] at ht
    obtain ⟨A, c, hx, hr, hfr⟩ := h2 (by rw [heq]; exact bytes_same _)
    refine ⟨(fun h => by rw [ht] at h; cases h), fun e r h => ?_, hb⟩
    rw [ht] at h
    injection h with h
    injection h with h3 h4
    subst h3 h4
    refine ⟨A, c, ?_, hr, hfr⟩
    rw [hx, extract_tail]
    rfl
  · rw [if_neg heq] at ht
    refine ⟨fun _ => h1 (bytes_ne fun h => heq (strOf_inj (put_ok _) ((nums_ok s).take _) h)), (fun e r h => by rw [ht] at h; cases h), hb⟩
def e0 : Ev := ⟨2, 0, 0, 0, 0, 0, 258, false, []⟩
theorem e0_may : may e0 = true := by decide +kernel
theorem e0_put : put e0 = [2, 0, 0, 0, 0, 0, 0, 0, 0, 0, 0, 0, 0, 1, 2, 0, 0] := by decide +kernel
theorem zero_may : may zero = false := by decide +kernel
theorem zero_fits : Ev.Fits zero := ⟨by decide, by decide, by decide, by decide, by decide, by decide, by decide, fun v hv => absurd hv List.not_mem_nil⟩
theorem e0_fits : Ev.Fits e0 := ⟨by decide, by decide, by decide, by decide, by decide, by decide, by decide, fun v hv => absurd hv List.not_mem_nil⟩
theorem e0_take : Cod.take (nums (⟨#[2, 0, 0, 0, 0, 0, 0, 0, 0, 0, 0, 0, 0, 1, 2, 0, 0, 120]⟩ : ByteArray)) = some (e0, [120]) := by
  have h := take_put e0_may (by decide) [120]
  rw [e0_put] at h
  exact h
set_option maxHeartbeats 1000000 in
theorem awake_calls (w : World) : Calls Try.prog 9 #[] w fun x w' => x = .returned (.bool true) ∧ Below w.heap.size w w' := by
  have hput := put_calls e0 none 0
  rw [e0_put] at hput
  have Hp := hid fun w => hput w (hid e0_fits) (by decide) (.inl rfl)
  have Hm := hid fun w => may_calls zero none 0 w (hid zero_fits) (by decide) (.inl rfl)
  rw [zero_may] at Hm
  have Ht := hid fun w => take_calls (⟨#[2, 0, 0, 0, 0, 0, 0, 0, 0, 0, 0, 0, 0, 1, 2, 0, 0, 120]⟩ : ByteArray) w
  clear hput
  go_enter Try.func9, Try.ntmps9
  go_wp2_with fail
  refine (Hp.out _).mono ?_
  rintro x w1 ⟨rfl, hb⟩
  have Hb := hid hb
  clear hb
  rw [show strOfNums [2, 0, 0, 0, 0, 0, 0, 0, 0, 0, 0, 0, 0, 1, 2, 0, 0] = (⟨#[2, 0, 0, 0, 0, 0, 0, 0, 0, 0, 0, 0, 0, 1, 2, 0, 0]⟩ : ByteArray) from by kernel_rfl]
  go_wp2_with fail
  rw [show ((⟨#[2, 0, 0, 0, 0, 0, 0, 0, 0, 0, 0, 0, 0, 1, 2, 0, 0]⟩ : ByteArray) ++ (⟨#[120]⟩ : ByteArray)) = (⟨#[2, 0, 0, 0, 0, 0, 0, 0, 0, 0, 0, 0, 0, 1, 2, 0, 0, 120]⟩ : ByteArray) from by kernel_rfl]
  refine (Ht.out _).mono ?_
  rintro x w2 ⟨-, h2, hb2⟩
  obtain ⟨A, c, hx, hr, -⟩ := h2 e0 [120] e0_take
  unfold someV at hx
  subst hx
  have Hb2 := hid (via Hb.out hb2)
  rw [show strOfNums [120] = (⟨#[120]⟩ : ByteArray) from by kernel_rfl]
  clear h2 hb2 hr
  dsimp only [e0, List.length_nil]
  go_wp2_with fail
  refine (Hm.out _).mono ?_
  rintro x w3 ⟨rfl, hb3⟩
  have Hb3 := hid (via (Hb2.out.alloc Hb2.out.size _) hb3)
  clear hb3
  go_wp2_with fail
  go_ret
  exact ⟨ret_bool (by simp), Hb3.out⟩
end Go.Proofs.Ytcfjefngfmnmaaa.C22
