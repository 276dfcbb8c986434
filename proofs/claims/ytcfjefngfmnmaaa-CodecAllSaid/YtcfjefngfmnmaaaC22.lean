/- What the functions in, flag and May of the package codec return. -/
import Derived.Test.YtcfjefngfmnmaaaC02B
import Derived.Test.YtcfjefngfmnmaaaCod
import Derived.RegionTactic
import Derived.ChangeAlike
import Derived.Deep.QuietTactic
import Derived.BigQuiet
import Derived.Deep.RegionWith
import Derived.Deep.MidRow
namespace Go.Proofs.Ytcfjefngfmnmaaa.C22
open Go.RowKit Go.Proofs.Ytcfjefngfmnmaaa Go.Proofs.Ytcfjefngfmnmaaa.Cod
set_option linter.unusedVariables false
set_option linter.unusedSimpArgs false
set_option linter.unnecessarySimpa false
theorem hid {p : Prop} (h : p) : Hid p := h
theorem ret_int {k : IntKind} {a b : Int} (h : a = b) : Ending.returned (.int k a) = .returned (.int k b) := by rw [h]
theorem ret_bool {a b : Bool} (h : a = b) : Ending.returned (.bool a) = .returned (.bool b) := by rw [h]
theorem via {W w w' : World} (hb : Below W.heap.size W w) (hl : Below w.heap.size w w') : Below W.heap.size W w' := hb.trans (hl.mono hb.size)
theorem cell_of {w w' : World} (h : Below w.heap.size w w') {p : Addr} {v : Value} (hc : w.cell? p = some v) : w'.cell? p = some v := (h.cell (World.block_lt_of_cell? w p hc)).trans hc
theorem quiet (w : World) : Below w.heap.size w w.drew := (Below.refl _ _).drew
theorem quietN {B : Nat} {a w : World} (h : Below B a w) (n : Nat) : Below B a (w.drewN n) := ⟨h.os, h.tape, h.output, h.size, h.block⟩
theorem grow (w : World) (o : Obj) : Below w.heap.size w (w.alloc o) := (Below.refl _ _).alloc (Nat.le_refl _) _
/-- An event's nine fields. -/
abbrev evF (e : Ev) (A : Option Addr) (c : Nat) : Array Value := #[.int .i64 e.kind, .int .i64 e.id, .int .i64 e.dep, .int .i64 e.scope, .int .i64 e.arg, .int .i64 e.step, .int .u64 (e.n : Int), .bool e.ok, .slice A e.vals.length c]
/-- What a slice of whole numbers holds. -/
def RowI (w : World) (A : Option Addr) (l : List Int) : Prop := l = [] ∨ ∃ b o, A = some ⟨b, o, none⟩ ∧ ∀ i, i < l.length → w.cell? ⟨b, o + i, none⟩ = some (.int .i64 (l.getD i 0))
theorem RowI.below {w w' : World} {A : Option Addr} {l : List Int} (h : RowI w A l) (hb : Below w.heap.size w w') : RowI w' A l := by
  rcases h with rfl | ⟨b, o, rfl, h⟩
  · exact .inl rfl
  · exact .inr ⟨b, o, rfl, fun i hi => cell_of hb (h i hi)⟩
theorem in_calls (n m : Int) (w : World) (n0 : -9223372036854775808 ≤ n) (n1 : n ≤ 9223372036854775807) :
    Calls Try.prog 26 #[.int .i64 n, .int .i64 m] w fun e w' => e = .returned (.bool (within n m)) ∧ w = w' := by
  by_cases h : 0 ≤ n
  · go_enter Try.func26, Try.ntmps26
    go_wp2_with fail
    go_ret
    exact ⟨ret_bool (by unfold within; simp [h]), rfl⟩
  · go_enter Try.func26, Try.ntmps26
    go_wp2_with fail
    go_ret
    exact ⟨ret_bool (by unfold within; rw [decide_eq_false (by omega)]), rfl⟩
theorem flag_calls (b : Bool) (w : World) : Calls Try.prog 29 #[.bool b] w fun e w' => e = .returned (.int .u8 (flag b)) ∧ w = w' := by
  cases b
  all_goals
    go_enter Try.func29, Try.ntmps29
    go_wp2_with fail
    go_ret
    exact ⟨rfl, rfl⟩
theorem short_iff (v : Int) : short v = (C02.narrow v == v) := by
  have h := C02.narrow_eq (n := v)
  unfold short
  by_cases hv : -2147483648 ≤ v ∧ v ≤ 2147483647
  · rw [decide_eq_true hv, (beq_iff_eq).2 (h.2 hv)]
  · rw [decide_eq_false hv]
    symm
    rw [beq_eq_false_iff_ne]
    exact fun hh => hv (h.1 hh)
set_option maxHeartbeats 2000000 in
theorem may_calls (e : Ev) (A : Option Addr) (c : Nat) (w : World) (he : Hid e.Fits) (hl : e.vals.length ≤ 1000000) (hr : RowI w A e.vals) :
    Calls Try.prog 13 #[.agg (evF e A c)] w fun x w' => x = .returned (.bool (may e)) ∧ Below w.heap.size w w' := by
  have Hr := hid hr
  have hli : (e.vals.length : Int) ≤ 1000000 := by omega
  have I0 := hid (fun w => in_calls e.id 1000 w he.out.id.1 he.out.id.2)
  have I1 := hid (fun w => in_calls e.dep 3 w he.out.dep.1 he.out.dep.2)
  have I2 := hid (fun w => in_calls e.scope 9 w he.out.scope.1 he.out.scope.2)
  have I3 := hid (fun w => in_calls e.arg 99 w he.out.arg.1 he.out.arg.2)
  have I4 := hid (fun w => in_calls e.step 3 w he.out.step.1 he.out.step.2)
  have hk := he.out.kind
  obtain ⟨k0, k1⟩ := hk
  have hm : Hid (may e = (e.vals.all short && (decide (1 ≤ e.kind ∧ e.kind ≤ 6) && (decide ((e.vals.length : Int) ≤ 8) && (within e.id 1000 && (within e.dep 3 && (within e.scope 9 && (within e.arg 99 && within e.step 3)))))))) := hid rfl
  generalize may e = r at *
  generalize within e.id 1000 = b0 at *
  generalize within e.dep 3 = b1 at *
  generalize within e.scope 9 = b2 at *
  generalize within e.arg 99 = b3 at *
  generalize within e.step 3 = b4 at *
  clear hr
  go_enter Try.func13, Try.ntmps13
  go_wp2_with fail
  go_loop [10] (fun i => ∃ k : Nat, k ≤ e.vals.length ∧ i = .int .i64 k ∧ ∀ j, j < k → short (e.vals.getD j 0) = true) (fun i => e.vals.length - (intOf i).toNat)
  case atStart => exact ⟨0, Nat.zero_le _, rfl, fun j hj => absurd hj (Nat.not_lt_zero _)⟩
  case round =>
    obtain ⟨k, hk, rfl, hpre⟩ := hrel
    have Hpre := hid hpre
    clear hpre
    by_cases hlt : k < e.vals.length
    · obtain ⟨b, o, rfl, hc0⟩ : ∃ b o, A = some ⟨b, o, none⟩ ∧ w.cell? ⟨b, o + k, none⟩ = some (.int .i64 (e.vals.getD k 0)) := by
        rcases Hr.out with h | ⟨b, o, rfl, h⟩
        · rw [h] at hlt; exact absurd hlt (Nat.not_lt_zero _)
        · exact ⟨b, o, rfl, h k hlt⟩
      have hc := fun ob => cell_of (grow w ob) hc0
      have hv := he.out.vals (e.vals.getD k 0) (by rw [List.getD_eq_getElem?_getD, List.getElem?_eq_getElem hlt]; exact List.getElem_mem hlt)
      have Hn := hid fun w => C02.narrow_calls (e.vals.getD k 0) hv.1 hv.2 w
      have hs := short_iff (e.vals.getD k 0)
      have Hs := hid hs
      have hlti : (k : Int) < e.vals.length := by omega
      obtain ⟨v0, v1⟩ := hv
      clear hc0 hs
      have Hx : Hid (short (e.vals.getD k 0) = false → r = false) := by
        intro h
        rw [hm.out, List.all_eq_false.2 ⟨e.vals.getD k 0, by rw [List.getD_eq_getElem?_getD, List.getElem?_eq_getElem hlt]; exact List.getElem_mem hlt, by rw [h]; simp⟩]
        rfl
      generalize hvv : e.vals.getD k 0 = v at *
      have Hvv := hid hvv
      clear hvv
      rw [← Hs.out] at Hn
      cases hsv : short v with
      | true =>
        rw [hsv] at Hn
        go_wp2_with fail
        refine (Hn.out _).mono ?_
        rintro e w' ⟨rfl, rfl⟩
        go_wp2_with fail
        go_round
        case rel => exact ⟨k + 1, by omega, by go_num, fun j hj => by
          rcases Nat.lt_or_eq_of_le (Nat.lt_succ_iff.1 hj) with h | rfl
          · exact Hpre.out j h
          · rw [Hvv.out]; exact hsv⟩
        case measure => simp [intOf]; omega
      | false =>
        rw [hsv] at Hn
        go_wp2_with fail
        refine (Hn.out _).mono ?_
        rintro e w' ⟨rfl, rfl⟩
        go_wp2_with fail
        go_ret
        exact ⟨ret_bool (Hx.out hsv).symm, grow _ _⟩
    · have hall : e.vals.all short = true := by
        rw [List.all_eq_true]
        intro v hv
        obtain ⟨i, hi, rfl⟩ := List.getElem_of_mem hv
        have := Hpre.out i (by omega)
        rwa [List.getD_eq_getElem?_getD, List.getElem?_eq_getElem hi] at this
      have hkl : (k : Int) = e.vals.length := by omega
      rw [hall, Bool.true_and] at hm
      clear hall
      by_cases h1 : e.kind < 1
      · go_wp2_with fail
        go_ret
        exact ⟨ret_bool (by rw [hm.out, decide_eq_false (by omega)]; rfl), grow _ _⟩
      by_cases h2 : 6 < e.kind
      · go_wp2_with fail
        go_ret
        exact ⟨ret_bool (by rw [hm.out, decide_eq_false (by omega)]; rfl), grow _ _⟩
      rw [decide_eq_true (show 1 ≤ e.kind ∧ e.kind ≤ 6 by omega), Bool.true_and] at hm
      by_cases h3 : 8 < (e.vals.length : Int)
      · go_wp2_with fail
        go_ret
        exact ⟨ret_bool (by rw [hm.out, decide_eq_false (by omega)]; rfl), grow _ _⟩
      rw [decide_eq_true (show (e.vals.length : Int) ≤ 8 by omega), Bool.true_and] at hm
      go_wp2_with fail
      refine (I0.out _).mono ?_
      rintro e w' ⟨rfl, rfl⟩
      cases b0
      · go_wp2_with fail
        go_ret
        exact ⟨ret_bool (by rw [hm.out]; rfl), grow _ _⟩
      go_wp2_with fail
      refine (I1.out _).mono ?_
      rintro e w' ⟨rfl, rfl⟩
      cases b1
      · go_wp2_with fail
        go_ret
        exact ⟨ret_bool (by rw [hm.out]; rfl), grow _ _⟩
      go_wp2_with fail
      refine (I2.out _).mono ?_
      rintro e w' ⟨rfl, rfl⟩
      cases b2
      · go_wp2_with fail
        go_ret
        exact ⟨ret_bool (by rw [hm.out]; rfl), grow _ _⟩
      go_wp2_with fail
      refine (I3.out _).mono ?_
      rintro e w' ⟨rfl, rfl⟩
      cases b3
      · go_wp2_with fail
        go_ret
        exact ⟨ret_bool (by rw [hm.out]; rfl), grow _ _⟩
      go_wp2_with fail
      refine (I4.out _).mono ?_
      rintro e w' ⟨rfl, rfl⟩
      cases b4
      · go_wp2_with fail
        go_ret
        exact ⟨ret_bool (by rw [hm.out]; rfl), grow _ _⟩
      · go_wp2_with fail
        go_ret
        exact ⟨ret_bool (by rw [hm.out]; rfl), grow _ _⟩
end Go.Proofs.Ytcfjefngfmnmaaa.C22
