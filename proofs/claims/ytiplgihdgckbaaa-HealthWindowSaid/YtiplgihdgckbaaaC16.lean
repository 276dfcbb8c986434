/- What the functions of the package health return, whatever counts they are handed; and what the reference's do. -/
import Derived.Test.YtiplgihdgckbaaaC01
import Derived.Test.YtiplgihdgckbaaaR01B
import Derived.Test.YtiplgihdgckbaaaEq
import Derived.Deep.RegionHeld3
import Derived.ChangeAlike
import Derived.Deep.QuietTactic
import Derived.BigQuiet
namespace Go.Proofs.Ytiplgihdgckbaaa.C16
open Go.RowKit Go.Proofs.Ytiplgihdgckbaaa
set_option linter.unusedVariables false
set_option linter.unusedSimpArgs false
set_option linter.unnecessarySimpa false
attribute [local go_sem] C01.max2_mx C01.min2_mn C01.max_two C01.min_two
theorem hid {p : Prop} (h : p) : Hid p := h
theorem ret_int {k : IntKind} {a b : Int} (h : a = b) : Ending.returned (.int k a) = .returned (.int k b) := by rw [h]
theorem ret_bool {a b : Bool} (h : a = b) : Ending.returned (.bool a) = .returned (.bool b) := by rw [h]
theorem via {W w w' : World} (hb : Below W.heap.size W w) (hl : Below w.heap.size w w') : Below W.heap.size W w' := hb.trans (hl.mono hb.size)
theorem cell_of {w w' : World} (h : Below w.heap.size w w') {p : Addr} {v : Value} (hc : w.cell? p = some v) : w'.cell? p = some v := (h.cell (World.block_lt_of_cell? w p hc)).trans hc
theorem quiet (w : World) : Below w.heap.size w w.drew := (Below.refl _ _).drew
theorem quietN {B : Nat} {a w : World} (h : Below B a w) (n : Nat) : Below B a (w.drewN n) := ⟨h.os, h.tape, h.output, h.size, h.block⟩
/-- A number of 64 bits. -/
abbrev U (n : Int) : Prop := 0 ≤ n ∧ n ≤ 18446744073709551615
abbrev I (n : Int) : Prop := -9223372036854775808 ≤ n ∧ n ≤ 9223372036854775807
def err (b c d : Int) : Int := Sat.sum [b, c, d]
def vol (a b c d : Int) : Int := Sat.add a (err b c d)
theorem three {a b c : Int} (h : U a) (h2 : U b) (h3 : U c) : ∀ x ∈ [a, b, c], 0 ≤ x ∧ x < 18446744073709551616 := by
  intro x hx
  simp at hx
  rcases hx with rfl | rfl | rfl <;> omega
theorem err_in {b c d : Int} (h : U b) (h2 : U c) (h3 : U d) : U (err b c d) := by
  have := Sat.sum_in (l := [b, c, d]) (fun x hx => (three h h2 h3 x hx).1)
  unfold err; omega
theorem vol_in {a b c d : Int} (h0 : U a) (h : U b) (h2 : U c) (h3 : U d) : U (vol a b c d) := by
  have := Sat.add_in h0.1 (err_in h h2 h3).1
  unfold vol; omega
theorem wf_u64 {n : Int} (h0 : U n) : (Lit.int .u64 n).wf = true := WalkArith.wf_u64 (by omega)
/-- Two arrays of five are compared. -/
theorem eq5 {a0 a1 a2 a3 a4 b0 b1 b2 b3 b4 : Int} (ha : U a0 ∧ U a1 ∧ U a2 ∧ U a3 ∧ U a4) (hb : U b0 ∧ U b1 ∧ U b2 ∧ U b3 ∧ U b4) (r : Bool)
    (hr : r = true ↔ a0 = b0 ∧ a1 = b1 ∧ a2 = b2 ∧ a3 = b3 ∧ a4 = b4) (w : World) :
    Sem.run Try.prog (Op.equalIn 10000 23 (.agg #[.int .u64 a0, .int .u64 a1, .int .u64 a2, .int .u64 a3, .int .u64 a4]) (.agg #[.int .u64 b0, .int .u64 b1, .int .u64 b2, .int .u64 b3, .int .u64 b4])) w = .ok r w := by
  have hl : ∀ {a0 a1 a2 a3 a4 : Int}, U a0 ∧ U a1 ∧ U a2 ∧ U a3 ∧ U a4 →
      Opn.LitOk [.int .u64, .int .u64, .int .u64, .int .u64, .int .u64] (#[Value.int .u64 a0, .int .u64 a1, .int .u64 a2, .int .u64 a3, .int .u64 a4]).toList [.int .u64 a0, .int .u64 a1, .int .u64 a2, .int .u64 a3, .int .u64 a4] := by
    rintro a0 a1 a2 a3 a4 ⟨h0, h1, h2, h3, h4⟩
    exact ⟨_, _, _, _, rfl, rfl, ⟨_, rfl, rfl, wf_u64 h0⟩, _, _, _, _, rfl, rfl, ⟨_, rfl, rfl, wf_u64 h1⟩, _, _, _, _, rfl, rfl, ⟨_, rfl, rfl, wf_u64 h2⟩, _, _, _, _, rfl, rfl, ⟨_, rfl, rfl, wf_u64 h3⟩, _, _, _, _, rfl, rfl, ⟨_, rfl, rfl, wf_u64 h4⟩, rfl, rfl⟩
  exact Opn.eq_run (ls := [.int .u64, .int .u64, .int .u64, .int .u64, .int .u64]) 9997 3 10000 (by rfl) (by kernel_rfl) (by kernel_rfl) (by kernel_rfl) (by kernel_rfl) (hl ha) (hl hb) r (by rw [hr]; simp) w
theorem errors_calls (a b c d e0 : Int) (h1 : U b) (h2 : U c) (h3 : U d) (w : World) :
    Calls Try.prog 12 #[.agg #[.int .u64 a, .int .u64 b, .int .u64 c, .int .u64 d, .int .u64 e0]] w fun e w' => e = .returned (.int .u64 (err b c d)) ∧ Below w.heap.size w w' := by
  go_enter Try.func12, Try.ntmps12
  go_wp2_with fail
  refine (C01.sum_calls [b, c, d] (some ⟨_, 0, none⟩) 3 _ (by simp) (three h1 h2 h3) ?_).mono ?_
  · refine .inr ⟨_, _, rfl, ?_⟩
    intro i hi
    match i, hi with
    | 0, _ => simp [go_sem]
    | 1, _ => simp [go_sem]
    | 2, _ => simp [go_sem]
  rintro e w' ⟨rfl, rfl⟩
  go_wp2_with fail
  go_ret
  exact ⟨rfl, ((Below.refl _ _).alloc (Nat.le_refl _) _).alloc (by simp) _⟩
theorem rerrors_calls (a b c d e0 : Int) (h1 : U b) (h2 : U c) (h3 : U d) (w : World) :
    Calls Try.prog 13 #[.agg #[.int .u64 a, .int .u64 b, .int .u64 c, .int .u64 d, .int .u64 e0]] w fun e w' => e = .returned (.int .u64 (err b c d)) ∧ Below w.heap.size w w' := by
  go_enter Try.func13, Try.ntmps13
  go_wp2_with fail
  refine (C01.rsum_calls [b, c, d] (some ⟨_, 0, none⟩) 3 _ (by simp) (three h1 h2 h3) ?_).mono ?_
  · refine .inr ⟨_, _, rfl, ?_⟩
    intro i hi
    match i, hi with
    | 0, _ => simp [go_sem]
    | 1, _ => simp [go_sem]
    | 2, _ => simp [go_sem]
  rintro e w' ⟨rfl, rfl⟩
  go_wp2_with fail
  go_ret
  exact ⟨rfl, ((Below.refl _ _).alloc (Nat.le_refl _) _).alloc (by simp) _⟩
set_option maxHeartbeats 400000 in
theorem volume_calls (a b c d e0 : Int) (h0 : U a) (h1 : U b) (h2 : U c) (h3 : U d) (w : World) :
    Calls Try.prog 14 #[.agg #[.int .u64 a, .int .u64 b, .int .u64 c, .int .u64 d, .int .u64 e0]] w fun e w' => e = .returned (.int .u64 (vol a b c d)) ∧ Below w.heap.size w w' := by
  have hE := hid (errors_calls a b c d e0 h1 h2 h3)
  have hx := err_in h1 h2 h3
  have hA := hid (C01.add_calls a (err b c d) h0.1 (by omega) hx.1 (by omega))
  have keepS := hid (fun (w1 w2 : World) (hS : Below w.heap.size w w1 ∧ w1.cell? ⟨w.heap.size, 0, none⟩ = some (.int .u64 a) ∧ w1.cell? ⟨w.heap.size, 1, none⟩ = some (.int .u64 b) ∧ w1.cell? ⟨w.heap.size, 2, none⟩ = some (.int .u64 c) ∧ w1.cell? ⟨w.heap.size, 3, none⟩ = some (.int .u64 d) ∧ w1.cell? ⟨w.heap.size, 4, none⟩ = some (.int .u64 e0)) (hl : Below w1.heap.size w1 w2) =>
    (show Below w.heap.size w w2 ∧ w2.cell? ⟨w.heap.size, 0, none⟩ = some (.int .u64 a) ∧ w2.cell? ⟨w.heap.size, 1, none⟩ = some (.int .u64 b) ∧ w2.cell? ⟨w.heap.size, 2, none⟩ = some (.int .u64 c) ∧ w2.cell? ⟨w.heap.size, 3, none⟩ = some (.int .u64 d) ∧ w2.cell? ⟨w.heap.size, 4, none⟩ = some (.int .u64 e0) from ⟨via hS.1 hl, cell_of hl hS.2.1, cell_of hl hS.2.2.1, cell_of hl hS.2.2.2.1, cell_of hl hS.2.2.2.2.1, cell_of hl hS.2.2.2.2.2⟩))
  unfold vol
  generalize err b c d = x at *
  go_enter Try.func14, Try.ntmps14
  go_wp2_with fail
  go_region_held3 (fun w' => Below w.heap.size w w' ∧ w'.cell? ⟨w.heap.size, 0, none⟩ = some (.int .u64 a) ∧ w'.cell? ⟨w.heap.size, 1, none⟩ = some (.int .u64 b) ∧ w'.cell? ⟨w.heap.size, 2, none⟩ = some (.int .u64 c) ∧ w'.cell? ⟨w.heap.size, 3, none⟩ = some (.int .u64 d) ∧ w'.cell? ⟨w.heap.size, 4, none⟩ = some (.int .u64 e0)) (first | exact keepS.out _ _ ⟨(Below.refl _ _).alloc (Nat.le_refl _) _, by simp [go_sem]⟩ (quiet _) | exact keepS.out _ _ (by assumption) (by assumption) | assumption)
    (first
    | (go_at_call 12; refine (hE.out _).mono ?_; rintro e w' ⟨rfl, hl⟩)
    | (go_at_call 26; refine (hA.out _).mono ?_; rintro e w' ⟨rfl, rfl⟩))
  all_goals
    rename_i hHeld
    go_wp2_with fail
    go_ret
    exact ⟨rfl, hHeld.1⟩
set_option maxHeartbeats 400000 in
theorem rvolume_calls (a b c d e0 : Int) (h0 : U a) (h1 : U b) (h2 : U c) (h3 : U d) (w : World) :
    Calls Try.prog 15 #[.agg #[.int .u64 a, .int .u64 b, .int .u64 c, .int .u64 d, .int .u64 e0]] w fun e w' => e = .returned (.int .u64 (vol a b c d)) ∧ Below w.heap.size w w' := by
  have hE := hid (rerrors_calls a b c d e0 h1 h2 h3)
  have hx := err_in h1 h2 h3
  have hA := hid (C01.radd_calls a (err b c d) h0.1 (by omega) hx.1 (by omega))
  have keepS := hid (fun (w1 w2 : World) (hS : Below w.heap.size w w1 ∧ w1.cell? ⟨w.heap.size, 0, none⟩ = some (.int .u64 a) ∧ w1.cell? ⟨w.heap.size, 1, none⟩ = some (.int .u64 b) ∧ w1.cell? ⟨w.heap.size, 2, none⟩ = some (.int .u64 c) ∧ w1.cell? ⟨w.heap.size, 3, none⟩ = some (.int .u64 d) ∧ w1.cell? ⟨w.heap.size, 4, none⟩ = some (.int .u64 e0)) (hl : Below w1.heap.size w1 w2) =>
    (show Below w.heap.size w w2 ∧ w2.cell? ⟨w.heap.size, 0, none⟩ = some (.int .u64 a) ∧ w2.cell? ⟨w.heap.size, 1, none⟩ = some (.int .u64 b) ∧ w2.cell? ⟨w.heap.size, 2, none⟩ = some (.int .u64 c) ∧ w2.cell? ⟨w.heap.size, 3, none⟩ = some (.int .u64 d) ∧ w2.cell? ⟨w.heap.size, 4, none⟩ = some (.int .u64 e0) from ⟨via hS.1 hl, cell_of hl hS.2.1, cell_of hl hS.2.2.1, cell_of hl hS.2.2.2.1, cell_of hl hS.2.2.2.2.1, cell_of hl hS.2.2.2.2.2⟩))
  unfold vol
  generalize err b c d = x at *
  go_enter Try.func15, Try.ntmps15
  go_wp2_with fail
  go_region_held3 (fun w' => Below w.heap.size w w' ∧ w'.cell? ⟨w.heap.size, 0, none⟩ = some (.int .u64 a) ∧ w'.cell? ⟨w.heap.size, 1, none⟩ = some (.int .u64 b) ∧ w'.cell? ⟨w.heap.size, 2, none⟩ = some (.int .u64 c) ∧ w'.cell? ⟨w.heap.size, 3, none⟩ = some (.int .u64 d) ∧ w'.cell? ⟨w.heap.size, 4, none⟩ = some (.int .u64 e0)) (first | exact keepS.out _ _ ⟨(Below.refl _ _).alloc (Nat.le_refl _) _, by simp [go_sem]⟩ (quiet _) | exact keepS.out _ _ (by assumption) (by assumption) | assumption)
    (first
    | (go_at_call 13; refine (hE.out _).mono ?_; rintro e w' ⟨rfl, hl⟩)
    | (go_at_call 27; refine (hA.out _).mono ?_; rintro e w' ⟨rfl, rfl⟩))
  all_goals
    rename_i hHeld
    go_wp2_with fail
    go_ret
    exact ⟨rfl, hHeld.1⟩
/-- Does a breaker open, of V calls at least and P of a hundred? -/
def opens (a b c d V P : Int) : Bool := decide (Sat.mx V 1 ≤ vol a b c d) && Sat.atl (err b c d) (vol a b c d) P
theorem sat_zero : vol 0 0 0 0 = 0 := by decide
set_option maxHeartbeats 1000000 in
theorem opens_core (a b c d e0 x v m : Int) (q z r : Bool) (F : Nat → Int) (hx : U x) (hv : U v) (hm : Sat.mx (F 8) 1 = m) (m1 : 1 ≤ m) (m2 : m ≤ 9223372036854775807) (w : World)
    (hV8 : I (F 8)) (hV9 : I (F 9))
    (heq : ∀ w, Sem.run Try.prog (Op.equalIn 10000 23 (.agg #[.int .u64 a, .int .u64 b, .int .u64 c, .int .u64 d, .int .u64 e0]) (.agg #[.int .u64 0, .int .u64 0, .int .u64 0, .int .u64 0, .int .u64 0])) w = .ok z w)
    (hE : Hid (∀ w, Calls Try.prog 12 #[.agg #[.int .u64 a, .int .u64 b, .int .u64 c, .int .u64 d, .int .u64 e0]] w fun e w' => e = .returned (.int .u64 x) ∧ Below w.heap.size w w'))
    (hV : Hid (∀ w, Calls Try.prog 14 #[.agg #[.int .u64 a, .int .u64 b, .int .u64 c, .int .u64 d, .int .u64 e0]] w fun e w' => e = .returned (.int .u64 v) ∧ Below w.heap.size w w'))
    (hA : Hid (∀ w, Calls Try.prog 28 #[.int .u64 x, .int .u64 v, .int .i64 (F 9)] w fun e w' => e = .returned (.bool q) ∧ w = w'))
    (hr : z = true ∧ r = false ∨ z = false ∧ (m ≤ v ∧ r = q ∨ v < m ∧ r = false)) :
    Calls Try.prog 16 #[.agg #[.int .u64 a, .int .u64 b, .int .u64 c, .int .u64 d, .int .u64 e0], .agg #[.int .i64 (F 0), .int .i64 (F 1), .int .i64 (F 2), .int .i64 (F 3), .int .i64 (F 4), .int .i64 (F 5), .int .u64 (F 6), .int .u64 (F 7), .int .i64 (F 8), .int .i64 (F 9), .int .u64 (F 10), .int .i64 (F 11), .int .u64 (F 12), .int .u64 (F 13), .int .i64 (F 14), .int .i64 (F 15)]] w fun e w' => e = .returned (.bool r) ∧ Below w.heap.size w w' := by
  have hw : IntKind.u64.wrap m = m := Sat.u64_in (by omega) (by omega)
  have keepS := hid (fun (w1 w2 : World) (hS : Below w.heap.size w w1 ∧ (w1.cell? ⟨w.heap.size, 0, none⟩ = some (.int .u64 a) ∧ w1.cell? ⟨w.heap.size, 1, none⟩ = some (.int .u64 b) ∧ w1.cell? ⟨w.heap.size, 2, none⟩ = some (.int .u64 c) ∧ w1.cell? ⟨w.heap.size, 3, none⟩ = some (.int .u64 d) ∧ w1.cell? ⟨w.heap.size, 4, none⟩ = some (.int .u64 e0)) ∧ w1.cell? ⟨w.heap.size + 1, 8, none⟩ = some (.int .i64 (F 8)) ∧ w1.cell? ⟨w.heap.size + 1, 9, none⟩ = some (.int .i64 (F 9))) (hl : Below w1.heap.size w1 w2) =>
    (show Below w.heap.size w w2 ∧ (w2.cell? ⟨w.heap.size, 0, none⟩ = some (.int .u64 a) ∧ w2.cell? ⟨w.heap.size, 1, none⟩ = some (.int .u64 b) ∧ w2.cell? ⟨w.heap.size, 2, none⟩ = some (.int .u64 c) ∧ w2.cell? ⟨w.heap.size, 3, none⟩ = some (.int .u64 d) ∧ w2.cell? ⟨w.heap.size, 4, none⟩ = some (.int .u64 e0)) ∧ w2.cell? ⟨w.heap.size + 1, 8, none⟩ = some (.int .i64 (F 8)) ∧ w2.cell? ⟨w.heap.size + 1, 9, none⟩ = some (.int .i64 (F 9)) from ⟨via hS.1 hl, ⟨cell_of hl hS.2.1.1, cell_of hl hS.2.1.2.1, cell_of hl hS.2.1.2.2.1, cell_of hl hS.2.1.2.2.2.1, cell_of hl hS.2.1.2.2.2.2⟩, cell_of hl hS.2.2.1, cell_of hl hS.2.2.2⟩))
  rcases hr with ⟨rfl, rfl⟩ | ⟨rfl, ⟨hd, rfl⟩ | ⟨hd, rfl⟩⟩
  · go_enter Try.func16, Try.ntmps16
    go_wp2_with fail
    go_ret
    exact ⟨rfl, ((Below.refl _ _).alloc (Nat.le_refl _) _).alloc (by simp) _⟩
  · go_enter Try.func16, Try.ntmps16
    go_wp2_with fail
    refine (hV.out _).mono ?_
    rintro e w1 ⟨rfl, hb⟩
    have hS1 := keepS.out _ _ ⟨((Below.refl _ _).alloc (Nat.le_refl _) _).alloc (by simp) _, by simp [go_sem]⟩ hb
    clear hb
    go_wp2_with fail
    go_region_held3 (fun w' => Below w.heap.size w w' ∧ (w'.cell? ⟨w.heap.size, 0, none⟩ = some (.int .u64 a) ∧ w'.cell? ⟨w.heap.size, 1, none⟩ = some (.int .u64 b) ∧ w'.cell? ⟨w.heap.size, 2, none⟩ = some (.int .u64 c) ∧ w'.cell? ⟨w.heap.size, 3, none⟩ = some (.int .u64 d) ∧ w'.cell? ⟨w.heap.size, 4, none⟩ = some (.int .u64 e0)) ∧ w'.cell? ⟨w.heap.size + 1, 8, none⟩ = some (.int .i64 (F 8)) ∧ w'.cell? ⟨w.heap.size + 1, 9, none⟩ = some (.int .i64 (F 9))) (first | exact keepS.out _ _ hS1 (quiet _) | exact keepS.out _ _ (by assumption) (by assumption) | assumption)
      (first
      | (go_at_call 12; refine (hE.out _).mono ?_; rintro e w' ⟨rfl, hl⟩)
      | (go_at_call 28; refine (hA.out _).mono ?_; rintro e w' ⟨rfl, rfl⟩))
    all_goals
      rename_i hHeld
      go_wp2_with fail
      go_ret
      exact ⟨ret_bool (by simp), hHeld.1⟩
  · have hd2 := decide_eq_false (Int.not_le.2 hd)
    go_enter Try.func16, Try.ntmps16
    go_wp2_with fail
    refine (hV.out _).mono ?_
    rintro e w1 ⟨rfl, hb⟩
    have hS1 := keepS.out _ _ ⟨((Below.refl _ _).alloc (Nat.le_refl _) _).alloc (by simp) _, by simp [go_sem]⟩ hb
    clear hb
    go_wp2_with fail
    obtain ⟨hbl, ⟨k0, k1, k2, k3, k4⟩, k8, k9⟩ := hS1
    go_quiet (fail)
    go_wp2_with fail
    go_ret
    exact ⟨ret_bool (by simp), quietN hbl _⟩
theorem mx_in {V : Int} (h : I V) : 1 ≤ Sat.mx V 1 ∧ Sat.mx V 1 ≤ 9223372036854775807 := by unfold Sat.mx; split <;> omega
theorem opens_parts {a b c d e0 V P : Int} (h0 : U a) (h1 : U b) (h2 : U c) (h3 : U d) (z : Bool) (hz : z = true ↔ a = 0 ∧ b = 0 ∧ c = 0 ∧ d = 0 ∧ e0 = 0) :
    z = true ∧ opens a b c d V P = false ∨ z = false ∧ (Sat.mx V 1 ≤ vol a b c d ∧ opens a b c d V P = Sat.atl (err b c d) (vol a b c d) P ∨ vol a b c d < Sat.mx V 1 ∧ opens a b c d V P = false) := by
  have hv := vol_in h0 h1 h2 h3
  by_cases hd : Sat.mx V 1 ≤ vol a b c d
  · refine .inr ⟨?_, .inl ⟨hd, ?_⟩⟩
    · cases z with
      | false => rfl
      | true =>
        obtain ⟨rfl, rfl, rfl, rfl, _⟩ := hz.1 rfl
        rw [sat_zero] at hd
        have := (Sat.mx_ge V 1).2
        omega
    · unfold opens; rw [decide_eq_true hd]; rfl
  · have ho : opens a b c d V P = false := by unfold opens; rw [decide_eq_false hd]; rfl
    cases z with
    | true => exact .inl ⟨rfl, ho⟩
    | false => exact .inr ⟨rfl, .inr ⟨by omega, ho⟩⟩
theorem opens_calls (a b c d e0 : Int) (h0 : U a) (h1 : U b) (h2 : U c) (h3 : U d) (h4 : U e0) (F : Nat → Int) (hV : I (F 8)) (hP : I (F 9)) (w : World) :
    Calls Try.prog 16 #[.agg #[.int .u64 a, .int .u64 b, .int .u64 c, .int .u64 d, .int .u64 e0], .agg #[.int .i64 (F 0), .int .i64 (F 1), .int .i64 (F 2), .int .i64 (F 3), .int .i64 (F 4), .int .i64 (F 5), .int .u64 (F 6), .int .u64 (F 7), .int .i64 (F 8), .int .i64 (F 9), .int .u64 (F 10), .int .i64 (F 11), .int .u64 (F 12), .int .u64 (F 13), .int .i64 (F 14), .int .i64 (F 15)]] w fun e w' => e = .returned (.bool (opens a b c d (F 8) (F 9))) ∧ Below w.heap.size w w' := by
  have hx := err_in h1 h2 h3
  have hv := vol_in h0 h1 h2 h3
  have hm := mx_in hV
  have hz : decide (a = 0 ∧ b = 0 ∧ c = 0 ∧ d = 0 ∧ e0 = 0) = true ↔ a = 0 ∧ b = 0 ∧ c = 0 ∧ d = 0 ∧ e0 = 0 := decide_eq_true_iff
  exact opens_core a b c d e0 (err b c d) (vol a b c d) (Sat.mx (F 8) 1) _ _ _ F hx hv rfl hm.1 hm.2 w hV hP (eq5 ⟨h0, h1, h2, h3, h4⟩ ⟨by omega, by omega, by omega, by omega, by omega⟩ _ hz) (hid (errors_calls a b c d e0 h1 h2 h3)) (hid (volume_calls a b c d e0 h0 h1 h2 h3)) (hid fun w => C01.atLeast_calls _ _ _ hx.1 (by omega) hv.1 (by omega) hP.1 hP.2 w) (opens_parts h0 h1 h2 h3 _ hz)
set_option maxHeartbeats 1000000 in
theorem ropens_core (a b c d e0 x v m : Int) (q r : Bool) (F : Nat → Int) (hx : U x) (hv : U v) (hm : 1 < F 8 ∧ F 8 = m ∨ F 8 ≤ 1 ∧ m = 1) (w : World)
    (hV8 : I (F 8)) (hV9 : I (F 9))
    (hE : Hid (∀ w, Calls Try.prog 13 #[.agg #[.int .u64 a, .int .u64 b, .int .u64 c, .int .u64 d, .int .u64 e0]] w fun e w' => e = .returned (.int .u64 x) ∧ Below w.heap.size w w'))
    (hV : Hid (∀ w, Calls Try.prog 15 #[.agg #[.int .u64 a, .int .u64 b, .int .u64 c, .int .u64 d, .int .u64 e0]] w fun e w' => e = .returned (.int .u64 v) ∧ Below w.heap.size w w'))
    (hA : Hid (∀ w, Calls Try.prog 29 #[.int .u64 x, .int .u64 v, .int .i64 (F 9)] w fun e w' => e = .returned (.bool q) ∧ w = w'))
    (hr : m ≤ v ∧ r = q ∨ v < m ∧ r = false) :
    Calls Try.prog 17 #[.agg #[.int .u64 a, .int .u64 b, .int .u64 c, .int .u64 d, .int .u64 e0], .agg #[.int .i64 (F 0), .int .i64 (F 1), .int .i64 (F 2), .int .i64 (F 3), .int .i64 (F 4), .int .i64 (F 5), .int .u64 (F 6), .int .u64 (F 7), .int .i64 (F 8), .int .i64 (F 9), .int .u64 (F 10), .int .i64 (F 11), .int .u64 (F 12), .int .u64 (F 13), .int .i64 (F 14), .int .i64 (F 15)]] w fun e w' => e = .returned (.bool r) ∧ Below w.heap.size w w' := by
  have keepS := hid (fun (w1 w2 : World) (hS : Below w.heap.size w w1 ∧ (w1.cell? ⟨w.heap.size, 0, none⟩ = some (.int .u64 a) ∧ w1.cell? ⟨w.heap.size, 1, none⟩ = some (.int .u64 b) ∧ w1.cell? ⟨w.heap.size, 2, none⟩ = some (.int .u64 c) ∧ w1.cell? ⟨w.heap.size, 3, none⟩ = some (.int .u64 d) ∧ w1.cell? ⟨w.heap.size, 4, none⟩ = some (.int .u64 e0)) ∧ w1.cell? ⟨w.heap.size + 1, 8, none⟩ = some (.int .i64 (F 8)) ∧ w1.cell? ⟨w.heap.size + 1, 9, none⟩ = some (.int .i64 (F 9))) (hl : Below w1.heap.size w1 w2) =>
    (show Below w.heap.size w w2 ∧ (w2.cell? ⟨w.heap.size, 0, none⟩ = some (.int .u64 a) ∧ w2.cell? ⟨w.heap.size, 1, none⟩ = some (.int .u64 b) ∧ w2.cell? ⟨w.heap.size, 2, none⟩ = some (.int .u64 c) ∧ w2.cell? ⟨w.heap.size, 3, none⟩ = some (.int .u64 d) ∧ w2.cell? ⟨w.heap.size, 4, none⟩ = some (.int .u64 e0)) ∧ w2.cell? ⟨w.heap.size + 1, 8, none⟩ = some (.int .i64 (F 8)) ∧ w2.cell? ⟨w.heap.size + 1, 9, none⟩ = some (.int .i64 (F 9)) from ⟨via hS.1 hl, ⟨cell_of hl hS.2.1.1, cell_of hl hS.2.1.2.1, cell_of hl hS.2.1.2.2.1, cell_of hl hS.2.1.2.2.2.1, cell_of hl hS.2.1.2.2.2.2⟩, cell_of hl hS.2.2.1, cell_of hl hS.2.2.2⟩))
  rcases hm with ⟨hm1, rfl⟩ | ⟨hm1, rfl⟩
  · have hw : IntKind.u64.wrap (F 8) = F 8 := Sat.u64_in (by omega) (by omega)
    rcases hr with ⟨hd, rfl⟩ | ⟨hd, rfl⟩
    · go_enter Try.func17, Try.ntmps17
      go_wp2_with fail
      refine (hV.out _).mono ?_
      rintro e w1 ⟨rfl, hb⟩
      have hS1 := keepS.out _ _ ⟨((Below.refl _ _).alloc (Nat.le_refl _) _).alloc (by simp) _, by simp [go_sem]⟩ hb
      clear hb
      go_wp2_with fail
      go_region_held3 (fun w' => Below w.heap.size w w' ∧ (w'.cell? ⟨w.heap.size, 0, none⟩ = some (.int .u64 a) ∧ w'.cell? ⟨w.heap.size, 1, none⟩ = some (.int .u64 b) ∧ w'.cell? ⟨w.heap.size, 2, none⟩ = some (.int .u64 c) ∧ w'.cell? ⟨w.heap.size, 3, none⟩ = some (.int .u64 d) ∧ w'.cell? ⟨w.heap.size, 4, none⟩ = some (.int .u64 e0)) ∧ w'.cell? ⟨w.heap.size + 1, 8, none⟩ = some (.int .i64 (F 8)) ∧ w'.cell? ⟨w.heap.size + 1, 9, none⟩ = some (.int .i64 (F 9))) (first | exact keepS.out _ _ hS1 (quiet _) | exact keepS.out _ _ (by assumption) (by assumption) | assumption)
        (first
        | (go_at_call 13; refine (hE.out _).mono ?_; rintro e w' ⟨rfl, hl⟩)
        | (go_at_call 29; refine (hA.out _).mono ?_; rintro e w' ⟨rfl, rfl⟩))
      all_goals
        rename_i hHeld
        go_wp2_with fail
        go_ret
        exact ⟨ret_bool (by simp), hHeld.1⟩
    · have hd2 := decide_eq_false (Int.not_le.2 hd)
      go_enter Try.func17, Try.ntmps17
      go_wp2_with fail
      refine (hV.out _).mono ?_
      rintro e w1 ⟨rfl, hb⟩
      have hS1 := keepS.out _ _ ⟨((Below.refl _ _).alloc (Nat.le_refl _) _).alloc (by simp) _, by simp [go_sem]⟩ hb
      clear hb
      go_wp2_with fail
      obtain ⟨hbl, ⟨k0, k1, k2, k3, k4⟩, k8, k9⟩ := hS1
      go_quiet (fail)
      go_wp2_with fail
      go_ret
      exact ⟨ret_bool (by simp), quietN hbl _⟩
  · rcases hr with ⟨hd, rfl⟩ | ⟨hd, rfl⟩
    · go_enter Try.func17, Try.ntmps17
      go_wp2_with fail
      refine (hV.out _).mono ?_
      rintro e w1 ⟨rfl, hb⟩
      have hS1 := keepS.out _ _ ⟨((Below.refl _ _).alloc (Nat.le_refl _) _).alloc (by simp) _, by simp [go_sem]⟩ hb
      clear hb
      go_wp2_with fail
      go_region_held3 (fun w' => Below w.heap.size w w' ∧ (w'.cell? ⟨w.heap.size, 0, none⟩ = some (.int .u64 a) ∧ w'.cell? ⟨w.heap.size, 1, none⟩ = some (.int .u64 b) ∧ w'.cell? ⟨w.heap.size, 2, none⟩ = some (.int .u64 c) ∧ w'.cell? ⟨w.heap.size, 3, none⟩ = some (.int .u64 d) ∧ w'.cell? ⟨w.heap.size, 4, none⟩ = some (.int .u64 e0)) ∧ w'.cell? ⟨w.heap.size + 1, 8, none⟩ = some (.int .i64 (F 8)) ∧ w'.cell? ⟨w.heap.size + 1, 9, none⟩ = some (.int .i64 (F 9))) (first | exact keepS.out _ _ hS1 (quiet _) | exact keepS.out _ _ (by assumption) (by assumption) | assumption)
        (first
        | (go_at_call 13; refine (hE.out _).mono ?_; rintro e w' ⟨rfl, hl⟩)
        | (go_at_call 29; refine (hA.out _).mono ?_; rintro e w' ⟨rfl, rfl⟩))
      all_goals
        rename_i hHeld
        go_wp2_with fail
        go_ret
        exact ⟨ret_bool (by simp), hHeld.1⟩
    · have hd2 := decide_eq_false (Int.not_le.2 hd)
      go_enter Try.func17, Try.ntmps17
      go_wp2_with fail
      refine (hV.out _).mono ?_
      rintro e w1 ⟨rfl, hb⟩
      have hS1 := keepS.out _ _ ⟨((Below.refl _ _).alloc (Nat.le_refl _) _).alloc (by simp) _, by simp [go_sem]⟩ hb
      clear hb
      go_wp2_with fail
      obtain ⟨hbl, ⟨k0, k1, k2, k3, k4⟩, k8, k9⟩ := hS1
      go_quiet (fail)
      go_wp2_with fail
      go_ret
      exact ⟨ret_bool (by simp), quietN hbl _⟩
theorem ropens_calls (a b c d e0 : Int) (h0 : U a) (h1 : U b) (h2 : U c) (h3 : U d) (h4 : U e0) (F : Nat → Int) (hV : I (F 8)) (hP : I (F 9)) (w : World) :
    Calls Try.prog 17 #[.agg #[.int .u64 a, .int .u64 b, .int .u64 c, .int .u64 d, .int .u64 e0], .agg #[.int .i64 (F 0), .int .i64 (F 1), .int .i64 (F 2), .int .i64 (F 3), .int .i64 (F 4), .int .i64 (F 5), .int .u64 (F 6), .int .u64 (F 7), .int .i64 (F 8), .int .i64 (F 9), .int .u64 (F 10), .int .i64 (F 11), .int .u64 (F 12), .int .u64 (F 13), .int .i64 (F 14), .int .i64 (F 15)]] w fun e w' => e = .returned (.bool (opens a b c d (F 8) (F 9))) ∧ Below w.heap.size w w' := by
  have hx := err_in h1 h2 h3
  have hv := vol_in h0 h1 h2 h3
  have hm := mx_in hV
  refine ropens_core a b c d e0 (err b c d) (vol a b c d) (Sat.mx (F 8) 1) _ _ F hx hv ?_ w hV hP (hid (rerrors_calls a b c d e0 h1 h2 h3)) (hid (rvolume_calls a b c d e0 h0 h1 h2 h3)) (hid fun w => C01.ratLeast_calls _ _ _ hx.1 (by omega) hv.1 (by omega) hP.1 hP.2 w) ?_
  · unfold Sat.mx; split <;> omega
  · unfold opens
    by_cases hd : Sat.mx (F 8) 1 ≤ vol a b c d
    · exact .inl ⟨hd, by rw [decide_eq_true hd]; rfl⟩
    · exact .inr ⟨by omega, by rw [decide_eq_false hd]; rfl⟩
end Go.Proofs.Ytiplgihdgckbaaa.C16
