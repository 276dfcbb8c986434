/- Take and Bound of the package conf; and the reference's functions. -/
import Derived.Test.YtnednhdbghkcnaaC08B
import Derived.Test.YtnednhdbghkcnaaR01
import Derived.Handy
namespace Go.Proofs.Ytnednhdbghkcnaa.C08
open Go.RowKit Go.Proofs.Ytnednhdbghkcnaa
set_option linter.unusedVariables false
set_option linter.unusedSimpArgs false
set_option linter.unnecessarySimpa false
attribute [local go_sem] C01.max2_mx C01.min2_mn C01.max_two C01.min_two
theorem lo_in (F : Nat → Int) (j : Nat) : I (lo F j) := by
  unfold lo
  split
  all_goals
    try unfold sel
    (repeat' split) <;> omega
theorem hi_in (F : Nat → Int) (j : Nat) : I (hi F j) := by
  unfold hi
  split
  all_goals
    try unfold sel
    (repeat' split) <;> omega
theorem check_calls (F : Nat → Int) (hF : ∀ j, I (put F j)) (w : World) :
    Calls Try.prog 10 #[.agg #[.int .i64 (F 0), .int .i64 (F 1), .int .i64 (F 2), .int .i64 (F 3), .int .i64 (F 4), .int .i64 (F 5), .int .u64 (F 6), .int .u64 (F 7), .int .i64 (F 8), .int .i64 (F 9), .int .u64 (F 10), .int .i64 (F 11), .int .u64 (F 12), .int .u64 (F 13), .int .i64 (F 14), .int .i64 (F 15)]] w fun e w' => e = .returned (.tuple #[.int .i64 (chk F : Nat), .int .i64 (errno (chk F))]) ∧ Below w.heap.size w w' :=
  check_core F (put F) (lo F) (hi F) (fine F) w (hid hF) (hid fun j => ⟨lo_in F j, hi_in F j⟩) (hid fun j => rfl) (hid (put_calls F)) (hid (may_calls F))
/-- Numbers as a configuration. -/
def ofn (G : Nat → Int) : Nat → Int
  | 6 => IntKind.u64.wrap (G 6) | 7 => IntKind.u64.wrap (G 7) | 10 => IntKind.u64.wrap (G 10) | 12 => IntKind.u64.wrap (G 12) | 13 => IntKind.u64.wrap (G 13) | n => G n
def zero : Nat → Int := fun _ => 0
theorem w64 {x : Int} (h : I x) : wrap64 (IntKind.u64.wrap x) = x := by go_arith
theorem put_ofn {G : Nat → Int} (hG : ∀ j, I (G j)) (j : Nat) : put (ofn G) j = G j := by
  unfold put
  split
  · exact w64 (hG 6)
  · exact w64 (hG 7)
  · exact w64 (hG 10)
  · exact w64 (hG 12)
  · exact w64 (hG 13)
  · rename_i n h6 h7 h10 h12 h13
    unfold ofn
    split <;> first | rfl | (exfalso; first | exact h6 rfl | exact h7 rfl | exact h10 rfl | exact h12 rfl | exact h13 rfl)
theorem put_ofn_in {G : Nat → Int} (hG : ∀ j, I (G j)) (j : Nat) : I (put (ofn G) j) := by rw [put_ofn hG]; exact hG j
theorem ret_ci2 {k k' : IntKind} {c : Value} {a b a' b' : Int} (h : a = a') (h2 : b = b') : Ending.returned (.tuple #[c, .int k a, .int k' b]) = .returned (.tuple #[c, .int k a', .int k' b']) := by rw [h, h2]
theorem range_set {w : World} {b : Nat} {cs : List Value} (h : w.rangeAt b 0 cs) (j : Nat) (v : Value) : (w.setCell ⟨b, j, none⟩ v).rangeAt b 0 (cs.set j v) := by
  intro i u hi
  rw [List.getElem?_set] at hi
  by_cases hij : j = i
  · subst hij
    rw [if_pos rfl] at hi
    split at hi
    · rename_i hlt
      injection hi with hi
      subst hi
      rw [Nat.zero_add]
      have := h j _ (List.getElem?_eq_getElem hlt)
      rw [Nat.zero_add] at this
      exact World.cell?_setCell_same _ _ _ this
    · cases hi
  · rw [if_neg hij] at hi
    rw [World.cell?_setCell_other _ _ _ _ (fun e => hij (by injection e with _ e _; omega))]
    exact h i u hi
theorem range_of {w : World} {b : Nat} {l l' : List Value} (h : w.rangeAt b 0 l) (e : l = l') : w.rangeAt b 0 l' := e ▸ h
theorem range_below {w w' : World} (hl : Below w.heap.size w w') {b : Nat} {cs : List Value} (h : w.rangeAt b 0 cs) : w'.rangeAt b 0 cs := fun j v hj => cell_of hl (h j v hj)
theorem take_res (cs : List Value) (B : Nat) (n m : Int) (hi : cs.length = 16) (w : World) (tmps : Array Value) (hr : w.rangeAt B 0 cs) (h2 : tmps[2]?.getD undef = .pointer (some ⟨B, 0, none⟩)) (h3 : tmps[3]?.getD undef = .int .i64 n) (h4 : tmps[4]?.getD undef = .int .i64 m) :
    (results Try.f16 tmps).run Try.prog w = .ok (.tuple #[.agg cs.toArray, .int .i64 n, .int .i64 m]) w := by
  have h16 : (Try.prog.info? 24).map (·.size) = some 16 := by kernel_rfl
  have hld := run_loadVar_mid (P := Try.prog) w B 0 24 cs _ hr Try.underlying24 rfl (by rw [hi]; exact h16)
  simp [results, Try.results16, Sem.run_bind, asAddr, hld, h2, h3, h4]
set_option maxRecDepth 20000 in
set_option maxHeartbeats 1000000 in
theorem take_ok (G : Nat → Int) (w : World)
    (hC : Hid (∀ w, Calls Try.prog 10 #[.agg #[.int .i64 (G 0), .int .i64 (G 1), .int .i64 (G 2), .int .i64 (G 3), .int .i64 (G 4), .int .i64 (G 5), .int .u64 (IntKind.u64.wrap (G 6)), .int .u64 (IntKind.u64.wrap (G 7)), .int .i64 (G 8), .int .i64 (G 9), .int .u64 (IntKind.u64.wrap (G 10)), .int .i64 (G 11), .int .u64 (IntKind.u64.wrap (G 12)), .int .u64 (IntKind.u64.wrap (G 13)), .int .i64 (G 14), .int .i64 (G 15)]] w fun e w' => e = .returned (.tuple #[.int .i64 0, .int .i64 0]) ∧ Below w.heap.size w w')) :
    Calls Try.prog 16 #[.agg #[.int .i64 (G 0), .int .i64 (G 1), .int .i64 (G 2), .int .i64 (G 3), .int .i64 (G 4), .int .i64 (G 5), .int .i64 (G 6), .int .i64 (G 7), .int .i64 (G 8), .int .i64 (G 9), .int .i64 (G 10), .int .i64 (G 11), .int .i64 (G 12), .int .i64 (G 13), .int .i64 (G 14), .int .i64 (G 15)]] w fun e w' => e = .returned (.tuple #[.agg #[.int .i64 ((ofn G) 0), .int .i64 ((ofn G) 1), .int .i64 ((ofn G) 2), .int .i64 ((ofn G) 3), .int .i64 ((ofn G) 4), .int .i64 ((ofn G) 5), .int .u64 ((ofn G) 6), .int .u64 ((ofn G) 7), .int .i64 ((ofn G) 8), .int .i64 ((ofn G) 9), .int .u64 ((ofn G) 10), .int .i64 ((ofn G) 11), .int .u64 ((ofn G) 12), .int .u64 ((ofn G) 13), .int .i64 ((ofn G) 14), .int .i64 ((ofn G) 15)], .int .i64 0, .int .i64 0]) ∧ Below w.heap.size w w' := by
  go_enter Try.func16, Try.ntmps16
  go_wp2_with fail
  refine (hC.out _).mono ?_
  rintro e w1 ⟨rfl, hl⟩
  have hb : Below w.heap.size w w1 := by
    refine via ?_ hl
    repeat (first | exact Below.refl _ _ | refine Below.setCell ?_ (by first | exact Nat.le_refl _ | (simp; try omega)) _ | refine Below.alloc ?_ (by (simp; try omega)) _)
  have hc : w1.cell? ⟨(w.heap.size + 1 + 1), 0, none⟩ = some (.int .i64 ((ofn G) 0)) ∧ w1.cell? ⟨(w.heap.size + 1 + 1), 1, none⟩ = some (.int .i64 ((ofn G) 1)) ∧ w1.cell? ⟨(w.heap.size + 1 + 1), 2, none⟩ = some (.int .i64 ((ofn G) 2)) ∧ w1.cell? ⟨(w.heap.size + 1 + 1), 3, none⟩ = some (.int .i64 ((ofn G) 3)) ∧ w1.cell? ⟨(w.heap.size + 1 + 1), 4, none⟩ = some (.int .i64 ((ofn G) 4)) ∧ w1.cell? ⟨(w.heap.size + 1 + 1), 5, none⟩ = some (.int .i64 ((ofn G) 5)) ∧ w1.cell? ⟨(w.heap.size + 1 + 1), 6, none⟩ = some (.int .u64 ((ofn G) 6)) ∧ w1.cell? ⟨(w.heap.size + 1 + 1), 7, none⟩ = some (.int .u64 ((ofn G) 7)) ∧ w1.cell? ⟨(w.heap.size + 1 + 1), 8, none⟩ = some (.int .i64 ((ofn G) 8)) ∧ w1.cell? ⟨(w.heap.size + 1 + 1), 9, none⟩ = some (.int .i64 ((ofn G) 9)) ∧ w1.cell? ⟨(w.heap.size + 1 + 1), 10, none⟩ = some (.int .u64 ((ofn G) 10)) ∧ w1.cell? ⟨(w.heap.size + 1 + 1), 11, none⟩ = some (.int .i64 ((ofn G) 11)) ∧ w1.cell? ⟨(w.heap.size + 1 + 1), 12, none⟩ = some (.int .u64 ((ofn G) 12)) ∧ w1.cell? ⟨(w.heap.size + 1 + 1), 13, none⟩ = some (.int .u64 ((ofn G) 13)) ∧ w1.cell? ⟨(w.heap.size + 1 + 1), 14, none⟩ = some (.int .i64 ((ofn G) 14)) ∧ w1.cell? ⟨(w.heap.size + 1 + 1), 15, none⟩ = some (.int .i64 ((ofn G) 15)) := by
    (repeat' apply And.intro) <;> exact cell_of hl (by simp [go_sem, ofn])
  have hr : w1.cell? ⟨(w.heap.size + 1), 0, none⟩ = some (.int .i64 (zero 0)) ∧ w1.cell? ⟨(w.heap.size + 1), 1, none⟩ = some (.int .i64 (zero 1)) ∧ w1.cell? ⟨(w.heap.size + 1), 2, none⟩ = some (.int .i64 (zero 2)) ∧ w1.cell? ⟨(w.heap.size + 1), 3, none⟩ = some (.int .i64 (zero 3)) ∧ w1.cell? ⟨(w.heap.size + 1), 4, none⟩ = some (.int .i64 (zero 4)) ∧ w1.cell? ⟨(w.heap.size + 1), 5, none⟩ = some (.int .i64 (zero 5)) ∧ w1.cell? ⟨(w.heap.size + 1), 6, none⟩ = some (.int .u64 (zero 6)) ∧ w1.cell? ⟨(w.heap.size + 1), 7, none⟩ = some (.int .u64 (zero 7)) ∧ w1.cell? ⟨(w.heap.size + 1), 8, none⟩ = some (.int .i64 (zero 8)) ∧ w1.cell? ⟨(w.heap.size + 1), 9, none⟩ = some (.int .i64 (zero 9)) ∧ w1.cell? ⟨(w.heap.size + 1), 10, none⟩ = some (.int .u64 (zero 10)) ∧ w1.cell? ⟨(w.heap.size + 1), 11, none⟩ = some (.int .i64 (zero 11)) ∧ w1.cell? ⟨(w.heap.size + 1), 12, none⟩ = some (.int .u64 (zero 12)) ∧ w1.cell? ⟨(w.heap.size + 1), 13, none⟩ = some (.int .u64 (zero 13)) ∧ w1.cell? ⟨(w.heap.size + 1), 14, none⟩ = some (.int .i64 (zero 14)) ∧ w1.cell? ⟨(w.heap.size + 1), 15, none⟩ = some (.int .i64 (zero 15)) := by
    (repeat' apply And.intro) <;> exact cell_of hl (by simp [go_sem, zero])
  have hf : ∀ i, w1.frozen? ⟨w.heap.size + 1, i, none⟩ = false := fun i => (hl.frozen (by simp)).trans (by simp [go_sem])
  obtain ⟨c0, c1, c2, c3, c4, c5, c6, c7, c8, c9, c10, c11, c12, c13, c14, c15⟩ := hc
  obtain ⟨r0, r1, r2, r3, r4, r5, r6, r7, r8, r9, r10, r11, r12, r13, r14, r15⟩ := hr
  have hR : Hid (w1.rangeAt (w.heap.size + 1) 0 [.int .i64 (zero 0), .int .i64 (zero 1), .int .i64 (zero 2), .int .i64 (zero 3), .int .i64 (zero 4), .int .i64 (zero 5), .int .u64 (zero 6), .int .u64 (zero 7), .int .i64 (zero 8), .int .i64 (zero 9), .int .u64 (zero 10), .int .i64 (zero 11), .int .u64 (zero 12), .int .u64 (zero 13), .int .i64 (zero 14), .int .i64 (zero 15)]) := by
    intro j v hj
    match j, hj with
    | 0, hj => cases hj; exact r0
    | 1, hj => cases hj; exact r1
    | 2, hj => cases hj; exact r2
    | 3, hj => cases hj; exact r3
    | 4, hj => cases hj; exact r4
    | 5, hj => cases hj; exact r5
    | 6, hj => cases hj; exact r6
    | 7, hj => cases hj; exact r7
    | 8, hj => cases hj; exact r8
    | 9, hj => cases hj; exact r9
    | 10, hj => cases hj; exact r10
    | 11, hj => cases hj; exact r11
    | 12, hj => cases hj; exact r12
    | 13, hj => cases hj; exact r13
    | 14, hj => cases hj; exact r14
    | 15, hj => cases hj; exact r15
    | n + 16, hj => cases hj
  have Hb := hid hb
  clear hb hl
  go_wp2_with fail
  refine bodyPost_ret (take_res [.int .i64 ((ofn G) 0), .int .i64 ((ofn G) 1), .int .i64 ((ofn G) 2), .int .i64 ((ofn G) 3), .int .i64 ((ofn G) 4), .int .i64 ((ofn G) 5), .int .u64 ((ofn G) 6), .int .u64 ((ofn G) 7), .int .i64 ((ofn G) 8), .int .i64 ((ofn G) 9), .int .u64 ((ofn G) 10), .int .i64 ((ofn G) 11), .int .u64 ((ofn G) 12), .int .u64 ((ofn G) 13), .int .i64 ((ofn G) 14), .int .i64 ((ofn G) 15)] (w.heap.size + 1) 0 0 rfl _ _ ?_ rfl rfl rfl) rfl ⟨rfl, ?_⟩
  · apply range_of
    · repeat (with_reducible first | exact hR.out | apply range_set)
    · exact rfl
  · repeat (with_reducible first | exact Hb.out | apply Below.setCell | exact Nat.le_add_right _ _)
set_option maxRecDepth 20000 in
set_option maxHeartbeats 1000000 in
theorem take_bad (G : Nat → Int) (n : Int) (w : World)
    (hC : Hid (∀ w, Calls Try.prog 10 #[.agg #[.int .i64 (G 0), .int .i64 (G 1), .int .i64 (G 2), .int .i64 (G 3), .int .i64 (G 4), .int .i64 (G 5), .int .u64 (IntKind.u64.wrap (G 6)), .int .u64 (IntKind.u64.wrap (G 7)), .int .i64 (G 8), .int .i64 (G 9), .int .u64 (IntKind.u64.wrap (G 10)), .int .i64 (G 11), .int .u64 (IntKind.u64.wrap (G 12)), .int .u64 (IntKind.u64.wrap (G 13)), .int .i64 (G 14), .int .i64 (G 15)]] w fun e w' => e = .returned (.tuple #[.int .i64 n, .int .i64 1]) ∧ Below w.heap.size w w')) :
    Calls Try.prog 16 #[.agg #[.int .i64 (G 0), .int .i64 (G 1), .int .i64 (G 2), .int .i64 (G 3), .int .i64 (G 4), .int .i64 (G 5), .int .i64 (G 6), .int .i64 (G 7), .int .i64 (G 8), .int .i64 (G 9), .int .i64 (G 10), .int .i64 (G 11), .int .i64 (G 12), .int .i64 (G 13), .int .i64 (G 14), .int .i64 (G 15)]] w fun e w' => e = .returned (.tuple #[.agg #[.int .i64 (zero 0), .int .i64 (zero 1), .int .i64 (zero 2), .int .i64 (zero 3), .int .i64 (zero 4), .int .i64 (zero 5), .int .u64 (zero 6), .int .u64 (zero 7), .int .i64 (zero 8), .int .i64 (zero 9), .int .u64 (zero 10), .int .i64 (zero 11), .int .u64 (zero 12), .int .u64 (zero 13), .int .i64 (zero 14), .int .i64 (zero 15)], .int .i64 n, .int .i64 1]) ∧ Below w.heap.size w w' := by
  go_enter Try.func16, Try.ntmps16
  go_wp2_with fail
  refine (hC.out _).mono ?_
  rintro e w1 ⟨rfl, hl⟩
  have hb : Below w.heap.size w w1 := by
    refine via ?_ hl
    repeat (first | exact Below.refl _ _ | refine Below.setCell ?_ (by first | exact Nat.le_refl _ | (simp; try omega)) _ | refine Below.alloc ?_ (by (simp; try omega)) _)
  have hc : w1.cell? ⟨(w.heap.size + 1 + 1), 0, none⟩ = some (.int .i64 ((ofn G) 0)) ∧ w1.cell? ⟨(w.heap.size + 1 + 1), 1, none⟩ = some (.int .i64 ((ofn G) 1)) ∧ w1.cell? ⟨(w.heap.size + 1 + 1), 2, none⟩ = some (.int .i64 ((ofn G) 2)) ∧ w1.cell? ⟨(w.heap.size + 1 + 1), 3, none⟩ = some (.int .i64 ((ofn G) 3)) ∧ w1.cell? ⟨(w.heap.size + 1 + 1), 4, none⟩ = some (.int .i64 ((ofn G) 4)) ∧ w1.cell? ⟨(w.heap.size + 1 + 1), 5, none⟩ = some (.int .i64 ((ofn G) 5)) ∧ w1.cell? ⟨(w.heap.size + 1 + 1), 6, none⟩ = some (.int .u64 ((ofn G) 6)) ∧ w1.cell? ⟨(w.heap.size + 1 + 1), 7, none⟩ = some (.int .u64 ((ofn G) 7)) ∧ w1.cell? ⟨(w.heap.size + 1 + 1), 8, none⟩ = some (.int .i64 ((ofn G) 8)) ∧ w1.cell? ⟨(w.heap.size + 1 + 1), 9, none⟩ = some (.int .i64 ((ofn G) 9)) ∧ w1.cell? ⟨(w.heap.size + 1 + 1), 10, none⟩ = some (.int .u64 ((ofn G) 10)) ∧ w1.cell? ⟨(w.heap.size + 1 + 1), 11, none⟩ = some (.int .i64 ((ofn G) 11)) ∧ w1.cell? ⟨(w.heap.size + 1 + 1), 12, none⟩ = some (.int .u64 ((ofn G) 12)) ∧ w1.cell? ⟨(w.heap.size + 1 + 1), 13, none⟩ = some (.int .u64 ((ofn G) 13)) ∧ w1.cell? ⟨(w.heap.size + 1 + 1), 14, none⟩ = some (.int .i64 ((ofn G) 14)) ∧ w1.cell? ⟨(w.heap.size + 1 + 1), 15, none⟩ = some (.int .i64 ((ofn G) 15)) := by
    (repeat' apply And.intro) <;> exact cell_of hl (by simp [go_sem, ofn])
  have hr : w1.cell? ⟨(w.heap.size + 1), 0, none⟩ = some (.int .i64 (zero 0)) ∧ w1.cell? ⟨(w.heap.size + 1), 1, none⟩ = some (.int .i64 (zero 1)) ∧ w1.cell? ⟨(w.heap.size + 1), 2, none⟩ = some (.int .i64 (zero 2)) ∧ w1.cell? ⟨(w.heap.size + 1), 3, none⟩ = some (.int .i64 (zero 3)) ∧ w1.cell? ⟨(w.heap.size + 1), 4, none⟩ = some (.int .i64 (zero 4)) ∧ w1.cell? ⟨(w.heap.size + 1), 5, none⟩ = some (.int .i64 (zero 5)) ∧ w1.cell? ⟨(w.heap.size + 1), 6, none⟩ = some (.int .u64 (zero 6)) ∧ w1.cell? ⟨(w.heap.size + 1), 7, none⟩ = some (.int .u64 (zero 7)) ∧ w1.cell? ⟨(w.heap.size + 1), 8, none⟩ = some (.int .i64 (zero 8)) ∧ w1.cell? ⟨(w.heap.size + 1), 9, none⟩ = some (.int .i64 (zero 9)) ∧ w1.cell? ⟨(w.heap.size + 1), 10, none⟩ = some (.int .u64 (zero 10)) ∧ w1.cell? ⟨(w.heap.size + 1), 11, none⟩ = some (.int .i64 (zero 11)) ∧ w1.cell? ⟨(w.heap.size + 1), 12, none⟩ = some (.int .u64 (zero 12)) ∧ w1.cell? ⟨(w.heap.size + 1), 13, none⟩ = some (.int .u64 (zero 13)) ∧ w1.cell? ⟨(w.heap.size + 1), 14, none⟩ = some (.int .i64 (zero 14)) ∧ w1.cell? ⟨(w.heap.size + 1), 15, none⟩ = some (.int .i64 (zero 15)) := by
    (repeat' apply And.intro) <;> exact cell_of hl (by simp [go_sem, zero])
  have hf : ∀ i, w1.frozen? ⟨w.heap.size + 1, i, none⟩ = false := fun i => (hl.frozen (by simp)).trans (by simp [go_sem])
  obtain ⟨c0, c1, c2, c3, c4, c5, c6, c7, c8, c9, c10, c11, c12, c13, c14, c15⟩ := hc
  obtain ⟨r0, r1, r2, r3, r4, r5, r6, r7, r8, r9, r10, r11, r12, r13, r14, r15⟩ := hr
  have hR : Hid (w1.rangeAt (w.heap.size + 1) 0 [.int .i64 (zero 0), .int .i64 (zero 1), .int .i64 (zero 2), .int .i64 (zero 3), .int .i64 (zero 4), .int .i64 (zero 5), .int .u64 (zero 6), .int .u64 (zero 7), .int .i64 (zero 8), .int .i64 (zero 9), .int .u64 (zero 10), .int .i64 (zero 11), .int .u64 (zero 12), .int .u64 (zero 13), .int .i64 (zero 14), .int .i64 (zero 15)]) := by
    intro j v hj
    match j, hj with
    | 0, hj => cases hj; exact r0
    | 1, hj => cases hj; exact r1
    | 2, hj => cases hj; exact r2
    | 3, hj => cases hj; exact r3
    | 4, hj => cases hj; exact r4
    | 5, hj => cases hj; exact r5
    | 6, hj => cases hj; exact r6
    | 7, hj => cases hj; exact r7
    | 8, hj => cases hj; exact r8
    | 9, hj => cases hj; exact r9
    | 10, hj => cases hj; exact r10
    | 11, hj => cases hj; exact r11
    | 12, hj => cases hj; exact r12
    | 13, hj => cases hj; exact r13
    | 14, hj => cases hj; exact r14
    | 15, hj => cases hj; exact r15
    | n + 16, hj => cases hj
  have Hb := hid hb
  clear hb hl
  go_wp2_with fail
  refine bodyPost_ret (take_res [.int .i64 (zero 0), .int .i64 (zero 1), .int .i64 (zero 2), .int .i64 (zero 3), .int .i64 (zero 4), .int .i64 (zero 5), .int .u64 (zero 6), .int .u64 (zero 7), .int .i64 (zero 8), .int .i64 (zero 9), .int .u64 (zero 10), .int .i64 (zero 11), .int .u64 (zero 12), .int .u64 (zero 13), .int .i64 (zero 14), .int .i64 (zero 15)] (w.heap.size + 1) n 1 rfl _ _ ?_ rfl rfl rfl) rfl ⟨rfl, ?_⟩
  · apply range_of
    · repeat (with_reducible first | exact hR.out | apply range_set)
    · exact rfl
  · repeat (with_reducible first | exact Hb.out | apply Below.setCell | exact Nat.le_add_right _ _)
theorem take_calls (G : Nat → Int) (hG : ∀ j, I (G j)) (w : World) :
    Calls Try.prog 16 #[.agg #[.int .i64 (G 0), .int .i64 (G 1), .int .i64 (G 2), .int .i64 (G 3), .int .i64 (G 4), .int .i64 (G 5), .int .i64 (G 6), .int .i64 (G 7), .int .i64 (G 8), .int .i64 (G 9), .int .i64 (G 10), .int .i64 (G 11), .int .i64 (G 12), .int .i64 (G 13), .int .i64 (G 14), .int .i64 (G 15)]] w fun e w' => (chk (ofn G) = 0 ∧ e = .returned (.tuple #[.agg #[.int .i64 ((ofn G) 0), .int .i64 ((ofn G) 1), .int .i64 ((ofn G) 2), .int .i64 ((ofn G) 3), .int .i64 ((ofn G) 4), .int .i64 ((ofn G) 5), .int .u64 ((ofn G) 6), .int .u64 ((ofn G) 7), .int .i64 ((ofn G) 8), .int .i64 ((ofn G) 9), .int .u64 ((ofn G) 10), .int .i64 ((ofn G) 11), .int .u64 ((ofn G) 12), .int .u64 ((ofn G) 13), .int .i64 ((ofn G) 14), .int .i64 ((ofn G) 15)], .int .i64 0, .int .i64 0]) ∨ 0 < chk (ofn G) ∧ e = .returned (.tuple #[.agg #[.int .i64 (zero 0), .int .i64 (zero 1), .int .i64 (zero 2), .int .i64 (zero 3), .int .i64 (zero 4), .int .i64 (zero 5), .int .u64 (zero 6), .int .u64 (zero 7), .int .i64 (zero 8), .int .i64 (zero 9), .int .u64 (zero 10), .int .i64 (zero 11), .int .u64 (zero 12), .int .u64 (zero 13), .int .i64 (zero 14), .int .i64 (zero 15)], .int .i64 (chk (ofn G) : Nat), .int .i64 1])) ∧ Below w.heap.size w w' := by
  by_cases h : chk (ofn G) = 0
  · refine (take_ok G w (hid fun w => ?_)).mono fun e w' hh => ⟨.inl ⟨h, hh.1⟩, hh.2⟩
    have := check_calls (ofn G) (put_ofn_in hG) w
    rw [h] at this
    exact this
  · refine (take_bad G (chk (ofn G) : Nat) w (hid fun w => ?_)).mono fun e w' hh => ⟨.inr ⟨by omega, hh.1⟩, hh.2⟩
    have := check_calls (ofn G) (put_ofn_in hG) w
    have he : errno (chk (ofn G)) = 1 := by unfold errno; rw [if_neg h]
    rw [he] at this
    exact this
end Go.Proofs.Ytnednhdbghkcnaa.C08
