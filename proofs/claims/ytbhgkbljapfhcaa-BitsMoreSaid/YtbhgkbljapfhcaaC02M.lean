/- The walks of the laws BitsBytes and BitsBack. -/
import Derived.Test.YtbhgkbljapfhcaaC02L
import Derived.Test.YtbhgkbljapfhcaaEq
namespace Go.Proofs.Ytbhgkbljapfhcaa.C02
open Go.RowKit Go.Proofs.Ytbhgkbljapfhcaa
set_option linter.unusedVariables false
attribute [local go_sem] max2_mx min2_mn max_two min_two
theorem bytesAt_of_slc {H : Type} {enc : TypeId × Value → H} {P : Program} {w : World} {e : TypeId} {a : Option Addr} {l c : Nat} (he : Opn.leaves P 1 e = some [.int .u8]) (hc : P.cellsOf e = 1) (h : (Opn.Lf.slc e).ok enc P w 0 (fun _ => true) true (.slice a l c)) :
    ∃ zs : List Int, zs.length = l ∧ (∀ x ∈ zs, 0 ≤ x ∧ x < 256) ∧ BytesAt w a zs ∧ l ≤ c ∧ c ≤ maxLen ∧ (a = none → c = 0) := by
  have h' := h
  obtain ⟨a2, l2, c2, hv2, h2⟩ := h'
  injection hv2 with h1 h2' h3
  subst h1 h2' h3
  obtain ⟨a', l', c', hv, _, vs, hlen, hok, hcell⟩ := Opn.slc_cells 1 he (by rw [hc]; rfl) h
  injection hv with h1 h2' h3
  subst h1 h2' h3
  obtain ⟨zs, rfl, hz⟩ := Opn.list_of (fun z : Int => [Value.int .u8 z]) (fun z => 0 ≤ z ∧ z < 256) vs (fun x hx => by
    obtain ⟨_, _, rfl, ⟨n, rfl, wn⟩, rfl⟩ := hok x hx
    exact ⟨n, rfl, Sat.wf_u8 wn⟩)
  refine ⟨zs, by simpa using hlen, hz, ?_, ?_⟩
  · by_cases hne : zs = []
    · exact .inl hne
    · right
      rcases hcell with h0 | ⟨ad, rfl, hcell⟩
      · exfalso
        apply hne
        exact List.eq_nil_of_length_eq_zero (by simpa [h0] using hlen)
      · obtain ⟨b, o, rfl, hat⟩ := Opn.slc_at (sz := 1) (by simp) (by omega) (by simpa using hne) hcell
        refine ⟨b, o, rfl, fun i hi => ?_⟩
        have := hat i 0 [Value.int .u8 (zs.getD i 0)] (Value.int .u8 (zs.getD i 0)) (by simp [hi]) rfl
        simpa using this
  · rcases h2 with ⟨rfl, rfl, rfl⟩ | ⟨ad, rfl, _, q1, q2, _⟩
    · exact ⟨by omega, by unfold maxLen; omega, fun _ => rfl⟩
    · exact ⟨q1, q2, fun h => by cases h⟩
theorem BytesAt.below {w w' : World} {A : Option Addr} {l : List Int} (h : BytesAt w A l) (hb : Below w.heap.size w w') : BytesAt w' A l := by
  rcases h with h | ⟨b, o, hA, h⟩
  · exact .inl h
  · refine .inr ⟨b, o, hA, fun i hi => ?_⟩
    have := h i hi
    rw [hb.cell (World.block_lt_of_cell? w _ this)]
    exact this
theorem wf_byte {n : Int} (h0 : 0 ≤ n) (h1 : n ≤ 255) : (Lit.int .u8 n).wf = true := WalkArith.wf_u8 (by omega)
/-- Two lots of eight bytes are compared. -/
theorem b8_eq (x : Nat) (w : World) : Sem.run Try.prog (Op.equalIn 10000 37 (.agg (b8 x)) (.agg (b8 x))) w = .ok true w := by
  have hl : Opn.LitOk [.int .u8, .int .u8, .int .u8, .int .u8, .int .u8, .int .u8, .int .u8, .int .u8] (b8 x).toList [.int .u8 (Bits.byt x 0), .int .u8 (Bits.byt x 1), .int .u8 (Bits.byt x 2), .int .u8 (Bits.byt x 3), .int .u8 (Bits.byt x 4), .int .u8 (Bits.byt x 5), .int .u8 (Bits.byt x 6), .int .u8 (Bits.byt x 7)] := by
    have hw := fun i => wf_byte (Bits.byt_in x i).1 (Bits.byt_in x i).2
    exact ⟨_, _, _, _, rfl, rfl, ⟨_, rfl, rfl, hw 0⟩, _, _, _, _, rfl, rfl, ⟨_, rfl, rfl, hw 1⟩, _, _, _, _, rfl, rfl, ⟨_, rfl, rfl, hw 2⟩, _, _, _, _, rfl, rfl, ⟨_, rfl, rfl, hw 3⟩, _, _, _, _, rfl, rfl, ⟨_, rfl, rfl, hw 4⟩, _, _, _, _, rfl, rfl, ⟨_, rfl, rfl, hw 5⟩, _, _, _, _, rfl, rfl, ⟨_, rfl, rfl, hw 6⟩, _, _, _, _, rfl, rfl, ⟨_, rfl, rfl, hw 7⟩, rfl, rfl⟩
  exact Opn.eq_run (ls := [.int .u8, .int .u8, .int .u8, .int .u8, .int .u8, .int .u8, .int .u8, .int .u8]) 9997 3 10000 (by rfl) (by kernel_rfl) (by kernel_rfl) (by kernel_rfl) (by kernel_rfl) hl hl true (by simp) w
set_option maxHeartbeats 1000000 in
theorem bytes_core (x : Nat) (n f : Int) (q : Bool) (A : Option Addr) (l c : Nat) (w : World) (hx : x ≤ 18446744073709551615)
    (h1 : Hid (∀ w, Calls Try.prog 19 #[.int .i64 n] w fun e w' => e = .returned (.tuple #[.int .i32 (narrow n), .bool q]) ∧ w = w'))
    (h2 : Hid (∀ w, Calls Try.prog 20 #[.int .i64 n] w fun e w' => e = .returned (.tuple #[.int .i32 (narrow n), .bool q]) ∧ w = w'))
    (h3 : Hid (∀ w', Below w.heap.size w w' → Calls Try.prog 18 #[.slice A l c] w' fun e w'' => e = .returned (.int .u64 f) ∧ w' = w''))
    (h4 : Hid (∀ w', Below w.heap.size w w' → Calls Try.prog 23 #[.slice A l c] w' fun e w'' => e = .returned (.int .u64 f) ∧ w' = w'')) :
    Calls Try.prog 7 #[.int .u64 x, .slice A l c, .int .i64 n] w fun e w' => e = .returned (.bool true) ∧ Below w.heap.size w w' := by
  have Hx := hid hx
  clear hx
  go_enter Try.func7, Try.ntmps7
  go_wp2_with fail
  refine (awake_calls _).mono ?_
  rintro e w1 ⟨rfl, hb⟩
  have Hb := hid hb
  clear hb
  go_wp2_with fail
  refine (h1.out _).mono ?_
  rintro e w' ⟨rfl, rfl⟩
  go_wp2_with fail
  refine (h2.out _).mono ?_
  rintro e w' ⟨rfl, rfl⟩
  go_wp2_with fail
  refine (bytes_calls x Hx.out _).mono ?_
  rintro e w2 ⟨rfl, hb⟩
  have Hb2 := hid (Hb.out.trans (hb.mono Hb.out.size))
  clear hb
  go_wp2_with fail
  refine (rbytes_calls x Hx.out _).mono ?_
  rintro e w3 ⟨rfl, hb⟩
  have Hb3 := hid (Hb2.out.trans (hb.mono Hb2.out.size))
  clear hb
  have heq := b8_eq x
  unfold b8 at heq ⊢
  go_wp2_with fail
  refine (h3.out _ Hb3.out).mono ?_
  rintro e w' ⟨rfl, rfl⟩
  go_wp2_with fail
  refine (h4.out _ Hb3.out).mono ?_
  rintro e w' ⟨rfl, rfl⟩
  go_wp2_with fail
  go_ret
  exact ⟨ret_bool (by cases q <;> rfl), Hb3.out⟩
theorem bitsBytes_walk {H : Type} {enc : TypeId × Value → H} (W : World) (a0 : Int) (w0 : (Lit.int .u64 a0).wf = true) (a1 : Option Addr) (l1 c1 : Nat) (k1 : (Opn.Lf.slc 5).ok enc Try.prog W 0 (fun _ => true) true (.slice a1 l1 c1)) (y1 : l1 * 1 ≤ 140737488351232) (a2 : Int) (w2 : (Lit.int .i64 a2).wf = true) :
    Calls Try.prog 7 #[.int .u64 a0, .slice a1 l1 c1, .int .i64 a2] W fun e w' => e = .returned (.bool true) ∧ Below W.heap.size W w' := by
  obtain ⟨p0, p1⟩ := Sat.wf_u64 w0
  obtain ⟨q0, q1⟩ := Sat.wf_i64 w2
  obtain ⟨x, rfl⟩ := Int.eq_ofNat_of_zero_le p0
  obtain ⟨zs, rfl, hz, hr, hlc, hcm, hn⟩ := bytesAt_of_slc (by rfl) (by kernel_rfl) k1
  unfold maxLen at hcm
  exact bytes_core x a2 _ _ a1 _ c1 W (by omega) (hid fun w => narrow_calls a2 q0 q1 w) (hid fun w => rnarrow_calls a2 q0 q1 w) (hid fun w hb => from_calls zs a1 c1 w hlc hcm hz (hr.below hb) hn) (hid fun w hb => rfrom_calls zs a1 c1 w hlc hcm hz (hr.below hb))
theorem num_b8 (x : Nat) (hx : x ≤ 18446744073709551615) : Bits.num (Bits.last8 [Bits.byt x 0, Bits.byt x 1, Bits.byt x 2, Bits.byt x 3, Bits.byt x 4, Bits.byt x 5, Bits.byt x 6, Bits.byt x 7]) = x := by
  unfold Bits.last8 Bits.num Bits.byt
  simp only [List.length_cons, List.length_nil, Nat.reduceAdd, Nat.reduceSub, List.drop_zero, List.foldl_cons, List.foldl_nil, Nat.reducePow, Nat.sub_self]
  omega
theorem from_b8 (x : Nat) (hx : x ≤ 18446744073709551615) (w : World) (T : TypeId) :
    Calls Try.prog 18 #[.slice (some ⟨w.heap.size, 0, none⟩) 8 8] (w.alloc (.cells (b8 x) T)) fun e w' => e = .returned (.int .u64 x) ∧ w.alloc (.cells (b8 x) T) = w' := by
  have hb := fun i => Bits.byt_in x i
  have := from_calls [Bits.byt x 0, Bits.byt x 1, Bits.byt x 2, Bits.byt x 3, Bits.byt x 4, Bits.byt x 5, Bits.byt x 6, Bits.byt x 7] (some ⟨w.heap.size, 0, none⟩) 8 (w.alloc (.cells (b8 x) T)) (by simp) (by omega) (by
    intro y hy
    simp only [List.mem_cons, List.not_mem_nil, or_false] at hy
    rcases hy with rfl | rfl | rfl | rfl | rfl | rfl | rfl | rfl
    all_goals exact ⟨(hb _).1, by have := (hb 0).2; have := (hb 1).2; have := (hb 2).2; have := (hb 3).2; have := (hb 4).2; have := (hb 5).2; have := (hb 6).2; have := (hb 7).2; omega⟩) (by
    refine .inr ⟨_, _, rfl, ?_⟩
    intro i hi
    match i, hi with
    | 0, _ => simp [go_sem, b8]
    | 1, _ => simp [go_sem, b8]
    | 2, _ => simp [go_sem, b8]
    | 3, _ => simp [go_sem, b8]
    | 4, _ => simp [go_sem, b8]
    | 5, _ => simp [go_sem, b8]
    | 6, _ => simp [go_sem, b8]
    | 7, _ => simp [go_sem, b8]) (by simp)
  rw [num_b8 x hx] at this
  exact this
set_option maxHeartbeats 1000000 in
theorem back_core (x k : Nat) (n : Int) (w : World) (hx : x ≤ 18446744073709551615) (hn0 : -2147483648 ≤ n) (hn1 : n ≤ 2147483647) (hk : k ≤ 64)
    (h1 : Hid (∀ w, Calls Try.prog 19 #[.int .i64 n] w fun e w' => e = .returned (.tuple #[.int .i32 n, .bool true]) ∧ w = w'))
    (h2 : Hid (∀ w, Calls Try.prog 10 #[.int .u64 x] w fun e w' => e = .returned (.int .i64 k) ∧ w = w'))
    (hz : x = 0 ∧ k = 0 ∨ 0 < x ∧ 0 < k ∧ Hid ((x : Int) / 2 ^ (k - 1) = 1)) :
    Calls Try.prog 8 #[.int .u64 x, .int .i32 n] w fun e w' => e = .returned (.bool true) ∧ Below w.heap.size w w' := by
  have Hx := hid hx
  have hbt := fun i => Bits.byt_in x i
  rcases hz with ⟨rfl, rfl⟩ | ⟨z1, z2, z3⟩
  · go_enter Try.func8, Try.ntmps8
    go_wp2_with fail
    refine (awake_calls _).mono ?_
    rintro e w1 ⟨rfl, hb⟩
    have Hb := hid hb
    clear hb
    go_wp2_with fail
    refine (bytes_calls _ Hx.out _).mono ?_
    rintro e w2 ⟨rfl, hb⟩
    have Hb2 := hid (Hb.out.trans (hb.mono Hb.out.size))
    clear hb
    unfold b8
    go_wp2_with fail
    refine (h1.out _).mono ?_
    rintro e w' ⟨rfl, rfl⟩
    go_wp2_with fail
    refine (h2.out _).mono ?_
    rintro e w' ⟨rfl, rfl⟩
    go_wp2_with fail
    refine (from_b8 _ Hx.out _ _).mono ?_
    rintro e w' ⟨rfl, rfl⟩
    go_wp2_with fail
    go_ret
    exact ⟨rfl, Hb2.out.alloc Hb2.out.size _⟩
  · have t1 : ((x : Int) == 0) = false := by rw [beq_eq_false_iff_ne]; omega
    have t2 : ((k : Int) == 0) = false := by rw [beq_eq_false_iff_ne]; omega
    have t3 : ((x : Int) / 2 ^ (k - 1) == 1) = true := by rw [beq_iff_eq]; exact z3.out
    go_enter Try.func8, Try.ntmps8
    go_wp2_with fail
    refine (awake_calls _).mono ?_
    rintro e w1 ⟨rfl, hb⟩
    have Hb := hid hb
    clear hb
    go_wp2_with fail
    refine (bytes_calls _ Hx.out _).mono ?_
    rintro e w2 ⟨rfl, hb⟩
    have Hb2 := hid (Hb.out.trans (hb.mono Hb.out.size))
    clear hb
    unfold b8
    go_wp2_with fail
    refine (h1.out _).mono ?_
    rintro e w' ⟨rfl, rfl⟩
    go_wp2_with fail
    refine (h2.out _).mono ?_
    rintro e w' ⟨rfl, rfl⟩
    go_wp2_with fail
    refine (from_b8 _ Hx.out _ _).mono ?_
    rintro e w' ⟨rfl, rfl⟩
    go_wp2_with fail
    go_ret
    exact ⟨ret_bool (by simp; omega), Hb2.out.alloc Hb2.out.size _⟩
theorem wf_i32 {x : Int} (h : (Lit.int .i32 x).wf = true) : -2147483648 ≤ x ∧ x ≤ 2147483647 := by
  have h2 : IntKind.i32.min ≤ x ∧ x ≤ IntKind.i32.max := by simpa [Lit.wf] using h
  have e1 : IntKind.i32.min = -2147483648 := by decide
  have e2 : IntKind.i32.max = 2147483647 := by decide
  rw [e1, e2] at h2
  exact h2
theorem top_bit (x : Nat) (h : 0 < x) : (x : Int) / 2 ^ (Bits.blen x - 1) = 1 := by
  have h1 := Bits.blen_lt x
  have h2 := Bits.blen_ge x h
  have h0 : ¬ Bits.blen x = 0 := fun e => by have := Bits.blen_eq_zero.1 e; omega
  have h3 : 0 < Bits.blen x := by omega
  have e : Bits.blen x = (Bits.blen x - 1) + 1 := by omega
  rw [e, Nat.pow_succ] at h1
  have hN : x / 2 ^ (Bits.blen x - 1) = 1 := by
    have hp : 0 < 2 ^ (Bits.blen x - 1) := Nat.two_pow_pos _
    apply Nat.div_eq_of_lt_le <;> omega
  have : ((x / 2 ^ (Bits.blen x - 1) : Nat) : Int) = 1 := by rw [hN]; rfl
  simpa using this
theorem bitsBack_walk {H : Type} {enc : TypeId × Value → H} (W : World) (a0 : Int) (w0 : (Lit.int .u64 a0).wf = true) (a1 : Int) (w1 : (Lit.int .i32 a1).wf = true) :
    Calls Try.prog 8 #[.int .u64 a0, .int .i32 a1] W fun e w' => e = .returned (.bool true) ∧ Below W.heap.size W w' := by
  obtain ⟨p0, p1⟩ := Sat.wf_u64 w0
  obtain ⟨q0, q1⟩ := wf_i32 w1
  obtain ⟨x, rfl⟩ := Int.eq_ofNat_of_zero_le p0
  have hx : x < 18446744073709551616 := by omega
  refine back_core x (Bits.blen x) a1 W (by omega) q0 q1 (Bits.blen_le64 hx) (hid fun w => ?_) (hid fun w => len_calls x hx w) ?_
  · have := narrow_calls a1 (by omega) (by omega) w
    rw [narrow_eq.2 ⟨q0, q1⟩] at this
    simpa using this
  · by_cases h : x = 0
    · subst h; exact .inl ⟨rfl, Bits.blen_zero⟩
    · refine .inr ⟨by omega, ?_, top_bit x (by omega)⟩
      have h0 : ¬ Bits.blen x = 0 := fun e => h (Bits.blen_eq_zero.1 e)
      omega
end Go.Proofs.Ytbhgkbljapfhcaa.C02
