/- What Take of the reference of chapter 22 returns, as the plain law says. -/
import Derived.Test.YtcfjefngfmnmaaaC22L
import Derived.Test.YtcfjefngfmnmaaaC22F
namespace Go.Proofs.Ytcfjefngfmnmaaa.C22
open Go.RowKit Go.Proofs.Ytcfjefngfmnmaaa Go.Proofs.Ytcfjefngfmnmaaa.Cod
set_option linter.unusedVariables false
set_option linter.unusedSimpArgs false
set_option linter.unnecessarySimpa false
theorem rfrom_n {t : ByteArray} {B cap n : Nat} {w : World} (h8 : t.size = n) (hn : n ≤ 8) (hc : n ≤ cap) (hm : n ≤ maxLen → cap ≤ maxLen) (hb : C02.BytesAt w (some ⟨B, 0, none⟩) (nums t)) :
    Calls Try.prog 23 #[.slice (some ⟨B, 0, none⟩) n cap] w fun x w' => x = .returned (.int .u64 (Bits.num (nums t))) ∧ w = w' := by
  have hl : (nums t).length = n := by rw [nums_len, h8]
  have := C02.rfrom_calls (nums t) (some ⟨B, 0, none⟩) cap w (by omega) (by have := hm (by unfold maxLen; omega); unfold maxLen at this; omega) (nums_ok t) hb
  rw [hl] at this
  have e : Bits.last8 (nums t) = nums t := by unfold Bits.last8; rw [hl, Nat.sub_eq_zero_of_le hn]; rfl
  rw [e] at this
  exact this
theorem rfrom8 {t : ByteArray} {B cap : Nat} {w : World} (h8 : t.size = 8) (hc : 8 ≤ cap) (hm : 8 ≤ maxLen → cap ≤ maxLen) (hb : C02.BytesAt w (some ⟨B, 0, none⟩) (nums t)) :
    Calls Try.prog 23 #[.slice (some ⟨B, 0, none⟩) 8 cap] w fun x w' => x = .returned (.int .u64 (Bits.num (nums t))) ∧ w = w' := rfrom_n h8 (by omega) hc hm hb
theorem rfrom4 {t : ByteArray} {B cap : Nat} {w : World} (h8 : t.size = 4) (hc : 4 ≤ cap) (hm : 4 ≤ maxLen → cap ≤ maxLen) (hb : C02.BytesAt w (some ⟨B, 0, none⟩) (nums t)) :
    Calls Try.prog 23 #[.slice (some ⟨B, 0, none⟩) 4 cap] w fun x w' => x = .returned (.int .u64 (Bits.num (nums t))) ∧ w = w' := rfrom_n h8 (by omega) hc hm hb
theorem num_in4 {t : ByteArray} (h : t.size = 4) : 0 ≤ Bits.num (nums t) ∧ Bits.num (nums t) ≤ 4294967295 := by
  have hl : (nums t).length = 4 := by rw [nums_len, h]
  have ho := nums_ok t
  generalize nums t = l at *
  match l, hl with
  | [a, b, c, d], _ =>
    have h0 := ho a (by simp)
    have h1 := ho b (by simp)
    have h2 := ho c (by simp)
    have h3 := ho d (by simp)
    unfold Bits.num
    simp only [List.foldl_cons, List.foldl_nil]
    omega
def rnoneF (x : Ending) : Prop := x = .returned (.tuple #[.agg zeroF, .string ⟨#[]⟩, .int .i64 2])
abbrev RTakePost := TakePost
theorem rres_take (T : Array Value) (w : World) (B : Nat) (F : Array Value) (S : ByteArray) (c : Int) (h2 : T.getD 2 undef = .pointer (some ⟨B, 0, none⟩)) (h3 : T.getD 3 undef = .string S) (h4 : T.getD 4 undef = .int .i64 c) (hR : w.rangeAt B 0 F.toList) (hF : F.size = 9) :
    (results Try.f12 T).run Try.prog w = .ok (.tuple #[.agg F, .string S, .int .i64 c]) w := by
  have hi9 : (Try.prog.info? 25).map (·.size) = some F.toList.length := by rw [Array.length_toList, hF]; kernel_rfl
  have hl := run_loadVar_mid w B 0 25 F.toList _ hR Try.underlying25 rfl hi9
  unfold results
  rw [Try.results12]
  rw [Array.getD_eq_getD_getElem?] at h2 h3 h4
  simp [Sem.run_bind, h2, h3, h4, asAddr, hl]
theorem rtake_short (s : ByteArray) (w : World) (h : s.size < 17) :
    Calls Try.prog 12 #[.string s] w fun x w' => x = .returned (.tuple #[.agg zeroF, .string ⟨#[]⟩, .int .i64 2]) ∧ Below w.heap.size w w' := by
  have hi : (s.size : Int) < 17 := by omega
  go_enter Try.func12, Try.ntmps12
  go_wp2_with fail
  refine bodyPost_ret (v := .tuple #[.agg zeroF, .string ⟨#[]⟩, .int .i64 2]) (by simp [results, Try.results12, go_sem, zeroF, zero]) rfl ⟨rfl, grow _ _⟩
theorem rtake_many (s : ByteArray) (m : Nat) (w : World) (h : 17 ≤ s.size) (hm : at' (nums s) 16 = m) (hb : s.size < 17 + 4 * m) :
    Calls Try.prog 12 #[.string s] w fun x w' => x = .returned (.tuple #[.agg zeroF, .string ⟨#[]⟩, .int .i64 2]) ∧ Below w.heap.size w w' := by
  have hi : 17 ≤ (s.size : Int) := by omega
  have hb2 := byte_is s 16 (by omega)
  rw [hm] at hb2
  have hm2 : (m : Int) ≤ 255 := by have := at_in (nums_ok s) 16; omega
  have h9i : (s.size : Int) < 17 + 4 * (m : Int) := by omega
  go_enter Try.func12, Try.ntmps12
  go_wp2_with fail
  refine bodyPost_ret (v := .tuple #[.agg zeroF, .string ⟨#[]⟩, .int .i64 2]) (by simp [results, Try.results12, go_sem, zeroF, zero]) rfl ⟨rfl, grow _ _⟩
set_option maxRecDepth 20000 in
set_option maxHeartbeats 8000000 in
theorem rtake_main (s : ByteArray) (m : Nat) (w : World) (h : 17 ≤ s.size) (hm : at' (nums s) 16 = m) (h8 : m ≤ 255) (hs : 17 + 4 * m ≤ s.size) (e : Ev) (he0 : parse (nums s) m = e) (bq : Bool) (hbq : (strOfNums (put e) != s.extract 0 (17 + 4 * m)) = bq) :
    Calls Try.prog 12 #[.string s] w fun x w' => RTakePost s m e bq w x w' := by
  have hi : 17 ≤ (s.size : Int) := by omega
  have hb2 := byte_is s 16 (by omega)
  rw [hm] at hb2
  have h8i : (m : Int) ≤ 255 := by omega
  have h9i : 17 + 4 * (m : Int) ≤ (s.size : Int) := by omega
  have hi9 : (Try.prog.info? 25).map (·.size) = some 9 := by kernel_rfl
  have hx8 : (s.extract 7 15).size = 8 := by rw [← nums_len, nums_extract, List.length_take, List.length_drop, nums_len]; omega
  obtain ⟨nn, hnn⟩ : ∃ nn : Nat, Bits.num (nums (s.extract 7 15)) = (nn : Int) := Int.eq_ofNat_of_zero_le (Bits.num_in _ (nums_ok _) (by rw [nums_len, hx8]; omega)).1
  have hy0 := byte_is s 0 (by omega)
  have u0 := at_in (nums_ok s) 0
  obtain ⟨x0, hx0⟩ : ∃ x, at' (nums s) 0 = x := ⟨_, rfl⟩
  rw [hx0] at hy0 u0
  replace u0 : 0 ≤ x0 ∧ x0 ≤ 255 := by omega
  have hy1 := byte_is s 1 (by omega)
  have u1 := at_in (nums_ok s) 1
  obtain ⟨x1, hx1⟩ : ∃ x, at' (nums s) 1 = x := ⟨_, rfl⟩
  rw [hx1] at hy1 u1
  replace u1 : 0 ≤ x1 ∧ x1 ≤ 255 := by omega
  have hy2 := byte_is s 2 (by omega)
  have u2 := at_in (nums_ok s) 2
  obtain ⟨x2, hx2⟩ : ∃ x, at' (nums s) 2 = x := ⟨_, rfl⟩
  rw [hx2] at hy2 u2
  replace u2 : 0 ≤ x2 ∧ x2 ≤ 255 := by omega
  have hy3 := byte_is s 3 (by omega)
  have u3 := at_in (nums_ok s) 3
  obtain ⟨x3, hx3⟩ : ∃ x, at' (nums s) 3 = x := ⟨_, rfl⟩
  rw [hx3] at hy3 u3
  replace u3 : 0 ≤ x3 ∧ x3 ≤ 255 := by omega
  have hy4 := byte_is s 4 (by omega)
  have u4 := at_in (nums_ok s) 4
  obtain ⟨x4, hx4⟩ : ∃ x, at' (nums s) 4 = x := ⟨_, rfl⟩
  rw [hx4] at hy4 u4
  replace u4 : 0 ≤ x4 ∧ x4 ≤ 255 := by omega
  have hy5 := byte_is s 5 (by omega)
  have u5 := at_in (nums_ok s) 5
  obtain ⟨x5, hx5⟩ : ∃ x, at' (nums s) 5 = x := ⟨_, rfl⟩
  rw [hx5] at hy5 u5
  replace u5 : 0 ≤ x5 ∧ x5 ≤ 255 := by omega
  have hy6 := byte_is s 6 (by omega)
  have u6 := at_in (nums_ok s) 6
  obtain ⟨x6, hx6⟩ : ∃ x, at' (nums s) 6 = x := ⟨_, rfl⟩
  rw [hx6] at hy6 u6
  replace u6 : 0 ≤ x6 ∧ x6 ≤ 255 := by omega
  have hy15 := byte_is s 15 (by omega)
  have u15 := at_in (nums_ok s) 15
  obtain ⟨x15, hx15⟩ : ∃ x, at' (nums s) 15 = x := ⟨_, rfl⟩
  rw [hx15] at hy15 u15
  replace u15 : 0 ≤ x15 ∧ x15 ≤ 255 := by omega
  have he : Hid (e = ⟨x0, x1 * 256 + x2, x3, x4, x5, x6, nn, x15 == 1, vals (nums s) 17 m⟩) := by
    show _ = _
    rw [← he0]
    unfold parse
    rw [hx0, hx1, hx2, hx3, hx4, hx5, hx6, hx15]
    rw [nums_extract] at hnn
    rw [show 15 - 7 = 8 from rfl] at hnn
    rw [hnn, Int.toNat_natCast]
  have hnn2 : (nn : Int) < 18446744073709551616 := by rw [← hnn]; exact (Bits.num_in _ (nums_ok _) (by rw [nums_len, hx8]; omega)).2
  have hfit : Hid e.Fits := by
    show e.Fits
    rw [he.out]
    exact ⟨by show _ ≤ x0 ∧ x0 ≤ _; omega, by show _ ≤ x1 * 256 + x2 ∧ x1 * 256 + x2 ≤ _; omega, by show _ ≤ x3 ∧ x3 ≤ _; omega, by show _ ≤ x4 ∧ x4 ≤ _; omega, by show _ ≤ x5 ∧ x5 ≤ _; omega, by show _ ≤ x6 ∧ x6 ≤ _; omega, by show nn ≤ _; omega, fun v hv => vals_in _ _ _ v hv⟩
  clear he0
  have HBQ := hid hbq
  clear hbq hnn2
  obtain ⟨p0, q0⟩ := u0
  obtain ⟨p1, q1⟩ := u1
  obtain ⟨p2, q2⟩ := u2
  obtain ⟨p3, q3⟩ := u3
  obtain ⟨p4, q4⟩ := u4
  obtain ⟨p5, q5⟩ := u5
  obtain ⟨p6, q6⟩ := u6
  obtain ⟨p15, q15⟩ := u15
  obtain ⟨j0, j1, j2, j3, j4⟩ := infoI
  have m0 : 0 ≤ (m : Int) := by omega
  have wx0 : IntKind.i64.wrap x0 = x0 := wraps_i64 _ (by omega) (by omega)
  have wx1 : IntKind.i64.wrap x1 = x1 := wraps_i64 _ (by omega) (by omega)
  have wx2 : IntKind.i64.wrap x2 = x2 := wraps_i64 _ (by omega) (by omega)
  have wx3 : IntKind.i64.wrap x3 = x3 := wraps_i64 _ (by omega) (by omega)
  have wx4 : IntKind.i64.wrap x4 = x4 := wraps_i64 _ (by omega) (by omega)
  have wx5 : IntKind.i64.wrap x5 = x5 := wraps_i64 _ (by omega) (by omega)
  have wx6 : IntKind.i64.wrap x6 = x6 := wraps_i64 _ (by omega) (by omega)
  have wsh : IntKind.i64.wrap (256 * x1) = x1 * 256 := by rw [wraps_i64 _ (by omega) (by omega)]; omega
  have wad : IntKind.i64.wrap (x1 * 256 + x2) = x1 * 256 + x2 := wraps_i64 _ (by omega) (by omega)
  have z17 : 16 < (s.size : Int) := by omega
  have hm2 : ((m : Nat) : Int) ≤ 255 := h8i
  have z0 : 0 < s.size := by omega
  have z1 : 1 < (s.size : Int) := by omega
  have z2 : 2 < (s.size : Int) := by omega
  have z3 : 3 < (s.size : Int) := by omega
  have z4 : 4 < (s.size : Int) := by omega
  have z5 : 5 < (s.size : Int) := by omega
  have z6 : 6 < (s.size : Int) := by omega
  have z15 : 15 < (s.size : Int) := by omega
  have z16 : 15 ≤ (s.size : Int) := by omega
  go_enter Try.func12, Try.ntmps12
  go_wp2_with fail
  obtain ⟨w1, hw1⟩ : ∃ w1, w.alloc (.cells #[.int .i64 0, .int .i64 0, .int .i64 0, .int .i64 0, .int .i64 0, .int .i64 0, .int .u64 0, .bool false, .slice none 0 0] 25 (0, 0)) = w1 := ⟨_, rfl⟩
  rw [hw1]
  have HW1 : Hid (w1.heap.size = w.heap.size + 1 ∧ Below w.heap.size w w1 ∧ w1.there w.heap.size 0 9) := hid (by rw [← hw1]; exact ⟨by simp, grow w _, there_new w _ _ 9 (by decide)⟩)
  clear hw1
  refine Rg.start (S := fun w' => Hid (Below w1.heap.size w1 w')) (by kernel_rfl) (fun _ _ _ _ _ h => h) (hid (Below.refl _ _).drew) ?_
  intro Q hp hn wz hH0
  refine Rg.tk (i := 0) rfl hp ?_
  refine ⟨?_, ?_, by kernel_rfl, by kernel_rfl, by kernel_rfl, Or.inl ⟨by rfl, ?_⟩, hH0, ?_, ?_⟩
  rotate_left 2
  · (intro w hSw; clear hSw; go_simp; try with_reducible rfl)
  · ((try simp only [Act.put, List.setIfInBounds_toArray, List.set_cons_zero, List.set_cons_succ]); exact rfl)
  refine Rg.tk (i := 1) rfl hp ?_
  refine ⟨?_, ?_, by kernel_rfl, by kernel_rfl, by kernel_rfl, Or.inl ⟨by rfl, ?_⟩, hH0, ?_, ?_⟩
  rotate_left 2
  · (intro w hSw; clear hSw; go_simp; try with_reducible rfl)
  · ((try simp only [Act.put, List.setIfInBounds_toArray, List.set_cons_zero, List.set_cons_succ]); exact rfl)
  refine Rg.tk (i := 2) rfl hp ?_
  refine ⟨?_, ?_, by kernel_rfl, by kernel_rfl, by kernel_rfl, Or.inl ⟨by rfl, ?_⟩, hH0, ?_, ?_⟩
  rotate_left 2
  · (intro w hSw; clear hSw; go_simp; try with_reducible rfl)
  · ((try simp only [Act.put, List.setIfInBounds_toArray, List.set_cons_zero, List.set_cons_succ]); exact rfl)
  refine Rg.tk (i := 3) rfl hp ?_
  refine ⟨?_, ?_, by kernel_rfl, by kernel_rfl, by kernel_rfl, Or.inl ⟨by rfl, ?_⟩, hH0, ?_, ?_⟩
  rotate_left 2
  · (intro w hSw; clear hSw; go_simp; try with_reducible rfl)
  · ((try simp only [Act.put, List.setIfInBounds_toArray, List.set_cons_zero, List.set_cons_succ]); exact rfl)
  refine Rg.tk (i := 4) rfl hp ?_
  refine ⟨?_, ?_, by kernel_rfl, by kernel_rfl, by kernel_rfl, Or.inl ⟨by rfl, ?_⟩, hH0, ?_, ?_⟩
  rotate_left 2
  · (intro w hSw; clear hSw; go_simp; try with_reducible rfl)
  · ((try simp only [Act.put, List.setIfInBounds_toArray, List.set_cons_zero, List.set_cons_succ]); exact rfl)
  refine Rg.tk (i := 5) rfl hp ?_
  refine ⟨?_, ?_, by kernel_rfl, by kernel_rfl, by kernel_rfl, Or.inl ⟨by rfl, ?_⟩, hH0, ?_, ?_⟩
  rotate_left 2
  · (intro w hSw; clear hSw; go_simp; try with_reducible rfl)
  · ((try simp only [Act.put, List.setIfInBounds_toArray, List.set_cons_zero, List.set_cons_succ]); exact rfl)
  refine Rg.tk (i := 6) rfl hp ?_
  refine ⟨?_, ?_, by kernel_rfl, by kernel_rfl, by kernel_rfl, Or.inl ⟨by rfl, ?_⟩, hH0, ?_, ?_⟩
  rotate_left 2
  · (intro w hSw; clear hSw; go_simp; try with_reducible rfl)
  · ((try simp only [Act.put, List.setIfInBounds_toArray, List.set_cons_zero, List.set_cons_succ]); exact rfl)
  refine Rg.tk (i := 7) rfl hp ?_
  refine ⟨?_, ?_, by kernel_rfl, by kernel_rfl, by kernel_rfl, Or.inl ⟨by rfl, ?_⟩, hH0, ?_, ?_⟩
  rotate_left 2
  · (intro w hSw; clear hSw; go_simp; try with_reducible rfl)
  · ((try simp only [Act.put, List.setIfInBounds_toArray, List.set_cons_zero, List.set_cons_succ]); exact rfl)
  refine Rg.tk (i := 8) rfl hp ?_
  refine ⟨?_, ?_, by kernel_rfl, by kernel_rfl, by kernel_rfl, Or.inl ⟨by rfl, ?_⟩, hH0, ?_, ?_⟩
  rotate_left 2
  · (intro w hSw; clear hSw; go_simp; try with_reducible rfl)
  · ((try simp only [Act.put, List.setIfInBounds_toArray, List.set_cons_zero, List.set_cons_succ]); exact rfl)
  refine Rg.tk (i := 9) rfl hp ?_
  refine ⟨?_, ?_, by kernel_rfl, by kernel_rfl, by kernel_rfl, Or.inl ⟨by rfl, ?_⟩, hH0, ?_, ?_⟩
  rotate_left 2
  · (intro w hSw; clear hSw; go_simp; try with_reducible rfl)
  · ((try simp only [Act.put, List.setIfInBounds_toArray, List.set_cons_zero, List.set_cons_succ]); exact rfl)
  refine Rg.tk (i := 10) rfl hp ?_
  refine ⟨?_, ?_, by kernel_rfl, by kernel_rfl, by kernel_rfl, Or.inl ⟨by rfl, ?_⟩, hH0, ?_, ?_⟩
  rotate_left 2
  · (intro w hSw; clear hSw; go_simp; try with_reducible rfl)
  · ((try simp only [Act.put, List.setIfInBounds_toArray, List.set_cons_zero, List.set_cons_succ]); exact rfl)
  refine Rg.tk (i := 11) rfl hp ?_
  refine ⟨?_, ?_, by kernel_rfl, by kernel_rfl, by kernel_rfl, Or.inl ⟨by rfl, ?_⟩, hH0, ?_, ?_⟩
  rotate_left 2
  · (intro w hSw; clear hSw; go_simp; try with_reducible rfl)
  · ((try simp only [Act.put, List.setIfInBounds_toArray, List.set_cons_zero, List.set_cons_succ]); exact rfl)
  refine Rg.tk (i := 12) rfl hp ?_
  refine ⟨?_, ?_, by kernel_rfl, by kernel_rfl, by kernel_rfl, Or.inl ⟨by rfl, ?_⟩, hH0, ?_, ?_⟩
  rotate_left 2
  · (intro w hSw; clear hSw; go_simp; try with_reducible rfl)
  · ((try simp only [Act.put, List.setIfInBounds_toArray, List.set_cons_zero, List.set_cons_succ]); exact rfl)
  refine Rg.tk (i := 13) rfl hp ?_
  refine ⟨?_, ?_, by kernel_rfl, by kernel_rfl, by kernel_rfl, Or.inl ⟨by rfl, ?_⟩, hH0, ?_, ?_⟩
  rotate_left 2
  · (intro w hSw; clear hSw; go_simp; try with_reducible rfl)
  · ((try simp only [Act.put, List.setIfInBounds_toArray, List.set_cons_zero, List.set_cons_succ]); exact rfl)
  refine Rg.tk (i := 14) rfl hp ?_
  refine ⟨?_, ?_, by kernel_rfl, by kernel_rfl, by kernel_rfl, Or.inl ⟨by rfl, ?_⟩, hH0, ?_, ?_⟩
  rotate_left 2
  · (intro w hSw; clear hSw; go_simp; try with_reducible rfl)
  · ((try simp only [Act.put, List.setIfInBounds_toArray, List.set_cons_zero, List.set_cons_succ]); exact rfl)
  refine Rg.tk (i := 15) rfl hp ?_
  refine ⟨?_, ?_, by kernel_rfl, by kernel_rfl, by kernel_rfl, Or.inl ⟨by rfl, ?_⟩, hH0, ?_, ?_⟩
  rotate_left 2
  · (intro w hSw; clear hSw; go_simp; try with_reducible rfl)
  · ((try simp only [Act.put, List.setIfInBounds_toArray, List.set_cons_zero, List.set_cons_succ]); exact rfl)
  refine Rg.tk (i := 16) rfl hp ?_
  refine ⟨?_, ?_, by kernel_rfl, by kernel_rfl, by kernel_rfl, Or.inl ⟨by rfl, ?_⟩, hH0, ?_, ?_⟩
  rotate_left 2
  · (intro w hSw; clear hSw; go_simp; try with_reducible rfl)
  · ((try simp only [Act.put, List.setIfInBounds_toArray, List.set_cons_zero, List.set_cons_succ]); exact rfl)
  refine Rg.tk (i := 17) rfl hp ?_
  refine ⟨?_, ?_, by kernel_rfl, by kernel_rfl, by kernel_rfl, Or.inl ⟨by rfl, ?_⟩, hH0, ?_, ?_⟩
  rotate_left 2
  · (intro w hSw; clear hSw; go_simp; try with_reducible rfl)
  · ((try simp only [Act.put, List.setIfInBounds_toArray, List.set_cons_zero, List.set_cons_succ]); exact rfl)
  refine Rg.tk (i := 18) rfl hp ?_
  refine ⟨?_, ?_, by kernel_rfl, by kernel_rfl, by kernel_rfl, Or.inl ⟨by rfl, ?_⟩, hH0, ?_, ?_⟩
  rotate_left 2
  · (intro w hSw; clear hSw; go_simp; try with_reducible rfl)
  · ((try simp only [Act.put, List.setIfInBounds_toArray, List.set_cons_zero, List.set_cons_succ]); exact rfl)
  refine Rg.tk (i := 19) rfl hp ?_
  refine ⟨?_, ?_, by kernel_rfl, by kernel_rfl, by kernel_rfl, Or.inl ⟨by rfl, ?_⟩, hH0, ?_, ?_⟩
  rotate_left 2
  · (intro w hSw; clear hSw; go_simp; try with_reducible rfl)
  · ((try simp only [Act.put, List.setIfInBounds_toArray, List.set_cons_zero, List.set_cons_succ]); exact rfl)
  refine Rg.tk (i := 20) rfl hp ?_
  refine ⟨?_, ?_, by kernel_rfl, by kernel_rfl, by kernel_rfl, Or.inl ⟨by rfl, ?_⟩, hH0, ?_, ?_⟩
  rotate_left 2
  · (intro w hSw; clear hSw; go_simp; try with_reducible rfl)
  · ((try simp only [Act.put, List.setIfInBounds_toArray, List.set_cons_zero, List.set_cons_succ]); exact rfl)
  refine Rg.tk (i := 21) rfl hp ?_
  refine ⟨?_, ?_, by kernel_rfl, by kernel_rfl, by kernel_rfl, Or.inl ⟨by rfl, ?_⟩, hH0, ?_, ?_⟩
  rotate_left 2
  · (intro w hSw; clear hSw; go_simp; try with_reducible rfl)
  · ((try simp only [Act.put, List.setIfInBounds_toArray, List.set_cons_zero, List.set_cons_succ]); exact rfl)
  refine Rg.tk (i := 22) rfl hp ?_
  refine ⟨?_, ?_, by kernel_rfl, by kernel_rfl, by kernel_rfl, Or.inl ⟨by rfl, ?_⟩, hH0, ?_, ?_⟩
  rotate_left 2
  · (intro w hSw; clear hSw; go_simp; try with_reducible rfl)
  · ((try simp only [Act.put, List.setIfInBounds_toArray, List.set_cons_zero, List.set_cons_succ]); exact rfl)
  refine Rg.tk (i := 23) rfl hp ?_
  refine ⟨?_, ?_, by kernel_rfl, by kernel_rfl, by kernel_rfl, Or.inl ⟨by rfl, ?_⟩, hH0, ?_, ?_⟩
  rotate_left 2
  · (intro w hSw; clear hSw; go_simp; try with_reducible rfl)
  · ((try simp only [Act.put, List.setIfInBounds_toArray, List.set_cons_zero, List.set_cons_succ]); exact rfl)
  refine Rg.tk (i := 24) rfl hp ?_
  refine ⟨?_, ?_, by kernel_rfl, by kernel_rfl, by kernel_rfl, Or.inl ⟨by rfl, ?_⟩, hH0, ?_, ?_⟩
  rotate_left 2
  · (intro w hSw; clear hSw; go_simp; try with_reducible rfl)
  · ((try simp only [Act.put, List.setIfInBounds_toArray, List.set_cons_zero, List.set_cons_succ]); exact rfl)
  refine Rg.tk (i := 27) rfl hp ?_
  refine ⟨?_, ?_, by kernel_rfl, by kernel_rfl, by kernel_rfl, Or.inl ⟨by rfl, ?_⟩, hH0, ?_, ?_⟩
  rotate_left 2
  · (intro w hSw; clear hSw; go_simp; try with_reducible rfl)
  · ((try simp only [Act.put, List.setIfInBounds_toArray, List.set_cons_zero, List.set_cons_succ]); exact rfl)
  refine Rg.tk (i := 28) rfl hp ?_
  refine ⟨?_, ?_, by kernel_rfl, by kernel_rfl, by kernel_rfl, Or.inl ⟨by rfl, ?_⟩, hH0, ?_, ?_⟩
  rotate_left 2
  · (intro w hSw; clear hSw; go_simp; try with_reducible rfl)
  · ((try simp only [Act.put, List.setIfInBounds_toArray, List.set_cons_zero, List.set_cons_succ]); exact rfl)
  refine Rg.tk (i := 29) rfl hp ?_
  refine ⟨?_, ?_, by kernel_rfl, by kernel_rfl, by kernel_rfl, Or.inl ⟨by rfl, ?_⟩, hH0, ?_, ?_⟩
  rotate_left 2
  · (intro w hSw; clear hSw; go_simp; try with_reducible rfl)
  · ((try simp only [Act.put, List.setIfInBounds_toArray, List.set_cons_zero, List.set_cons_succ]); exact rfl)
  refine Rg.two (i := 25) (j := 31) rfl rfl ⟨by kernel_rfl, by rfl, by rfl⟩ (fun K hK => ?_) (fun K hK => ?_)
  · skip
    obtain ⟨v1, cap, hrun, hlv, hc1, hc2, hby, hlt⟩ := conv_bytes (s.extract 7 15) wz wz.heap.size rfl
    rw [hx8] at hrun hc1 hc2
    refine wp_conv rfl rfl hrun ?_
    refine hK.out _ _ ?_ (hid (via hH0.out hlv)) ?_ (fun hH1 => ?_)
    rotate_left
    · ((try simp only [Act.put, List.setIfInBounds_toArray, List.set_cons_zero, List.set_cons_succ]); exact rfl)
    clear hK K
    refine Rg.two (i := 26) (j := 31) rfl rfl ⟨by kernel_rfl, by rfl, by rfl⟩ (fun K hK => ?_) (fun K hK => ?_)
    · skip
      go_simp
      refine (rfrom8 hx8 hc1 hc2 (hby)).mono ?_
      rintro x w' ⟨rfl, rfl⟩
      rw [hnn]
      refine hK.out _ _ ?_ (hH1) ?_ (fun hH2 => ?_)
      rotate_left
      · ((try simp only [Act.put, List.setIfInBounds_toArray, List.set_cons_zero, List.set_cons_succ]); exact rfl)
      clear hK K
      refine Rg.tk (i := 30) rfl hp ?_
      refine ⟨?_, ?_, by kernel_rfl, by kernel_rfl, by kernel_rfl, Or.inl ⟨by rfl, ?_⟩, hH2, ?_, ?_⟩
      rotate_left 2
      · (intro w hSw; clear hSw; go_simp; try with_reducible rfl)
      · ((try simp only [Act.put, List.setIfInBounds_toArray, List.set_cons_zero, List.set_cons_succ]); exact rfl)
      refine Rg.one (i := 31) rfl ⟨by kernel_rfl, by rfl, fun K hK => ?_⟩
      go_simp
      refine hK.out _ _ ?_ (hid (hH2.out.alloc hH2.out.size _)) ?_ (fun hH3 => ?_)
      rotate_left
      · ((try simp only [Act.put, List.setIfInBounds_toArray, List.set_cons_zero, List.set_cons_succ]); exact rfl)
      clear hK K
      refine Rg.one (i := 32) rfl ⟨by kernel_rfl, by rfl, fun K hK => ?_⟩
      have hT7 := there_new v1 #[.int .i64 0, .int .i64 0, .int .i64 0, .int .i64 0, .int .i64 0, .int .i64 0, .int .u64 0, .bool false, .slice none 0 0] 25 9 (by decide)
      have hB7 : w1.heap.size ≤ v1.heap.size := by have := hH2.out.size; omega
      refine wp_store_mid 25 _ _ rfl (v1.heap.size) 0 (evF (parse0 x0 x1 x2 x3 x4 x5 x6 nn x15) none 0) rfl rfl hT7 hi9 (evF_one _ _ _) ?_
      have hBF := hid (below_sets hH3.out hB7 (evF (parse0 x0 x1 x2 x3 x4 x5 x6 nn x15) none 0).toList 0)
      have hRF := hid (World.rangeAt_setCells_same _ _ _ (evF (parse0 x0 x1 x2 x3 x4 x5 x6 nn x15) none 0).toList hT7)
      have hTF := hid (there_sets (evF (parse0 x0 x1 x2 x3 x4 x5 x6 nn x15) none 0).toList (Nat.le_refl 9) hT7)
      have hLF := there_lt hTF.out
      refine hK.out _ _ ?_ (hBF) ?_ (fun hHF => ?_)
      rotate_left
      · ((try simp only [Act.put, List.setIfInBounds_toArray, List.set_cons_zero, List.set_cons_succ]); exact rfl)
      clear hK K
      refine wpAnyH_done (by kernel_rfl) ?_ _
      refine hn.out _ _ ?_
      obtain ⟨B7, hB7e⟩ : ∃ B7, v1.heap.size = B7 := ⟨_, rfl⟩
      rw [hB7e] at hHF hRF hTF hLF hB7 ⊢
      obtain ⟨wf, hwf⟩ : ∃ wf, World.setCells (v1.alloc (.cells #[.int .i64 0, .int .i64 0, .int .i64 0, .int .i64 0, .int .i64 0, .int .i64 0, .int .u64 0, .bool false, .slice none 0 0] 25 (0, 0))) B7 0 (evF (parse0 x0 x1 x2 x3 x4 x5 x6 nn x15) none 0).toList = wf := ⟨_, rfl⟩
      rw [hwf] at hHF hRF hTF hLF ⊢
      have HB0 := hHF
      clear hn hp hT7 hBF hrun hby hlv hc1 hc2 hlt
      as_aux_lemma =>
        go_wp2_with fail
        go_loopw [6, 7, 8, 9, 10] (fun n i _ _ _ wr => ∃ (k : Nat) (v : Value), k ≤ m ∧ n = .int .i64 (17 + 4 * (k : Int)) ∧ i = .int .i64 k ∧ Below w1.heap.size w1 wr ∧ wr.rangeAt B7 0 [.int .i64 x0, .int .i64 (x1 * 256 + x2), .int .i64 x3, .int .i64 x4, .int .i64 x5, .int .i64 x6, .int .u64 (nn : Int), .bool (x15 == 1), v] ∧ wr.there B7 0 9 ∧ wr.ownsRow (B7 + 1) 3 1 v k (ints (vals (nums s) 17 k)) ∧ B7 < wr.heap.size) (fun n i _ _ _ _ => m - (intOf i).toNat)
        case atStart => exact ⟨0, _, Nat.zero_le _, rfl, rfl, HB0.out, hRF.out, hTF.out, World.ownsRow_nil _ _ _ _, hLF⟩
        case round =>
          obtain ⟨k, v, hk, rfl, rfl, hB, hR, hT, hO, hL⟩ := hrel
          have HB := hid hB
          have HR := hid hR
          have HT := hid hT
          have HO := hid hO
          have HL := hid hL
          clear hB hR hT hO hL
          by_cases hlt : k < m
          · have c0 : (k : Int) < (m : Int) := by omega
            have c1 : 0 ≤ 17 + 4 * (k : Int) := by omega
            have c2 : 17 + 4 * (k : Int) ≤ 17 + 4 * (k : Int) + 4 := by omega
            have c3 : 17 + 4 * (k : Int) + 4 ≤ (s.size : Int) := by omega
            have c4 : (17 + 4 * (k : Int)).toNat = 17 + 4 * k := by omega
            have c5 : (17 + 4 * (k : Int) + 4).toNat = 17 + 4 * k + 4 := by omega
            have c6 : IntKind.i64.wrap (17 + 4 * (k : Int) + 4) = 17 + 4 * (k : Int) + 4 := wraps_i64 _ (by omega) (by omega)
            have c7 : 0 ≤ 17 + 4 * (k : Int) + 4 := by omega
            have hx4 : (s.extract (17 + 4 * k) (17 + 4 * k + 4)).size = 4 := by rw [← nums_len, nums_extract, List.length_take, List.length_drop, nums_len]; omega
            have hyv : Cod.val (((nums s).drop (17 + 4 * k)).take 4) = C02.narrow (Bits.num (nums (s.extract (17 + 4 * k) (17 + 4 * k + 4)))) := by
              rw [nums_extract, show 17 + 4 * k + 4 - (17 + 4 * k) = 4 from by omega]
              unfold C02.narrow Cod.val
              rw [IntKind.wrap_i32]
            have hN := num_in4 hx4
            obtain ⟨N, hNe⟩ : ∃ N, Bits.num (nums (s.extract (17 + 4 * k) (17 + 4 * k + 4))) = N := ⟨_, rfl⟩
            rw [hNe] at hyv hN
            obtain ⟨n0, n1⟩ := hN
            have Hnar := hid fun w => C02.rnarrow_calls N (by omega) (by omega) w
            have hyin := C02.narrow_in N
            obtain ⟨y, hy⟩ : ∃ y, C02.narrow N = y := ⟨_, rfl⟩
            rw [hy] at Hnar hyv hyin
            obtain ⟨y0, y1⟩ := hyin
            have Hy := hid hyv
            obtain ⟨v1, cap, hrun, hlv, hc1, hc2, hby, hltw⟩ := conv_bytes (s.extract (17 + 4 * k) (17 + 4 * k + 4)) wr wr.heap.size rfl
            rw [hx4] at hrun hc1 hc2
            have Hfrom := hid (rfrom4 hx4 hc1 hc2 hby)
            rw [hNe] at Hfrom
            have Hrun := hid hrun
            have Hlv := hid hlv
            clear hNe hy hyv hx4 hrun hlv hc1 hc2 hby hltw
            have HB1 := hid (via HB.out Hlv.out)
            have HT1 := hid (tfacts_below ⟨HR.out, HT.out, HO.out, HL.out⟩ Hlv.out)
            have t8 : v1.cell? ⟨B7, 8, none⟩ = some v := by have := HT1.out.1 8 v rfl; rwa [Nat.zero_add] at this
            go_wp2_with (refine BigFrame.wpList_want rfl (fun K hK => wp_conv rfl rfl Hrun.out (hK _ _ ?_)))
            refine Hfrom.out.mono ?_
            rintro x w' ⟨rfl, rfl⟩
            go_wp2_with fail
            refine (Hnar.out _).mono ?_
            rintro x w' ⟨rfl, rfl⟩
            go_wp2_with (refine wpList_append_own _ rfl _ _ 23 rfl (B7 + 1) 3 j0 (.int .i64 0) 1 8 Try.underlying23 j1 j2 j3 j4 rfl (by decide) v k (ints (vals (nums s) 17 k)) rfl (HT1.out.2.2.1.alloc _) ⟨v1.heap.size, 0, none⟩ 1 1 [.int .i64 y] rfl rfl (fun j u hj => by rw [Addr.add_mid]; exact (range_new v1 #[.int .i64 y] 3) j u hj) (by intro u hu; simp at hu; subst hu; rfl) (by unfold maxLen; omega) (by omega) (by have := HT1.out.2.2.2; simp; omega) ?_)
            intro v' wn hown hgrow _
            have hT := tfacts_below HT1.out (grow v1 (.cells #[.int .i64 y] 3 (0, 0)))
            have hne : some B7 ≠ v.ownBlock := by intro hq; have := (hT.2.2.1.lt B7 hq.symm).1; omega
            have hRn := range_grown hgrow hne hT.1
            have hTn := there_grown hgrow hne hT.2.1
            have hbw := below_grown (HB1.out.alloc HB1.out.size _) hgrow (fun gg hg => by have := (hT.2.2.1.lt gg hg).1; omega)
            obtain ⟨A', c', hvs⟩ := owns_slice hown
            subst hvs
            have hown2 := hid hown
            have hc8 : wn.cell? ⟨B7, 8, none⟩ = some v := by have := hRn 8 v rfl; rwa [Nat.zero_add] at this
            have hf8 : wn.frozen? ⟨B7, 8, none⟩ = false := by have := (hTn 8 (by omega)).2; rwa [Nat.zero_add] at this
            have hRF := hid (range_set8 (.slice A' (k + 1) c') hRn)
            have hTF := hid (there_set (v := (.slice A' (k + 1) c')) (i := 8) hTn)
            have hOF := hid (owns_set (v := (.slice A' (k + 1) c')) (i := 8) hown2.out (Nat.lt_succ_self B7))
            have hLF : Hid (B7 < (wn.setCell ⟨B7, 8, none⟩ (.slice A' (k + 1) c')).heap.size) := hid (there_lt hTF.out)
            have hHF := hid (Below.setCell hbw (show w1.heap.size ≤ (⟨B7, 8, none⟩ : Addr).block from hB7) (.slice A' (k + 1) c'))
            clear hown hgrow hT hne hRn hTn hbw hown2 t8
            go_wp2_with fail
            go_roundw
            case rel => exact ⟨k + 1, _, by omega, by rw [show (17 : Int) + 4 * (k : Int) + 4 = 17 + 4 * ((k + 1 : Nat) : Int) from by omega], by go_num, hHF.out, hRF.out, hTF.out, by rw [show vals (nums s) 17 (k + 1) = vals (nums s) 17 k ++ [Cod.val (((nums s).drop (17 + 4 * k)).take 4)] from rfl, Hy.out, ints_append]; exact hOF.out, hLF.out⟩
            case measure => simp [intOf]; omega
          · obtain rfl : k = m := by omega
            obtain ⟨A, c, rfl, hrow⟩ := owns_int HO.out (vals_len _ _ _)
            have HNe : Hid (∀ b o, A = some ⟨b, o, none⟩ → b ≠ w.heap.size) := by
              intro b o hA
              have := HW1.out.1
              have := (HO.out.lt b (by rw [hA]; rfl)).1
              omega
            have HFr : Hid (∀ b o, A = some ⟨b, o, none⟩ → w.heap.size ≤ b) := by
              intro b o hA
              have := HW1.out.1
              have := (HO.out.lt b (by rw [hA]; rfl)).1
              omega
            have HRe : Hid (wr.rangeAt B7 0 (evF e A c).toList) := by
              show World.rangeAt _ _ _ _
              rw [he.out]
              exact HR.out
            have HRow : Hid (RowI wr A e.vals) := by
              show RowI _ _ _
              rw [he.out]
              exact hrow
            have hvl2 : Hid (e.vals.length = k) := by show e.vals.length = k; rw [he.out]; exact vals_len _ _ _
            have Hput := hid fun w (hr : RowI w A e.vals) => rput_calls e A c w hfit (by rw [hvl2.out]; omega) hr
            clear hrow HR HO
            have hbq : ((strOfNums (put e)).toList == (s.extract 0 (17 + 4 * k)).toList) = !bq := by
              rw [← beq_toListBytes]
              have := HBQ.out
              unfold bne at this
              rw [← this, Bool.not_not]
            have e1 : (17 + 4 * (k : Int)).toNat = 17 + 4 * k := by omega
            have e2 : 0 ≤ 17 + 4 * (k : Int) := by omega
            go_wp2_with fail
            refine Rg.start2 (S := fun w' => Hid (Below w1.heap.size w1 w' ∧ w'.rangeAt B7 0 (evF e A c).toList)) (T := fun w' => Hid (RowI w' A e.vals)) (by kernel_rfl) (fun _ _ _ _ _ h => h) (hid ⟨HB.out.drew, HRe.out⟩) (hid HRow.out) ?_
            intro Q hp hn wz hH0 hT0
            refine Rg.tk (i := 0) rfl hp ?_
            refine ⟨_, ?_, by kernel_rfl, by kernel_rfl, by kernel_rfl, yieldsIf_load_mid (by rfl) 25 _ rfl B7 0 rfl (evF e A c).toList _ (fun w hSw => hSw.out.2) Try.underlying25 rfl hi9, hH0, ?_, ?_⟩
            rotate_left
            · ((try simp only [Act.put, List.setIfInBounds_toArray, List.set_cons_zero, List.set_cons_succ]); exact rfl)
            refine Rg.tk (i := 2) rfl hp ?_
            refine ⟨?_, ?_, by kernel_rfl, by kernel_rfl, by kernel_rfl, Or.inl ⟨by rfl, ?_⟩, hH0, ?_, ?_⟩
            rotate_left 2
            · (intro w hSw; clear hSw; go_simp; try with_reducible rfl)
            · ((try simp only [Act.put, List.setIfInBounds_toArray, List.set_cons_zero, List.set_cons_succ]); exact rfl)
            refine Rg.tk (i := 3) rfl hp ?_
            refine ⟨?_, ?_, by kernel_rfl, by kernel_rfl, by kernel_rfl, Or.inl ⟨by rfl, ?_⟩, hH0, ?_, ?_⟩
            rotate_left 2
            · (intro w hSw; clear hSw; go_simp; try with_reducible rfl)
            · ((try simp only [Act.put, List.setIfInBounds_toArray, List.set_cons_zero, List.set_cons_succ]); exact rfl)
            refine Rg.tk (i := 4) rfl hp ?_
            refine ⟨?_, ?_, by kernel_rfl, by kernel_rfl, by kernel_rfl, Or.inl ⟨by rfl, ?_⟩, hH0, ?_, ?_⟩
            rotate_left 2
            · (intro w hSw; clear hSw; go_simp; try with_reducible rfl)
            · ((try simp only [Act.put, List.setIfInBounds_toArray, List.set_cons_zero, List.set_cons_succ]); exact rfl)
            refine Rg.one (i := 1) rfl ⟨by kernel_rfl, by rfl, fun K hK => ?_⟩
            go_simp
            refine (Hput.out _ hT0.out).mono ?_
            rintro x u1 ⟨rfl, hl1⟩
            have HRow1 := hid (hT0.out.below hl1)
            refine hK.out _ _ ?_ (hid ⟨via hH0.out.1 hl1, range_below hl1 hH0.out.2⟩) ?_ (fun hH1 => ?_)
            rotate_left
            · ((try simp only [Act.put, List.setIfInBounds_toArray, List.set_cons_zero, List.set_cons_succ]); exact rfl)
            clear hK K
            refine Rg.tk (i := 5) rfl hp ?_
            refine ⟨?_, ?_, by kernel_rfl, by kernel_rfl, by kernel_rfl, Or.inl ⟨by rfl, ?_⟩, hH1, ?_, ?_⟩
            rotate_left 2
            · (intro w hSw; clear hSw; go_simp; try with_reducible rfl)
            · ((try simp only [Act.put, List.setIfInBounds_toArray, List.set_cons_zero, List.set_cons_succ]); exact rfl)
            refine wpAnyH_done (by kernel_rfl) ?_ _
            refine hn.out _ _ ?_
            have HU : Hid (Below w.heap.size w u1 ∧ u1.there w.heap.size 0 9) := hid ⟨HW1.out.2.1.trans (hH1.out.1.mono (by have := HW1.out.1; omega)), there_below HW1.out.2.2 hH1.out.1⟩
            cases bq with
            | true =>
              go_wp2_with (refine wpList_store_mid rfl 25 _ _ rfl w.heap.size 0 (evF zero none 0) rfl rfl HU.out.2 hi9 (evF_one _ _ _) ?_)
              have hRz := World.rangeAt_setCells_same u1 w.heap.size 0 (evF zero none 0).toList HU.out.2
              have hBz := below_sets HU.out.1 (Nat.le_refl _) (evF zero none 0).toList 0
              generalize (u1.setCells w.heap.size 0 (evF zero none 0).toList) = wf2 at *
              refine bodyPost_ret (rres_take _ _ w.heap.size (evF zero none 0) ⟨#[]⟩ 2 rfl rfl rfl hRz rfl) rfl ⟨fun _ => rfl, (fun h => by cases h), hBz⟩
            | false =>
              go_wp2_with fail
              refine Rg.start2 (S := fun w' => Hid (Below w.heap.size w w' ∧ w'.rangeAt B7 0 (evF e A c).toList ∧ w'.there w.heap.size 0 9)) (T := fun w' => Hid (RowI w' A e.vals)) (by kernel_rfl) (fun _ _ _ _ _ h => h) (hid ⟨HU.out.1.drew, hH1.out.2, HU.out.2⟩) (hid HRow1.out) ?_
              intro Q hp hn wz2 hH2 hT2
              refine Rg.tk (i := 0) rfl hp ?_
              refine ⟨_, ?_, by kernel_rfl, by kernel_rfl, by kernel_rfl, yieldsIf_load_mid (by rfl) 25 _ rfl B7 0 rfl (evF e A c).toList _ (fun w hSw => hSw.out.2.1) Try.underlying25 rfl hi9, hH2, ?_, ?_⟩
              rotate_left
              · ((try simp only [Act.put, List.setIfInBounds_toArray, List.set_cons_zero, List.set_cons_succ]); exact rfl)
              refine Rg.tk (i := 1) rfl hp ?_
              refine ⟨?_, ?_, by kernel_rfl, by kernel_rfl, by kernel_rfl, Or.inl ⟨by rfl, ?_⟩, hH2, ?_, ?_⟩
              rotate_left 2
              · (intro w hSw; clear hSw; go_simp; try with_reducible rfl)
              · ((try simp only [Act.put, List.setIfInBounds_toArray, List.set_cons_zero, List.set_cons_succ]); exact rfl)
              refine Rg.tk (i := 2) rfl hp ?_
              refine ⟨?_, ?_, by kernel_rfl, by kernel_rfl, by kernel_rfl, Or.inl ⟨by rfl, ?_⟩, hH2, ?_, ?_⟩
              rotate_left 2
              · (intro w hSw; clear hSw; go_simp; try with_reducible rfl)
              · ((try simp only [Act.put, List.setIfInBounds_toArray, List.set_cons_zero, List.set_cons_succ]); exact rfl)
              refine Rg.tk (i := 3) rfl hp ?_
              refine ⟨?_, ?_, by kernel_rfl, by kernel_rfl, by kernel_rfl, Or.inl ⟨by rfl, ?_⟩, hH2, ?_, ?_⟩
              rotate_left 2
              · (intro w hSw; clear hSw; go_simp; try with_reducible rfl)
              · ((try simp only [Act.put, List.setIfInBounds_toArray, List.set_cons_zero, List.set_cons_succ]); exact rfl)
              refine Rg.one (i := 4) rfl ⟨by kernel_rfl, by rfl, fun K hK => ?_⟩
              refine wp_store_mid 25 _ _ rfl w.heap.size 0 (evF e A c) rfl rfl hH2.out.2.2 hi9 (evF_one _ _ _) ?_
              have hB2 := below_sets hH2.out.1 (Nat.le_refl _) (evF e A c).toList 0
              have hR2 := World.rangeAt_setCells_same _ _ _ (evF e A c).toList hH2.out.2.2
              have hR7 := range_sets (C := w.heap.size) (show B7 ≠ w.heap.size by have := HW1.out.1; omega) (evF e A c).toList 0 hH2.out.2.1
              have hT3 := there_sets (evF e A c).toList (Nat.le_refl 9) hH2.out.2.2
              have hRw := row_sets (C := w.heap.size) hT2.out HNe.out (evF e A c).toList 0
              refine hK.out _ _ ?_ (hid ⟨hB2, hR7, hT3⟩) ?_ (fun hHF2 => ?_)
              rotate_left
              · ((try simp only [Act.put, List.setIfInBounds_toArray, List.set_cons_zero, List.set_cons_succ]); exact rfl)
              clear hK K
              refine Rg.tk (i := 5) rfl hp ?_
              refine ⟨?_, ?_, by kernel_rfl, by kernel_rfl, by kernel_rfl, Or.inl ⟨by rfl, ?_⟩, hHF2, ?_, ?_⟩
              rotate_left 2
              · (intro w hSw; clear hSw; go_simp; try with_reducible rfl)
              · ((try simp only [Act.put, List.setIfInBounds_toArray, List.set_cons_zero, List.set_cons_succ]); exact rfl)
              refine Rg.tk (i := 6) rfl hp ?_
              refine ⟨?_, ?_, by kernel_rfl, by kernel_rfl, by kernel_rfl, Or.inl ⟨by rfl, ?_⟩, hHF2, ?_, ?_⟩
              rotate_left 2
              · (intro w hSw; clear hSw; go_simp; try with_reducible rfl)
              · ((try simp only [Act.put, List.setIfInBounds_toArray, List.set_cons_zero, List.set_cons_succ]); exact rfl)
              refine wpAnyH_done (by kernel_rfl) ?_ _
              refine hn.out _ _ ?_
              generalize (wz2.setCells w.heap.size 0 (evF e A c).toList) = wf2 at *
              go_wp2_with fail
              refine bodyPost_ret (rres_take _ _ w.heap.size (evF e A c) (s.extract (17 + 4 * k) s.size) 0 rfl rfl rfl hR2 rfl) rfl ⟨(fun h => by cases h), fun _ => ⟨A, c, rfl, hRw, HFr.out⟩, hB2⟩

    · skip
      go_simp
      refine hK.out _ _ ?_ (hid (hH1.out.alloc hH1.out.size _)) ?_ (fun hH4 => ?_)
      rotate_left
      · ((try simp only [Act.put, List.setIfInBounds_toArray, List.set_cons_zero, List.set_cons_succ]); exact rfl)
      clear hK K
      refine Rg.one (i := 26) rfl ⟨by kernel_rfl, by rfl, fun K hK => ?_⟩
      go_simp
      refine (rfrom8 hx8 hc1 hc2 (bytesAt_below hby (grow _ _))).mono ?_
      rintro x w' ⟨rfl, rfl⟩
      rw [hnn]
      refine hK.out _ _ ?_ (hH4) ?_ (fun hH5 => ?_)
      rotate_left
      · ((try simp only [Act.put, List.setIfInBounds_toArray, List.set_cons_zero, List.set_cons_succ]); exact rfl)
      clear hK K
      refine Rg.tk (i := 30) rfl hp ?_
      refine ⟨?_, ?_, by kernel_rfl, by kernel_rfl, by kernel_rfl, Or.inl ⟨by rfl, ?_⟩, hH5, ?_, ?_⟩
      rotate_left 2
      · (intro w hSw; clear hSw; go_simp; try with_reducible rfl)
      · ((try simp only [Act.put, List.setIfInBounds_toArray, List.set_cons_zero, List.set_cons_succ]); exact rfl)
      refine Rg.one (i := 32) rfl ⟨by kernel_rfl, by rfl, fun K hK => ?_⟩
      have hT7 := there_new v1 #[.int .i64 0, .int .i64 0, .int .i64 0, .int .i64 0, .int .i64 0, .int .i64 0, .int .u64 0, .bool false, .slice none 0 0] 25 9 (by decide)
      have hB7 : w1.heap.size ≤ v1.heap.size := by have := hH1.out.size; omega
      refine wp_store_mid 25 _ _ rfl (v1.heap.size) 0 (evF (parse0 x0 x1 x2 x3 x4 x5 x6 nn x15) none 0) rfl rfl hT7 hi9 (evF_one _ _ _) ?_
      have hBF := hid (below_sets hH5.out hB7 (evF (parse0 x0 x1 x2 x3 x4 x5 x6 nn x15) none 0).toList 0)
      have hRF := hid (World.rangeAt_setCells_same _ _ _ (evF (parse0 x0 x1 x2 x3 x4 x5 x6 nn x15) none 0).toList hT7)
      have hTF := hid (there_sets (evF (parse0 x0 x1 x2 x3 x4 x5 x6 nn x15) none 0).toList (Nat.le_refl 9) hT7)
      have hLF := there_lt hTF.out
      refine hK.out _ _ ?_ (hBF) ?_ (fun hHF => ?_)
      rotate_left
      · ((try simp only [Act.put, List.setIfInBounds_toArray, List.set_cons_zero, List.set_cons_succ]); exact rfl)
      clear hK K
      refine wpAnyH_done (by kernel_rfl) ?_ _
      refine hn.out _ _ ?_
      obtain ⟨B7, hB7e⟩ : ∃ B7, v1.heap.size = B7 := ⟨_, rfl⟩
      rw [hB7e] at hHF hRF hTF hLF hB7 ⊢
      obtain ⟨wf, hwf⟩ : ∃ wf, World.setCells (v1.alloc (.cells #[.int .i64 0, .int .i64 0, .int .i64 0, .int .i64 0, .int .i64 0, .int .i64 0, .int .u64 0, .bool false, .slice none 0 0] 25 (0, 0))) B7 0 (evF (parse0 x0 x1 x2 x3 x4 x5 x6 nn x15) none 0).toList = wf := ⟨_, rfl⟩
      rw [hwf] at hHF hRF hTF hLF ⊢
      have HB0 := hHF
      clear hn hp hT7 hBF hrun hby hlv hc1 hc2 hlt
      as_aux_lemma =>
        go_wp2_with fail
        go_loopw [6, 7, 8, 9, 10] (fun n i _ _ _ wr => ∃ (k : Nat) (v : Value), k ≤ m ∧ n = .int .i64 (17 + 4 * (k : Int)) ∧ i = .int .i64 k ∧ Below w1.heap.size w1 wr ∧ wr.rangeAt B7 0 [.int .i64 x0, .int .i64 (x1 * 256 + x2), .int .i64 x3, .int .i64 x4, .int .i64 x5, .int .i64 x6, .int .u64 (nn : Int), .bool (x15 == 1), v] ∧ wr.there B7 0 9 ∧ wr.ownsRow (B7 + 1) 3 1 v k (ints (vals (nums s) 17 k)) ∧ B7 < wr.heap.size) (fun n i _ _ _ _ => m - (intOf i).toNat)
        case atStart => exact ⟨0, _, Nat.zero_le _, rfl, rfl, HB0.out, hRF.out, hTF.out, World.ownsRow_nil _ _ _ _, hLF⟩
        case round =>
          obtain ⟨k, v, hk, rfl, rfl, hB, hR, hT, hO, hL⟩ := hrel
          have HB := hid hB
          have HR := hid hR
          have HT := hid hT
          have HO := hid hO
          have HL := hid hL
          clear hB hR hT hO hL
          by_cases hlt : k < m
          · have c0 : (k : Int) < (m : Int) := by omega
            have c1 : 0 ≤ 17 + 4 * (k : Int) := by omega
            have c2 : 17 + 4 * (k : Int) ≤ 17 + 4 * (k : Int) + 4 := by omega
            have c3 : 17 + 4 * (k : Int) + 4 ≤ (s.size : Int) := by omega
            have c4 : (17 + 4 * (k : Int)).toNat = 17 + 4 * k := by omega
            have c5 : (17 + 4 * (k : Int) + 4).toNat = 17 + 4 * k + 4 := by omega
            have c6 : IntKind.i64.wrap (17 + 4 * (k : Int) + 4) = 17 + 4 * (k : Int) + 4 := wraps_i64 _ (by omega) (by omega)
            have c7 : 0 ≤ 17 + 4 * (k : Int) + 4 := by omega
            have hx4 : (s.extract (17 + 4 * k) (17 + 4 * k + 4)).size = 4 := by rw [← nums_len, nums_extract, List.length_take, List.length_drop, nums_len]; omega
            have hyv : Cod.val (((nums s).drop (17 + 4 * k)).take 4) = C02.narrow (Bits.num (nums (s.extract (17 + 4 * k) (17 + 4 * k + 4)))) := by
              rw [nums_extract, show 17 + 4 * k + 4 - (17 + 4 * k) = 4 from by omega]
              unfold C02.narrow Cod.val
              rw [IntKind.wrap_i32]
            have hN := num_in4 hx4
            obtain ⟨N, hNe⟩ : ∃ N, Bits.num (nums (s.extract (17 + 4 * k) (17 + 4 * k + 4))) = N := ⟨_, rfl⟩
            rw [hNe] at hyv hN
            obtain ⟨n0, n1⟩ := hN
            have Hnar := hid fun w => C02.rnarrow_calls N (by omega) (by omega) w
            have hyin := C02.narrow_in N
            obtain ⟨y, hy⟩ : ∃ y, C02.narrow N = y := ⟨_, rfl⟩
            rw [hy] at Hnar hyv hyin
            obtain ⟨y0, y1⟩ := hyin
            have Hy := hid hyv
            obtain ⟨v1, cap, hrun, hlv, hc1, hc2, hby, hltw⟩ := conv_bytes (s.extract (17 + 4 * k) (17 + 4 * k + 4)) wr wr.heap.size rfl
            rw [hx4] at hrun hc1 hc2
            have Hfrom := hid (rfrom4 hx4 hc1 hc2 hby)
            rw [hNe] at Hfrom
            have Hrun := hid hrun
            have Hlv := hid hlv
            clear hNe hy hyv hx4 hrun hlv hc1 hc2 hby hltw
            have HB1 := hid (via HB.out Hlv.out)
            have HT1 := hid (tfacts_below ⟨HR.out, HT.out, HO.out, HL.out⟩ Hlv.out)
            have t8 : v1.cell? ⟨B7, 8, none⟩ = some v := by have := HT1.out.1 8 v rfl; rwa [Nat.zero_add] at this
            go_wp2_with (refine BigFrame.wpList_want rfl (fun K hK => wp_conv rfl rfl Hrun.out (hK _ _ ?_)))
            refine Hfrom.out.mono ?_
            rintro x w' ⟨rfl, rfl⟩
            go_wp2_with fail
            refine (Hnar.out _).mono ?_
            rintro x w' ⟨rfl, rfl⟩
            go_wp2_with (refine wpList_append_own _ rfl _ _ 23 rfl (B7 + 1) 3 j0 (.int .i64 0) 1 8 Try.underlying23 j1 j2 j3 j4 rfl (by decide) v k (ints (vals (nums s) 17 k)) rfl (HT1.out.2.2.1.alloc _) ⟨v1.heap.size, 0, none⟩ 1 1 [.int .i64 y] rfl rfl (fun j u hj => by rw [Addr.add_mid]; exact (range_new v1 #[.int .i64 y] 3) j u hj) (by intro u hu; simp at hu; subst hu; rfl) (by unfold maxLen; omega) (by omega) (by have := HT1.out.2.2.2; simp; omega) ?_)
            intro v' wn hown hgrow _
            have hT := tfacts_below HT1.out (grow v1 (.cells #[.int .i64 y] 3 (0, 0)))
            have hne : some B7 ≠ v.ownBlock := by intro hq; have := (hT.2.2.1.lt B7 hq.symm).1; omega
            have hRn := range_grown hgrow hne hT.1
            have hTn := there_grown hgrow hne hT.2.1
            have hbw := below_grown (HB1.out.alloc HB1.out.size _) hgrow (fun gg hg => by have := (hT.2.2.1.lt gg hg).1; omega)
            obtain ⟨A', c', hvs⟩ := owns_slice hown
            subst hvs
            have hown2 := hid hown
            have hc8 : wn.cell? ⟨B7, 8, none⟩ = some v := by have := hRn 8 v rfl; rwa [Nat.zero_add] at this
            have hf8 : wn.frozen? ⟨B7, 8, none⟩ = false := by have := (hTn 8 (by omega)).2; rwa [Nat.zero_add] at this
            have hRF := hid (range_set8 (.slice A' (k + 1) c') hRn)
            have hTF := hid (there_set (v := (.slice A' (k + 1) c')) (i := 8) hTn)
            have hOF := hid (owns_set (v := (.slice A' (k + 1) c')) (i := 8) hown2.out (Nat.lt_succ_self B7))
            have hLF : Hid (B7 < (wn.setCell ⟨B7, 8, none⟩ (.slice A' (k + 1) c')).heap.size) := hid (there_lt hTF.out)
            have hHF := hid (Below.setCell hbw (show w1.heap.size ≤ (⟨B7, 8, none⟩ : Addr).block from hB7) (.slice A' (k + 1) c'))
            clear hown hgrow hT hne hRn hTn hbw hown2 t8
            go_wp2_with fail
            go_roundw
            case rel => exact ⟨k + 1, _, by omega, by rw [show (17 : Int) + 4 * (k : Int) + 4 = 17 + 4 * ((k + 1 : Nat) : Int) from by omega], by go_num, hHF.out, hRF.out, hTF.out, by rw [show vals (nums s) 17 (k + 1) = vals (nums s) 17 k ++ [Cod.val (((nums s).drop (17 + 4 * k)).take 4)] from rfl, Hy.out, ints_append]; exact hOF.out, hLF.out⟩
            case measure => simp [intOf]; omega
          · obtain rfl : k = m := by omega
            obtain ⟨A, c, rfl, hrow⟩ := owns_int HO.out (vals_len _ _ _)
            have HNe : Hid (∀ b o, A = some ⟨b, o, none⟩ → b ≠ w.heap.size) := by
              intro b o hA
              have := HW1.out.1
              have := (HO.out.lt b (by rw [hA]; rfl)).1
              omega
            have HFr : Hid (∀ b o, A = some ⟨b, o, none⟩ → w.heap.size ≤ b) := by
              intro b o hA
              have := HW1.out.1
              have := (HO.out.lt b (by rw [hA]; rfl)).1
              omega
            have HRe : Hid (wr.rangeAt B7 0 (evF e A c).toList) := by
              show World.rangeAt _ _ _ _
              rw [he.out]
              exact HR.out
            have HRow : Hid (RowI wr A e.vals) := by
              show RowI _ _ _
              rw [he.out]
              exact hrow
            have hvl2 : Hid (e.vals.length = k) := by show e.vals.length = k; rw [he.out]; exact vals_len _ _ _
            have Hput := hid fun w (hr : RowI w A e.vals) => rput_calls e A c w hfit (by rw [hvl2.out]; omega) hr
            clear hrow HR HO
            have hbq : ((strOfNums (put e)).toList == (s.extract 0 (17 + 4 * k)).toList) = !bq := by
              rw [← beq_toListBytes]
              have := HBQ.out
              unfold bne at this
              rw [← this, Bool.not_not]
            have e1 : (17 + 4 * (k : Int)).toNat = 17 + 4 * k := by omega
            have e2 : 0 ≤ 17 + 4 * (k : Int) := by omega
            go_wp2_with fail
            refine Rg.start2 (S := fun w' => Hid (Below w1.heap.size w1 w' ∧ w'.rangeAt B7 0 (evF e A c).toList)) (T := fun w' => Hid (RowI w' A e.vals)) (by kernel_rfl) (fun _ _ _ _ _ h => h) (hid ⟨HB.out.drew, HRe.out⟩) (hid HRow.out) ?_
            intro Q hp hn wz hH0 hT0
            refine Rg.tk (i := 0) rfl hp ?_
            refine ⟨_, ?_, by kernel_rfl, by kernel_rfl, by kernel_rfl, yieldsIf_load_mid (by rfl) 25 _ rfl B7 0 rfl (evF e A c).toList _ (fun w hSw => hSw.out.2) Try.underlying25 rfl hi9, hH0, ?_, ?_⟩
            rotate_left
            · ((try simp only [Act.put, List.setIfInBounds_toArray, List.set_cons_zero, List.set_cons_succ]); exact rfl)
            refine Rg.tk (i := 2) rfl hp ?_
            refine ⟨?_, ?_, by kernel_rfl, by kernel_rfl, by kernel_rfl, Or.inl ⟨by rfl, ?_⟩, hH0, ?_, ?_⟩
            rotate_left 2
            · (intro w hSw; clear hSw; go_simp; try with_reducible rfl)
            · ((try simp only [Act.put, List.setIfInBounds_toArray, List.set_cons_zero, List.set_cons_succ]); exact rfl)
            refine Rg.tk (i := 3) rfl hp ?_
            refine ⟨?_, ?_, by kernel_rfl, by kernel_rfl, by kernel_rfl, Or.inl ⟨by rfl, ?_⟩, hH0, ?_, ?_⟩
            rotate_left 2
            · (intro w hSw; clear hSw; go_simp; try with_reducible rfl)
            · ((try simp only [Act.put, List.setIfInBounds_toArray, List.set_cons_zero, List.set_cons_succ]); exact rfl)
            refine Rg.tk (i := 4) rfl hp ?_
            refine ⟨?_, ?_, by kernel_rfl, by kernel_rfl, by kernel_rfl, Or.inl ⟨by rfl, ?_⟩, hH0, ?_, ?_⟩
            rotate_left 2
            · (intro w hSw; clear hSw; go_simp; try with_reducible rfl)
            · ((try simp only [Act.put, List.setIfInBounds_toArray, List.set_cons_zero, List.set_cons_succ]); exact rfl)
            refine Rg.one (i := 1) rfl ⟨by kernel_rfl, by rfl, fun K hK => ?_⟩
            go_simp
            refine (Hput.out _ hT0.out).mono ?_
            rintro x u1 ⟨rfl, hl1⟩
            have HRow1 := hid (hT0.out.below hl1)
            refine hK.out _ _ ?_ (hid ⟨via hH0.out.1 hl1, range_below hl1 hH0.out.2⟩) ?_ (fun hH1 => ?_)
            rotate_left
            · ((try simp only [Act.put, List.setIfInBounds_toArray, List.set_cons_zero, List.set_cons_succ]); exact rfl)
            clear hK K
            refine Rg.tk (i := 5) rfl hp ?_
            refine ⟨?_, ?_, by kernel_rfl, by kernel_rfl, by kernel_rfl, Or.inl ⟨by rfl, ?_⟩, hH1, ?_, ?_⟩
            rotate_left 2
            · (intro w hSw; clear hSw; go_simp; try with_reducible rfl)
            · ((try simp only [Act.put, List.setIfInBounds_toArray, List.set_cons_zero, List.set_cons_succ]); exact rfl)
            refine wpAnyH_done (by kernel_rfl) ?_ _
            refine hn.out _ _ ?_
            have HU : Hid (Below w.heap.size w u1 ∧ u1.there w.heap.size 0 9) := hid ⟨HW1.out.2.1.trans (hH1.out.1.mono (by have := HW1.out.1; omega)), there_below HW1.out.2.2 hH1.out.1⟩
            cases bq with
            | true =>
              go_wp2_with (refine wpList_store_mid rfl 25 _ _ rfl w.heap.size 0 (evF zero none 0) rfl rfl HU.out.2 hi9 (evF_one _ _ _) ?_)
              have hRz := World.rangeAt_setCells_same u1 w.heap.size 0 (evF zero none 0).toList HU.out.2
              have hBz := below_sets HU.out.1 (Nat.le_refl _) (evF zero none 0).toList 0
              generalize (u1.setCells w.heap.size 0 (evF zero none 0).toList) = wf2 at *
              refine bodyPost_ret (rres_take _ _ w.heap.size (evF zero none 0) ⟨#[]⟩ 2 rfl rfl rfl hRz rfl) rfl ⟨fun _ => rfl, (fun h => by cases h), hBz⟩
            | false =>
              go_wp2_with fail
              refine Rg.start2 (S := fun w' => Hid (Below w.heap.size w w' ∧ w'.rangeAt B7 0 (evF e A c).toList ∧ w'.there w.heap.size 0 9)) (T := fun w' => Hid (RowI w' A e.vals)) (by kernel_rfl) (fun _ _ _ _ _ h => h) (hid ⟨HU.out.1.drew, hH1.out.2, HU.out.2⟩) (hid HRow1.out) ?_
              intro Q hp hn wz2 hH2 hT2
              refine Rg.tk (i := 0) rfl hp ?_
              refine ⟨_, ?_, by kernel_rfl, by kernel_rfl, by kernel_rfl, yieldsIf_load_mid (by rfl) 25 _ rfl B7 0 rfl (evF e A c).toList _ (fun w hSw => hSw.out.2.1) Try.underlying25 rfl hi9, hH2, ?_, ?_⟩
              rotate_left
              · ((try simp only [Act.put, List.setIfInBounds_toArray, List.set_cons_zero, List.set_cons_succ]); exact rfl)
              refine Rg.tk (i := 1) rfl hp ?_
              refine ⟨?_, ?_, by kernel_rfl, by kernel_rfl, by kernel_rfl, Or.inl ⟨by rfl, ?_⟩, hH2, ?_, ?_⟩
              rotate_left 2
              · (intro w hSw; clear hSw; go_simp; try with_reducible rfl)
              · ((try simp only [Act.put, List.setIfInBounds_toArray, List.set_cons_zero, List.set_cons_succ]); exact rfl)
              refine Rg.tk (i := 2) rfl hp ?_
              refine ⟨?_, ?_, by kernel_rfl, by kernel_rfl, by kernel_rfl, Or.inl ⟨by rfl, ?_⟩, hH2, ?_, ?_⟩
              rotate_left 2
              · (intro w hSw; clear hSw; go_simp; try with_reducible rfl)
              · ((try simp only [Act.put, List.setIfInBounds_toArray, List.set_cons_zero, List.set_cons_succ]); exact rfl)
              refine Rg.tk (i := 3) rfl hp ?_
              refine ⟨?_, ?_, by kernel_rfl, by kernel_rfl, by kernel_rfl, Or.inl ⟨by rfl, ?_⟩, hH2, ?_, ?_⟩
              rotate_left 2
              · (intro w hSw; clear hSw; go_simp; try with_reducible rfl)
              · ((try simp only [Act.put, List.setIfInBounds_toArray, List.set_cons_zero, List.set_cons_succ]); exact rfl)
              refine Rg.one (i := 4) rfl ⟨by kernel_rfl, by rfl, fun K hK => ?_⟩
              refine wp_store_mid 25 _ _ rfl w.heap.size 0 (evF e A c) rfl rfl hH2.out.2.2 hi9 (evF_one _ _ _) ?_
              have hB2 := below_sets hH2.out.1 (Nat.le_refl _) (evF e A c).toList 0
              have hR2 := World.rangeAt_setCells_same _ _ _ (evF e A c).toList hH2.out.2.2
              have hR7 := range_sets (C := w.heap.size) (show B7 ≠ w.heap.size by have := HW1.out.1; omega) (evF e A c).toList 0 hH2.out.2.1
              have hT3 := there_sets (evF e A c).toList (Nat.le_refl 9) hH2.out.2.2
              have hRw := row_sets (C := w.heap.size) hT2.out HNe.out (evF e A c).toList 0
              refine hK.out _ _ ?_ (hid ⟨hB2, hR7, hT3⟩) ?_ (fun hHF2 => ?_)
              rotate_left
              · ((try simp only [Act.put, List.setIfInBounds_toArray, List.set_cons_zero, List.set_cons_succ]); exact rfl)
              clear hK K
              refine Rg.tk (i := 5) rfl hp ?_
              refine ⟨?_, ?_, by kernel_rfl, by kernel_rfl, by kernel_rfl, Or.inl ⟨by rfl, ?_⟩, hHF2, ?_, ?_⟩
              rotate_left 2
              · (intro w hSw; clear hSw; go_simp; try with_reducible rfl)
              · ((try simp only [Act.put, List.setIfInBounds_toArray, List.set_cons_zero, List.set_cons_succ]); exact rfl)
              refine Rg.tk (i := 6) rfl hp ?_
              refine ⟨?_, ?_, by kernel_rfl, by kernel_rfl, by kernel_rfl, Or.inl ⟨by rfl, ?_⟩, hHF2, ?_, ?_⟩
              rotate_left 2
              · (intro w hSw; clear hSw; go_simp; try with_reducible rfl)
              · ((try simp only [Act.put, List.setIfInBounds_toArray, List.set_cons_zero, List.set_cons_succ]); exact rfl)
              refine wpAnyH_done (by kernel_rfl) ?_ _
              refine hn.out _ _ ?_
              generalize (wz2.setCells w.heap.size 0 (evF e A c).toList) = wf2 at *
              go_wp2_with fail
              refine bodyPost_ret (rres_take _ _ w.heap.size (evF e A c) (s.extract (17 + 4 * k) s.size) 0 rfl rfl rfl hR2 rfl) rfl ⟨(fun h => by cases h), fun _ => ⟨A, c, rfl, hRw, HFr.out⟩, hB2⟩

  · skip
    go_simp
    refine hK.out _ _ ?_ (hid (hH0.out.alloc hH0.out.size _)) ?_ (fun hH6 => ?_)
    rotate_left
    · ((try simp only [Act.put, List.setIfInBounds_toArray, List.set_cons_zero, List.set_cons_succ]); exact rfl)
    clear hK K
    refine Rg.one (i := 25) rfl ⟨by kernel_rfl, by rfl, fun K hK => ?_⟩
    obtain ⟨v7, cap, hrun, hlv, hc1, hc2, hby, hlt⟩ := conv_bytes (s.extract 7 15) (wz.alloc (.cells #[.int .i64 0, .int .i64 0, .int .i64 0, .int .i64 0, .int .i64 0, .int .i64 0, .int .u64 0, .bool false, .slice none 0 0] 25 (0, 0))) (wz.heap.size + 1) (by simp)
    rw [hx8] at hrun hc1 hc2
    refine wp_conv rfl rfl hrun ?_
    refine hK.out _ _ ?_ (hid (via hH6.out hlv)) ?_ (fun hH7 => ?_)
    rotate_left
    · ((try simp only [Act.put, List.setIfInBounds_toArray, List.set_cons_zero, List.set_cons_succ]); exact rfl)
    clear hK K
    refine Rg.one (i := 26) rfl ⟨by kernel_rfl, by rfl, fun K hK => ?_⟩
    go_simp
    refine (rfrom8 hx8 hc1 hc2 (hby)).mono ?_
    rintro x w' ⟨rfl, rfl⟩
    rw [hnn]
    refine hK.out _ _ ?_ (hH7) ?_ (fun hH8 => ?_)
    rotate_left
    · ((try simp only [Act.put, List.setIfInBounds_toArray, List.set_cons_zero, List.set_cons_succ]); exact rfl)
    clear hK K
    refine Rg.tk (i := 30) rfl hp ?_
    refine ⟨?_, ?_, by kernel_rfl, by kernel_rfl, by kernel_rfl, Or.inl ⟨by rfl, ?_⟩, hH8, ?_, ?_⟩
    rotate_left 2
    · (intro w hSw; clear hSw; go_simp; try with_reducible rfl)
    · ((try simp only [Act.put, List.setIfInBounds_toArray, List.set_cons_zero, List.set_cons_succ]); exact rfl)
    refine Rg.one (i := 32) rfl ⟨by kernel_rfl, by rfl, fun K hK => ?_⟩
    have hT7 := there_below (there_new wz #[.int .i64 0, .int .i64 0, .int .i64 0, .int .i64 0, .int .i64 0, .int .i64 0, .int .u64 0, .bool false, .slice none 0 0] 25 9 (by decide)) hlv
    have hB7 : w1.heap.size ≤ wz.heap.size := by have := hH0.out.size; omega
    refine wp_store_mid 25 _ _ rfl (wz.heap.size) 0 (evF (parse0 x0 x1 x2 x3 x4 x5 x6 nn x15) none 0) rfl rfl hT7 hi9 (evF_one _ _ _) ?_
    have hBF := hid (below_sets hH8.out hB7 (evF (parse0 x0 x1 x2 x3 x4 x5 x6 nn x15) none 0).toList 0)
    have hRF := hid (World.rangeAt_setCells_same _ _ _ (evF (parse0 x0 x1 x2 x3 x4 x5 x6 nn x15) none 0).toList hT7)
    have hTF := hid (there_sets (evF (parse0 x0 x1 x2 x3 x4 x5 x6 nn x15) none 0).toList (Nat.le_refl 9) hT7)
    have hLF := there_lt hTF.out
    refine hK.out _ _ ?_ (hBF) ?_ (fun hHF => ?_)
    rotate_left
    · ((try simp only [Act.put, List.setIfInBounds_toArray, List.set_cons_zero, List.set_cons_succ]); exact rfl)
    clear hK K
    refine wpAnyH_done (by kernel_rfl) ?_ _
    refine hn.out _ _ ?_
    obtain ⟨B7, hB7e⟩ : ∃ B7, wz.heap.size = B7 := ⟨_, rfl⟩
    rw [hB7e] at hHF hRF hTF hLF hB7 ⊢
    obtain ⟨wf, hwf⟩ : ∃ wf, World.setCells v7 B7 0 (evF (parse0 x0 x1 x2 x3 x4 x5 x6 nn x15) none 0).toList = wf := ⟨_, rfl⟩
    rw [hwf] at hHF hRF hTF hLF ⊢
    have HB0 := hHF
    clear hn hp hT7 hBF hrun hby hlv hc1 hc2 hlt
    as_aux_lemma =>
      go_wp2_with fail
      go_loopw [6, 7, 8, 9, 10] (fun n i _ _ _ wr => ∃ (k : Nat) (v : Value), k ≤ m ∧ n = .int .i64 (17 + 4 * (k : Int)) ∧ i = .int .i64 k ∧ Below w1.heap.size w1 wr ∧ wr.rangeAt B7 0 [.int .i64 x0, .int .i64 (x1 * 256 + x2), .int .i64 x3, .int .i64 x4, .int .i64 x5, .int .i64 x6, .int .u64 (nn : Int), .bool (x15 == 1), v] ∧ wr.there B7 0 9 ∧ wr.ownsRow (B7 + 1) 3 1 v k (ints (vals (nums s) 17 k)) ∧ B7 < wr.heap.size) (fun n i _ _ _ _ => m - (intOf i).toNat)
      case atStart => exact ⟨0, _, Nat.zero_le _, rfl, rfl, HB0.out, hRF.out, hTF.out, World.ownsRow_nil _ _ _ _, hLF⟩
      case round =>
        obtain ⟨k, v, hk, rfl, rfl, hB, hR, hT, hO, hL⟩ := hrel
        have HB := hid hB
        have HR := hid hR
        have HT := hid hT
        have HO := hid hO
        have HL := hid hL
        clear hB hR hT hO hL
        by_cases hlt : k < m
        · have c0 : (k : Int) < (m : Int) := by omega
          have c1 : 0 ≤ 17 + 4 * (k : Int) := by omega
          have c2 : 17 + 4 * (k : Int) ≤ 17 + 4 * (k : Int) + 4 := by omega
          have c3 : 17 + 4 * (k : Int) + 4 ≤ (s.size : Int) := by omega
          have c4 : (17 + 4 * (k : Int)).toNat = 17 + 4 * k := by omega
          have c5 : (17 + 4 * (k : Int) + 4).toNat = 17 + 4 * k + 4 := by omega
          have c6 : IntKind.i64.wrap (17 + 4 * (k : Int) + 4) = 17 + 4 * (k : Int) + 4 := wraps_i64 _ (by omega) (by omega)
          have c7 : 0 ≤ 17 + 4 * (k : Int) + 4 := by omega
          have hx4 : (s.extract (17 + 4 * k) (17 + 4 * k + 4)).size = 4 := by rw [← nums_len, nums_extract, List.length_take, List.length_drop, nums_len]; omega
          have hyv : Cod.val (((nums s).drop (17 + 4 * k)).take 4) = C02.narrow (Bits.num (nums (s.extract (17 + 4 * k) (17 + 4 * k + 4)))) := by
            rw [nums_extract, show 17 + 4 * k + 4 - (17 + 4 * k) = 4 from by omega]
            unfold C02.narrow Cod.val
            rw [IntKind.wrap_i32]
          have hN := num_in4 hx4
          obtain ⟨N, hNe⟩ : ∃ N, Bits.num (nums (s.extract (17 + 4 * k) (17 + 4 * k + 4))) = N := ⟨_, rfl⟩
          rw [hNe] at hyv hN
          obtain ⟨n0, n1⟩ := hN
          have Hnar := hid fun w => C02.rnarrow_calls N (by omega) (by omega) w
          have hyin := C02.narrow_in N
          obtain ⟨y, hy⟩ : ∃ y, C02.narrow N = y := ⟨_, rfl⟩
          rw [hy] at Hnar hyv hyin
          obtain ⟨y0, y1⟩ := hyin
          have Hy := hid hyv
          obtain ⟨v1, cap, hrun, hlv, hc1, hc2, hby, hltw⟩ := conv_bytes (s.extract (17 + 4 * k) (17 + 4 * k + 4)) wr wr.heap.size rfl
          rw [hx4] at hrun hc1 hc2
          have Hfrom := hid (rfrom4 hx4 hc1 hc2 hby)
          rw [hNe] at Hfrom
          have Hrun := hid hrun
          have Hlv := hid hlv
          clear hNe hy hyv hx4 hrun hlv hc1 hc2 hby hltw
          have HB1 := hid (via HB.out Hlv.out)
          have HT1 := hid (tfacts_below ⟨HR.out, HT.out, HO.out, HL.out⟩ Hlv.out)
          have t8 : v1.cell? ⟨B7, 8, none⟩ = some v := by have := HT1.out.1 8 v rfl; rwa [Nat.zero_add] at this
          go_wp2_with (refine BigFrame.wpList_want rfl (fun K hK => wp_conv rfl rfl Hrun.out (hK _ _ ?_)))
          refine Hfrom.out.mono ?_
          rintro x w' ⟨rfl, rfl⟩
          go_wp2_with fail
          refine (Hnar.out _).mono ?_
          rintro x w' ⟨rfl, rfl⟩
          go_wp2_with (refine wpList_append_own _ rfl _ _ 23 rfl (B7 + 1) 3 j0 (.int .i64 0) 1 8 Try.underlying23 j1 j2 j3 j4 rfl (by decide) v k (ints (vals (nums s) 17 k)) rfl (HT1.out.2.2.1.alloc _) ⟨v1.heap.size, 0, none⟩ 1 1 [.int .i64 y] rfl rfl (fun j u hj => by rw [Addr.add_mid]; exact (range_new v1 #[.int .i64 y] 3) j u hj) (by intro u hu; simp at hu; subst hu; rfl) (by unfold maxLen; omega) (by omega) (by have := HT1.out.2.2.2; simp; omega) ?_)
          intro v' wn hown hgrow _
          have hT := tfacts_below HT1.out (grow v1 (.cells #[.int .i64 y] 3 (0, 0)))
          have hne : some B7 ≠ v.ownBlock := by intro hq; have := (hT.2.2.1.lt B7 hq.symm).1; omega
          have hRn := range_grown hgrow hne hT.1
          have hTn := there_grown hgrow hne hT.2.1
          have hbw := below_grown (HB1.out.alloc HB1.out.size _) hgrow (fun gg hg => by have := (hT.2.2.1.lt gg hg).1; omega)
          obtain ⟨A', c', hvs⟩ := owns_slice hown
          subst hvs
          have hown2 := hid hown
          have hc8 : wn.cell? ⟨B7, 8, none⟩ = some v := by have := hRn 8 v rfl; rwa [Nat.zero_add] at this
          have hf8 : wn.frozen? ⟨B7, 8, none⟩ = false := by have := (hTn 8 (by omega)).2; rwa [Nat.zero_add] at this
          have hRF := hid (range_set8 (.slice A' (k + 1) c') hRn)
          have hTF := hid (there_set (v := (.slice A' (k + 1) c')) (i := 8) hTn)
          have hOF := hid (owns_set (v := (.slice A' (k + 1) c')) (i := 8) hown2.out (Nat.lt_succ_self B7))
          have hLF : Hid (B7 < (wn.setCell ⟨B7, 8, none⟩ (.slice A' (k + 1) c')).heap.size) := hid (there_lt hTF.out)
          have hHF := hid (Below.setCell hbw (show w1.heap.size ≤ (⟨B7, 8, none⟩ : Addr).block from hB7) (.slice A' (k + 1) c'))
          clear hown hgrow hT hne hRn hTn hbw hown2 t8
          go_wp2_with fail
          go_roundw
          case rel => exact ⟨k + 1, _, by omega, by rw [show (17 : Int) + 4 * (k : Int) + 4 = 17 + 4 * ((k + 1 : Nat) : Int) from by omega], by go_num, hHF.out, hRF.out, hTF.out, by rw [show vals (nums s) 17 (k + 1) = vals (nums s) 17 k ++ [Cod.val (((nums s).drop (17 + 4 * k)).take 4)] from rfl, Hy.out, ints_append]; exact hOF.out, hLF.out⟩
          case measure => simp [intOf]; omega
        · obtain rfl : k = m := by omega
          obtain ⟨A, c, rfl, hrow⟩ := owns_int HO.out (vals_len _ _ _)
          have HNe : Hid (∀ b o, A = some ⟨b, o, none⟩ → b ≠ w.heap.size) := by
            intro b o hA
            have := HW1.out.1
            have := (HO.out.lt b (by rw [hA]; rfl)).1
            omega
          have HFr : Hid (∀ b o, A = some ⟨b, o, none⟩ → w.heap.size ≤ b) := by
            intro b o hA
            have := HW1.out.1
            have := (HO.out.lt b (by rw [hA]; rfl)).1
            omega
          have HRe : Hid (wr.rangeAt B7 0 (evF e A c).toList) := by
            show World.rangeAt _ _ _ _
            rw [he.out]
            exact HR.out
          have HRow : Hid (RowI wr A e.vals) := by
            show RowI _ _ _
            rw [he.out]
            exact hrow
          have hvl2 : Hid (e.vals.length = k) := by show e.vals.length = k; rw [he.out]; exact vals_len _ _ _
          have Hput := hid fun w (hr : RowI w A e.vals) => rput_calls e A c w hfit (by rw [hvl2.out]; omega) hr
          clear hrow HR HO
          have hbq : ((strOfNums (put e)).toList == (s.extract 0 (17 + 4 * k)).toList) = !bq := by
            rw [← beq_toListBytes]
            have := HBQ.out
            unfold bne at this
            rw [← this, Bool.not_not]
          have e1 : (17 + 4 * (k : Int)).toNat = 17 + 4 * k := by omega
          have e2 : 0 ≤ 17 + 4 * (k : Int) := by omega
          go_wp2_with fail
          refine Rg.start2 (S := fun w' => Hid (Below w1.heap.size w1 w' ∧ w'.rangeAt B7 0 (evF e A c).toList)) (T := fun w' => Hid (RowI w' A e.vals)) (by kernel_rfl) (fun _ _ _ _ _ h => h) (hid ⟨HB.out.drew, HRe.out⟩) (hid HRow.out) ?_
          intro Q hp hn wz hH0 hT0
          refine Rg.tk (i := 0) rfl hp ?_
          refine ⟨_, ?_, by kernel_rfl, by kernel_rfl, by kernel_rfl, yieldsIf_load_mid (by rfl) 25 _ rfl B7 0 rfl (evF e A c).toList _ (fun w hSw => hSw.out.2) Try.underlying25 rfl hi9, hH0, ?_, ?_⟩
          rotate_left
          · ((try simp only [Act.put, List.setIfInBounds_toArray, List.set_cons_zero, List.set_cons_succ]); exact rfl)
          refine Rg.tk (i := 2) rfl hp ?_
          refine ⟨?_, ?_, by kernel_rfl, by kernel_rfl, by kernel_rfl, Or.inl ⟨by rfl, ?_⟩, hH0, ?_, ?_⟩
          rotate_left 2
          · (intro w hSw; clear hSw; go_simp; try with_reducible rfl)
          · ((try simp only [Act.put, List.setIfInBounds_toArray, List.set_cons_zero, List.set_cons_succ]); exact rfl)
          refine Rg.tk (i := 3) rfl hp ?_
          refine ⟨?_, ?_, by kernel_rfl, by kernel_rfl, by kernel_rfl, Or.inl ⟨by rfl, ?_⟩, hH0, ?_, ?_⟩
          rotate_left 2
          · (intro w hSw; clear hSw; go_simp; try with_reducible rfl)
          · ((try simp only [Act.put, List.setIfInBounds_toArray, List.set_cons_zero, List.set_cons_succ]); exact rfl)
          refine Rg.tk (i := 4) rfl hp ?_
          refine ⟨?_, ?_, by kernel_rfl, by kernel_rfl, by kernel_rfl, Or.inl ⟨by rfl, ?_⟩, hH0, ?_, ?_⟩
          rotate_left 2
          · (intro w hSw; clear hSw; go_simp; try with_reducible rfl)
          · ((try simp only [Act.put, List.setIfInBounds_toArray, List.set_cons_zero, List.set_cons_succ]); exact rfl)
          refine Rg.one (i := 1) rfl ⟨by kernel_rfl, by rfl, fun K hK => ?_⟩
          go_simp
          refine (Hput.out _ hT0.out).mono ?_
          rintro x u1 ⟨rfl, hl1⟩
          have HRow1 := hid (hT0.out.below hl1)
          refine hK.out _ _ ?_ (hid ⟨via hH0.out.1 hl1, range_below hl1 hH0.out.2⟩) ?_ (fun hH1 => ?_)
          rotate_left
          · ((try simp only [Act.put, List.setIfInBounds_toArray, List.set_cons_zero, List.set_cons_succ]); exact rfl)
          clear hK K
          refine Rg.tk (i := 5) rfl hp ?_
          refine ⟨?_, ?_, by kernel_rfl, by kernel_rfl, by kernel_rfl, Or.inl ⟨by rfl, ?_⟩, hH1, ?_, ?_⟩
          rotate_left 2
          · (intro w hSw; clear hSw; go_simp; try with_reducible rfl)
          · ((try simp only [Act.put, List.setIfInBounds_toArray, List.set_cons_zero, List.set_cons_succ]); exact rfl)
          refine wpAnyH_done (by kernel_rfl) ?_ _
          refine hn.out _ _ ?_
          have HU : Hid (Below w.heap.size w u1 ∧ u1.there w.heap.size 0 9) := hid ⟨HW1.out.2.1.trans (hH1.out.1.mono (by have := HW1.out.1; omega)), there_below HW1.out.2.2 hH1.out.1⟩
          cases bq with
          | true =>
            go_wp2_with (refine wpList_store_mid rfl 25 _ _ rfl w.heap.size 0 (evF zero none 0) rfl rfl HU.out.2 hi9 (evF_one _ _ _) ?_)
            have hRz := World.rangeAt_setCells_same u1 w.heap.size 0 (evF zero none 0).toList HU.out.2
            have hBz := below_sets HU.out.1 (Nat.le_refl _) (evF zero none 0).toList 0
            generalize (u1.setCells w.heap.size 0 (evF zero none 0).toList) = wf2 at *
            refine bodyPost_ret (rres_take _ _ w.heap.size (evF zero none 0) ⟨#[]⟩ 2 rfl rfl rfl hRz rfl) rfl ⟨fun _ => rfl, (fun h => by cases h), hBz⟩
          | false =>
            go_wp2_with fail
            refine Rg.start2 (S := fun w' => Hid (Below w.heap.size w w' ∧ w'.rangeAt B7 0 (evF e A c).toList ∧ w'.there w.heap.size 0 9)) (T := fun w' => Hid (RowI w' A e.vals)) (by kernel_rfl) (fun _ _ _ _ _ h => h) (hid ⟨HU.out.1.drew, hH1.out.2, HU.out.2⟩) (hid HRow1.out) ?_
            intro Q hp hn wz2 hH2 hT2
            refine Rg.tk (i := 0) rfl hp ?_
            refine ⟨_, ?_, by kernel_rfl, by kernel_rfl, by kernel_rfl, yieldsIf_load_mid (by rfl) 25 _ rfl B7 0 rfl (evF e A c).toList _ (fun w hSw => hSw.out.2.1) Try.underlying25 rfl hi9, hH2, ?_, ?_⟩
            rotate_left
            · ((try simp only [Act.put, List.setIfInBounds_toArray, List.set_cons_zero, List.set_cons_succ]); exact rfl)
            refine Rg.tk (i := 1) rfl hp ?_
            refine ⟨?_, ?_, by kernel_rfl, by kernel_rfl, by kernel_rfl, Or.inl ⟨by rfl, ?_⟩, hH2, ?_, ?_⟩
            rotate_left 2
            · (intro w hSw; clear hSw; go_simp; try with_reducible rfl)
            · ((try simp only [Act.put, List.setIfInBounds_toArray, List.set_cons_zero, List.set_cons_succ]); exact rfl)
            refine Rg.tk (i := 2) rfl hp ?_
            refine ⟨?_, ?_, by kernel_rfl, by kernel_rfl, by kernel_rfl, Or.inl ⟨by rfl, ?_⟩, hH2, ?_, ?_⟩
            rotate_left 2
            · (intro w hSw; clear hSw; go_simp; try with_reducible rfl)
            · ((try simp only [Act.put, List.setIfInBounds_toArray, List.set_cons_zero, List.set_cons_succ]); exact rfl)
            refine Rg.tk (i := 3) rfl hp ?_
            refine ⟨?_, ?_, by kernel_rfl, by kernel_rfl, by kernel_rfl, Or.inl ⟨by rfl, ?_⟩, hH2, ?_, ?_⟩
            rotate_left 2
            · (intro w hSw; clear hSw; go_simp; try with_reducible rfl)
            · ((try simp only [Act.put, List.setIfInBounds_toArray, List.set_cons_zero, List.set_cons_succ]); exact rfl)
            refine Rg.one (i := 4) rfl ⟨by kernel_rfl, by rfl, fun K hK => ?_⟩
            refine wp_store_mid 25 _ _ rfl w.heap.size 0 (evF e A c) rfl rfl hH2.out.2.2 hi9 (evF_one _ _ _) ?_
            have hB2 := below_sets hH2.out.1 (Nat.le_refl _) (evF e A c).toList 0
            have hR2 := World.rangeAt_setCells_same _ _ _ (evF e A c).toList hH2.out.2.2
            have hR7 := range_sets (C := w.heap.size) (show B7 ≠ w.heap.size by have := HW1.out.1; omega) (evF e A c).toList 0 hH2.out.2.1
            have hT3 := there_sets (evF e A c).toList (Nat.le_refl 9) hH2.out.2.2
            have hRw := row_sets (C := w.heap.size) hT2.out HNe.out (evF e A c).toList 0
            refine hK.out _ _ ?_ (hid ⟨hB2, hR7, hT3⟩) ?_ (fun hHF2 => ?_)
            rotate_left
            · ((try simp only [Act.put, List.setIfInBounds_toArray, List.set_cons_zero, List.set_cons_succ]); exact rfl)
            clear hK K
            refine Rg.tk (i := 5) rfl hp ?_
            refine ⟨?_, ?_, by kernel_rfl, by kernel_rfl, by kernel_rfl, Or.inl ⟨by rfl, ?_⟩, hHF2, ?_, ?_⟩
            rotate_left 2
            · (intro w hSw; clear hSw; go_simp; try with_reducible rfl)
            · ((try simp only [Act.put, List.setIfInBounds_toArray, List.set_cons_zero, List.set_cons_succ]); exact rfl)
            refine Rg.tk (i := 6) rfl hp ?_
            refine ⟨?_, ?_, by kernel_rfl, by kernel_rfl, by kernel_rfl, Or.inl ⟨by rfl, ?_⟩, hHF2, ?_, ?_⟩
            rotate_left 2
            · (intro w hSw; clear hSw; go_simp; try with_reducible rfl)
            · ((try simp only [Act.put, List.setIfInBounds_toArray, List.set_cons_zero, List.set_cons_succ]); exact rfl)
            refine wpAnyH_done (by kernel_rfl) ?_ _
            refine hn.out _ _ ?_
            generalize (wz2.setCells w.heap.size 0 (evF e A c).toList) = wf2 at *
            go_wp2_with fail
            refine bodyPost_ret (rres_take _ _ w.heap.size (evF e A c) (s.extract (17 + 4 * k) s.size) 0 rfl rfl rfl hR2 rfl) rfl ⟨(fun h => by cases h), fun _ => ⟨A, c, rfl, hRw, HFr.out⟩, hB2⟩

theorem rtake_calls (s : ByteArray) (w : World) : Calls Try.prog 12 #[.string s] w fun x w' => Took s w x w' := by
  have hl := nums_len s
  by_cases h17 : s.size < 17
  · have hn : Cod.take (nums s) = none := by unfold Cod.take; rw [if_pos (by omega)]
    refine (rtake_short s w h17).mono ?_
    rintro x w' ⟨rfl, hb⟩
    exact ⟨fun _ => rfl, (fun e r h => by rw [hn] at h; cases h), hb⟩
  obtain ⟨m, hm⟩ := Int.eq_ofNat_of_zero_le (at_in (nums_ok s) 16).1
  have hm255 : m ≤ 255 := by have := (at_in (nums_ok s) 16).2; omega
  have hmn : (at' (nums s) 16).toNat = m := by rw [hm]; rfl
  by_cases hb : s.size < 17 + 4 * m
  · have hn : Cod.take (nums s) = none := by unfold Cod.take; rw [if_neg (by omega), hmn, if_pos (by omega)]
    refine (rtake_many s m w (by omega) hm hb).mono ?_
    rintro x w' ⟨rfl, hb⟩
    exact ⟨fun _ => rfl, (fun e r h => by rw [hn] at h; cases h), hb⟩
  have ht : Cod.take (nums s) = if put (parse (nums s) m) = (nums s).take (17 + 4 * m) then some (parse (nums s) m, (nums s).drop (17 + 4 * m)) else none := by
    unfold Cod.take
    rw [if_neg (by omega), hmn]
    by_cases h8 : 8 < m
    · rw [if_pos (by omega), if_neg]
      intro he
      have hmay : may (parse (nums s) m) = false := by
        apply Bool.eq_false_iff.2
        intro h
        have := ((may_iff _).1 h).len
        have h2 : (parse (nums s) m).vals.length = m := vals_len _ _ _
        omega
      unfold put at he
      rw [hmay] at he
      have := congrArg List.length he
      rw [List.length_take] at this
      simp at this
      omega
    · rw [if_neg (by omega)]
  refine (rtake_main s m w (by omega) hm (by omega) (by omega) (parse (nums s) m) rfl (strOfNums (put (parse (nums s) m)) != s.extract 0 (17 + 4 * m)) rfl).mono ?_
  rintro x w' ⟨h1, h2, hb⟩
  rw [extract_head] at h1 h2
  by_cases heq : put (parse (nums s) m) = (nums s).take (17 + 4 * m)
  · rw [if_pos heq] at ht
    obtain ⟨A, c, hx, hr, hfr⟩ := h2 (by rw [heq]; exact bytes_same _)
    refine ⟨(fun h => by rw [ht] at h; cases h), fun e r h => ?_, hb⟩
    rw [ht] at h
    injection h with h
    injection h with h3 h4
    subst h3 h4
    refine ⟨A, c, ?_, hr, hfr⟩
    rw [hx, extract_tail]
    rfl
  · rw [if_neg heq] at ht
    refine ⟨fun _ => h1 (bytes_ne fun h => heq (strOf_inj (put_ok _) ((nums_ok s).take _) h)), (fun e r h => by rw [ht] at h; cases h), hb⟩
end Go.Proofs.Ytcfjefngfmnmaaa.C22
