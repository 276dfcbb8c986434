/- One event is alike itself; the walk of the law CodecBack. -/
import Derived.Test.YtcfjefngfmnmaaaC22J
namespace Go.Proofs.Ytcfjefngfmnmaaa.C22
open Go.RowKit Go.Proofs.Ytcfjefngfmnmaaa Go.Proofs.Ytcfjefngfmnmaaa.Cod
set_option linter.unusedVariables false
set_option linter.unusedSimpArgs false
set_option linter.unnecessarySimpa false
theorem rowE_one {w : World} {B : Nat} {e : Ev} {V : Option Addr} {c : Nat} (h : w.rangeAt B 0 (evF e V c).toList) (hr : RowI w V e.vals) : RowE w (some ⟨B, 0, none⟩) [e] :=
  .inr ⟨B, 0, rfl, fun i hi => by
    obtain rfl : i = 0 := by simpa using hi
    exact ⟨V, c, h, hr⟩⟩
theorem alike_same (e : Ev) (V1 V2 : Option Addr) (c1 c2 : Nat) (w : World) (hl : e.vals.length ≤ 1000000) (h1 : Hid (RowI w V1 e.vals)) (h2 : Hid (RowI w V2 e.vals)) :
    Calls Try.prog 17 #[.agg (evF e V1 c1), .agg (evF e V2 c2)] w fun x w' => x = .returned (.bool true) ∧ Below w.heap.size w w' := by
  have Hg : Hid (∀ X1 X2 X3 X4, Below w.heap.size w ((((w.alloc X1).alloc X2).alloc X3).alloc X4)) := hid fun X1 X2 X3 X4 => ((((Below.refl w.heap.size w).alloc (Nat.le_refl _) _).alloc (by simp) _).alloc (by simp; omega) _).alloc (by simp; omega) _
  go_enter Try.func17, Try.ntmps17
  go_wp2_with fail
  refine (events_same [e] _ _ _ _ _ (by simp) (hid fun x hx => by obtain rfl := List.mem_singleton.1 hx; exact hl) (hid ?_) (hid ?_)).mono ?_
  · exact rowE_one (range_below (grow _ _) (range_newB _ (evF e V1 c1) 25 _ (by simp))) (h1.out.below (Hg.out _ _ _ _))
  · exact rowE_one (range_newB _ (evF e V2 c2) 25 _ (by simp)) (h2.out.below (Hg.out _ _ _ _))
  rintro x w1 ⟨rfl, hb⟩
  have Hb := hid (via (Hg.out _ _ _ _) hb)
  clear hb
  go_wp2_with fail
  go_ret
  exact ⟨rfl, Hb.out⟩
theorem nums_cat (l : List Int) (s : ByteArray) (h : Cod.Ok l) : nums (strOfNums l ++ s) = l ++ nums s := by
  have : strOfNums l ++ s = strOfNums (l ++ nums s) := by rw [← str_append, str_nums]
  rw [this, nums_str (h.append (nums_ok s))]
set_option maxHeartbeats 4000000 in
theorem back_core (e : Ev) (A : Option Addr) (c : Nat) (s : ByteArray) (w : World) (he : Hid e.Fits) (hl : e.vals.length ≤ 9223372036854775807) (hr : RowI w A e.vals) (hs : s.size ≤ 140737488351232) :
    Calls Try.prog 4 #[.agg (evF e A c), .string s] w fun x w' => x = .returned (.bool true) ∧ Below w.heap.size w w' := by
  have Hr := hid hr
  have Hfew := hid fun w => few_calls e A c w hl
  have hi9 : (Try.prog.info? 25).map (·.size) = some 9 := by kernel_rfl
  clear hr
  go_enter Try.func4, Try.ntmps4
  go_wp2_with fail
  refine (awake_calls _).mono ?_
  rintro x w1 ⟨rfl, hb⟩
  have HE := hid (range_below hb (range_new w (evF e A c) 25))
  have Hb := hid (via (grow w _) hb)
  clear hb
  go_wp2_with (refine BigFrame.wpList_want rfl (fun K hK => wp_load_mid 25 _ rfl w.heap.size 0 rfl (evF e A c).toList _ HE.out Try.underlying25 rfl hi9 (hK _ _ ?_)))
  refine (Hfew.out _).mono ?_
  rintro x w2 ⟨rfl, hb⟩
  have Hb2 := hid (via Hb.out hb)
  by_cases hf : (e.vals.length : Int) ≤ 50
  case neg =>
    rw [decide_eq_false hf]
    clear hb hf
    go_wp2_with fail
    go_ret
    exact ⟨rfl, Hb2.out⟩
  rw [decide_eq_true hf]
  by_cases h1000 : 1000 < s.size
  · have hI : 1000 < (s.size : Int) := by omega
    clear hb
    go_wp2_with fail
    go_ret
    exact ⟨rfl, Hb2.out⟩
  have hI : (s.size : Int) ≤ 1000 := by omega
  have HE2 := hid (range_below hb HE.out)
  clear hb
  go_wp2_with (refine BigFrame.wpList_want rfl (fun K hK => wp_load_mid 25 _ rfl w.heap.size 0 rfl (evF e A c).toList _ HE2.out Try.underlying25 rfl hi9 (hK _ _ ?_)))
  refine (put_calls e A c _ he (by omega) (Hr.out.below Hb2.out)).mono ?_
  rintro x w3 ⟨rfl, hb⟩
  have Hb3 := hid (via Hb2.out hb)
  have HE3 := hid (range_below hb HE2.out)
  clear hb
  have hP : Hid (strOfNums (put e) = strOfNums (put e)) := hid rfl
  obtain ⟨S, hS⟩ : ∃ S, S = strOfNums (put e) := ⟨_, rfl⟩
  have HS := hid hS
  rw [← hS]
  clear hS
  go_wp2_with (refine BigFrame.wpList_want rfl (fun K hK => wp_load_mid 25 _ rfl w.heap.size 0 rfl (evF e A c).toList _ HE3.out Try.underlying25 rfl hi9 (hK _ _ ?_)))
  refine (may_calls e A c _ he (by omega) (Hr.out.below Hb3.out)).mono ?_
  rintro x w4 ⟨rfl, hb⟩
  have Hb4 := hid (via Hb3.out hb)
  by_cases hm : may e = true
  case neg =>
    replace hm : may e = false := by simpa using hm
    rw [hm]
    have hp : S = ⟨#[]⟩ := by rw [HS.out]; unfold put; rw [hm]; rfl
    clear HS hP
    subst hp
    clear hb hm
    go_wp2_with fail
    go_ret
    exact ⟨ret_bool (by simp), Hb4.out⟩
  have hp : put e = Cod.bytes e := by unfold put; rw [if_pos hm]
  have hlen : S.size = 17 + 4 * e.vals.length := by rw [HS.out, strOfNums_size, hp, bytes_len]
  have hnI : (S.size : Int) = 17 + 4 * (e.vals.length : Int) := by omega
  have hsz : ¬9223372036854775807 < S.size + s.size := by omega
  have ht : Cod.take (nums (S ++ s)) = some (e, nums s) := by rw [HS.out, nums_cat _ _ (put_ok e)]; exact take_put hm he.out.n _
  have Ht := hid ht
  have HE4 := hid (range_below hb HE3.out)
  rw [hm]
  clear hb ht hp hm hP hlen
  go_wp2_with fail
  refine (take_calls _ _).mono ?_
  rintro x w5 ⟨-, h2, hb⟩
  obtain ⟨V2, c2, hx, hr2, -⟩ := h2 _ _ Ht.out
  unfold someV at hx
  subst hx
  have Hb5 := hid (via Hb4.out hb)
  have HE5 := hid (fun o => range_below (grow w5 o) (range_below hb HE4.out))
  have c8 : ∀ o, (w5.alloc o).cell? ⟨w.heap.size, 8, none⟩ = some (.slice A e.vals.length c) := fun o => HE5.out o 8 _ rfl
  have HA := hid (range_new w5 (evF e V2 c2) 25)
  have HR2 := hid hr2
  rw [str_nums]
  clear hb h2 hr2
  go_wp2_with (first
    | refine BigFrame.wpList_want rfl (fun K hK => wp_load_mid 25 _ rfl w.heap.size 0 rfl (evF e A c).toList _ (HE5.out _) Try.underlying25 rfl hi9 (hK _ _ ?_))
    | refine BigFrame.wpList_want rfl (fun K hK => wp_load_mid 25 _ rfl w5.heap.size 0 rfl (evF e V2 c2).toList _ HA.out Try.underlying25 rfl hi9 (hK _ _ ?_)))
  refine (alike_same e _ _ _ _ _ (by omega) (hid (HR2.out.below (grow _ _))) (hid (Hr.out.below (Hb5.out.alloc Hb5.out.size _)))).mono ?_
  rintro x w6 ⟨rfl, hb⟩
  have Hb6 := hid (via (Hb5.out.alloc Hb5.out.size _) hb)
  clear hb
  go_wp2_with fail
  go_ret
  exact ⟨ret_bool (by simp), Hb6.out⟩
theorem codecBack_walk {H : Type} {enc : TypeId × Value → H} (W : World) (a0_0 : Int) (a0_1 : Int) (a0_2 : Int) (a0_3 : Int) (a0_4 : Int) (a0_5 : Int) (a0_6 : Int) (a0_7 : Bool) (a0_8 : Option Addr) (l0_8 c0_8 : Nat) (w0_0 : (Lit.int .i64 a0_0).wf = true) (w0_1 : (Lit.int .i64 a0_1).wf = true) (w0_2 : (Lit.int .i64 a0_2).wf = true) (w0_3 : (Lit.int .i64 a0_3).wf = true) (w0_4 : (Lit.int .i64 a0_4).wf = true) (w0_5 : (Lit.int .i64 a0_5).wf = true) (w0_6 : (Lit.int .u64 a0_6).wf = true) (k0_8 : (Opn.Lf.slc 3).ok enc Try.prog W 0 (fun _ => true) true (.slice a0_8 l0_8 c0_8)) (s1 : ByteArray) (y1 : s1.size ≤ 140737488351232) :
    Calls Try.prog 4 #[.agg #[.int .i64 a0_0, .int .i64 a0_1, .int .i64 a0_2, .int .i64 a0_3, .int .i64 a0_4, .int .i64 a0_5, .int .u64 a0_6, .bool a0_7, .slice a0_8 l0_8 c0_8], .string s1] W fun e w' => e = .returned (.bool true) ∧ Below W.heap.size W w' := by
  obtain ⟨L, rfl, hx, hr, hl⟩ := rowI_of_slc (by kernel_rfl) (by kernel_rfl) k0_8
  obtain ⟨n0, n1⟩ := Sat.wf_u64 w0_6
  obtain ⟨n, rfl⟩ := Int.eq_ofNat_of_zero_le n0
  exact back_core ⟨a0_0, a0_1, a0_2, a0_3, a0_4, a0_5, n, a0_7, L⟩ a0_8 c0_8 s1 W (hid ⟨Sat.wf_i64 w0_0, Sat.wf_i64 w0_1, Sat.wf_i64 w0_2, Sat.wf_i64 w0_3, Sat.wf_i64 w0_4, Sat.wf_i64 w0_5, by show n ≤ _; omega, hx⟩) (by show L.length ≤ _; unfold maxLen at hl; omega) hr y1
end Go.Proofs.Ytcfjefngfmnmaaa.C22
