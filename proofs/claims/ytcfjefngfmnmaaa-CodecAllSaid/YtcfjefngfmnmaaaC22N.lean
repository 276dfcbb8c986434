/- The walk of the law CodecTells. -/
import Derived.Test.YtcfjefngfmnmaaaC22M
import Derived.Test.YtcfjefngfmnmaaaC22K
namespace Go.Proofs.Ytcfjefngfmnmaaa.C22
open Go.RowKit Go.Proofs.Ytcfjefngfmnmaaa Go.Proofs.Ytcfjefngfmnmaaa.Cod
set_option linter.unusedVariables false
set_option linter.unusedSimpArgs false
set_option linter.unnecessarySimpa false
/-- What bytes begin with, what is left, and the error's number. -/
def outOf (s : ByteArray) : Ev × List Int × Int := match Cod.take (nums s) with
  | none => (zero, [], 2)
  | some (e, r) => (e, r, 0)
theorem took_out {s : ByteArray} {w w' : World} {x : Ending} (h : Took s w x w') : ∃ V c, x = .returned (.tuple #[.agg (evF (outOf s).1 V c), .string (strOfNums (outOf s).2.1), .int .i64 (outOf s).2.2]) ∧ RowI w' V (outOf s).1.vals ∧ Below w.heap.size w w' := by
  obtain ⟨h1, h2, hb⟩ := h
  unfold outOf
  cases ht : Cod.take (nums s) with
  | none => exact ⟨none, 0, h1 ht, .inl rfl, hb⟩
  | some er =>
    obtain ⟨e, r⟩ := er
    obtain ⟨A, c, hx, hr, -⟩ := h2 e r ht
    exact ⟨A, c, hx, hr, hb⟩
theorem out_len (s : ByteArray) : (outOf s).1.vals.length ≤ 8 := by
  unfold outOf
  cases ht : Cod.take (nums s) with
  | none => show 0 ≤ 8; omega
  | some er =>
    obtain ⟨e, r⟩ := er
    exact ((may_iff e).1 (take_very ht).1).len
theorem rows3 {w w' : World} {A B C : Option Addr} {a b c : List Int} (h : RowI w A a ∧ RowI w B b ∧ RowI w C c) (hb : Below w.heap.size w w') : RowI w' A a ∧ RowI w' B b ∧ RowI w' C c := ⟨h.1.below hb, h.2.1.below hb, h.2.2.below hb⟩
theorem keep3 {W w w' : World} {a b c : Nat} {x y z : List Value} (h : Below W.heap.size W w ∧ w.rangeAt a 0 x ∧ w.rangeAt b 0 y ∧ w.rangeAt c 0 z) (hb : Below w.heap.size w w') : Below W.heap.size W w' ∧ w'.rangeAt a 0 x ∧ w'.rangeAt b 0 y ∧ w'.rangeAt c 0 z := ⟨via h.1 hb, range_below hb h.2.1, range_below hb h.2.2.1, range_below hb h.2.2.2⟩
set_option maxRecDepth 20000 in
set_option maxHeartbeats 4000000 in
theorem tells_core (e : Ev) (A : Option Addr) (c : Nat) (s : ByteArray) (w : World) (he : Hid e.Fits) (hl : e.vals.length ≤ 9223372036854775807) (hr : RowI w A e.vals) (hs : s.size ≤ 140737488351232) :
    Calls Try.prog 3 #[.agg (evF e A c), .string s] w fun x w' => x = .returned (.bool true) ∧ Below w.heap.size w w' := by
  have Hr := hid hr
  have Hfew := hid fun w => few_calls e A c w hl
  have hi9 : (Try.prog.info? 25).map (·.size) = some 9 := by kernel_rfl
  clear hr
  go_enter Try.func3, Try.ntmps3
  go_wp2_with fail
  refine (awake_calls _).mono ?_
  rintro x w1 ⟨rfl, hb⟩
  have HE := hid (range_below hb (range_new w (evF e A c) 25))
  have Hb := hid (via (grow w _) hb)
  clear hb
  go_wp2_with (refine BigFrame.wpList_want rfl (fun K hK => wp_load_mid 25 _ rfl w.heap.size 0 rfl (evF e A c).toList _ HE.out Try.underlying25 rfl hi9 (hK _ _ ?_)))
  refine (Hfew.out _).mono ?_
  rintro x w2 ⟨rfl, hb⟩
  have Hb2 := hid (via Hb.out hb)
  by_cases hf : (e.vals.length : Int) ≤ 50
  case neg =>
    rw [decide_eq_false hf]
    clear hb hf
    go_wp2_with fail
    go_ret
    exact ⟨rfl, Hb2.out⟩
  rw [decide_eq_true hf]
  by_cases h1000 : 1000 < s.size
  · have hI : 1000 < (s.size : Int) := by omega
    clear hb
    go_wp2_with fail
    go_ret
    exact ⟨rfl, Hb2.out⟩
  have hI : (s.size : Int) ≤ 1000 := by omega
  have HE2 := hid (range_below hb HE.out)
  clear hb
  have hl6 : e.vals.length ≤ 1000000 := by omega
  have Hmay := hid fun w (hr : RowI w A e.vals) => may_calls e A c w he hl6 hr
  have Hrmay := hid fun w (hr : RowI w A e.vals) => rmay_calls e A c w he hl6 hr
  have Hput := hid fun w (hr : RowI w A e.vals) => put_calls e A c w he hl6 hr
  have Hrput := hid fun w (hr : RowI w A e.vals) => rput_calls e A c w he hl6 hr
  obtain ⟨mb, hmb⟩ : ∃ b, may e = b := ⟨_, rfl⟩
  obtain ⟨S, hS⟩ : ∃ S, strOfNums (put e) = S := ⟨_, rfl⟩
  rw [hmb] at Hmay Hrmay
  rw [hS] at Hput Hrput
  clear hmb hS
  go_wp2_with fail
  refine (take_calls _ _).mono ?_
  rintro y w3 hy
  obtain ⟨V1, c1, rfl, hr1, hb⟩ := took_out hy
  have hxl := out_len s
  have Hb3 := hid (via Hb2.out hb)
  have HE3 := hid (range_below hb HE2.out)
  have HR1 := hid hr1
  have hout : ∀ (w : World), Calls Try.prog 12 #[.string s] w fun y w' => ∃ V c, y = .returned (.tuple #[.agg (evF (outOf s).1 V c), .string (strOfNums (outOf s).2.1), .int .i64 (outOf s).2.2]) ∧ RowI w' V (outOf s).1.vals ∧ Below w.heap.size w w' := fun w => (rtake_calls s w).mono fun y w' h => took_out h
  have Hrt := hid hout
  clear hy hr1 hb hout
  generalize (outOf s).1 = x at *
  generalize strOfNums (outOf s).2.1 = R at *
  generalize (outOf s).2.2 = er at *
  go_wp2_with fail
  refine (Hrt.out _).mono ?_
  rintro y w4 ⟨V2, c2, rfl, hr2, hb⟩
  have HA := hid (range_below hb (range_new w3 (evF x V1 c1) 25))
  have HB := hid (range_new w4 (evF x V2 c2) 25)
  have Hb4 := hid (via (Hb3.out.alloc Hb3.out.size _) hb)
  have HE4 := hid (range_below hb (range_alloc HE3.out))
  have HR1b := hid ((HR1.out.below (grow _ _)).below hb)
  have HR2 := hid hr2
  clear hr2 hb
  have Halike := hid fun w (h1 : RowI w V1 x.vals) (h2 : RowI w V2 x.vals) => alike_same x V1 V2 c1 c2 w (by omega) (hid h1) (hid h2)
  go_wp2_with fail
  obtain ⟨BA, hBA⟩ : ∃ B, w3.heap.size = B := ⟨_, rfl⟩
  obtain ⟨BB, hBB⟩ : ∃ B, w4.heap.size = B := ⟨_, rfl⟩
  have HS0 : Hid (Below w.heap.size w (w4.alloc (.cells (evF x V2 c2) 25 (0, 0))) ∧ (w4.alloc (.cells (evF x V2 c2) 25 (0, 0))).rangeAt w.heap.size 0 (evF e A c).toList ∧ (w4.alloc (.cells (evF x V2 c2) 25 (0, 0))).rangeAt BA 0 (evF x V1 c1).toList ∧ (w4.alloc (.cells (evF x V2 c2) 25 (0, 0))).rangeAt BB 0 (evF x V2 c2).toList) := by
    rw [← hBA, ← hBB]
    exact hid ⟨Hb4.out.alloc Hb4.out.size _, range_alloc HE4.out, range_alloc HA.out, HB.out⟩
  have HT0 : Hid (RowI (w4.alloc (.cells (evF x V2 c2) 25 (0, 0))) A e.vals ∧ RowI (w4.alloc (.cells (evF x V2 c2) 25 (0, 0))) V1 x.vals ∧ RowI (w4.alloc (.cells (evF x V2 c2) 25 (0, 0))) V2 x.vals) :=
    hid ⟨Hr.out.below HS0.out.1, HR1b.out.below (grow _ _), HR2.out.below (grow _ _)⟩
  rw [hBA, hBB]
  generalize (w4.alloc (.cells (evF x V2 c2) 25 (0, 0))) = w5 at *
  have e1 : (mb == mb) = true := by simp
  have e2 : (S.toList == S.toList) = true := by simp
  have e3 : (R.toList == R.toList) = true := by simp
  have e4 : (er == er) = true := by simp
  clear HB HA HE4 HE3 HE2 HE HR1 HR2 HR1b Hrt hBA hBB
  refine Rg.start2 (S := fun w' => Hid (Below w.heap.size w w' ∧ w'.rangeAt w.heap.size 0 (evF e A c).toList ∧ w'.rangeAt BA 0 (evF x V1 c1).toList ∧ w'.rangeAt BB 0 (evF x V2 c2).toList)) (T := fun w' => Hid (RowI w' A e.vals ∧ RowI w' V1 x.vals ∧ RowI w' V2 x.vals)) (by kernel_rfl) (fun _ _ _ _ _ h => h) (hid ⟨HS0.out.1.drew, HS0.out.2⟩) (hid HT0.out) ?_
  intro Q hp hn wz hH0 hT0
  refine Rg.tk (i := 0) rfl hp ?_
  refine ⟨?_, ?_, by kernel_rfl, by kernel_rfl, by kernel_rfl, Or.inl ⟨by rfl, ?_⟩, hH0, ?_, ?_⟩
  rotate_left 2
  · (intro w hSw; clear hSw; go_simp; try with_reducible rfl)
  · ((try simp only [Act.put, List.setIfInBounds_toArray, List.set_cons_zero, List.set_cons_succ]); exact rfl)
  refine Rg.tk (i := 1) rfl hp ?_
  refine ⟨?_, ?_, by kernel_rfl, by kernel_rfl, by kernel_rfl, Or.inl ⟨by rfl, ?_⟩, hH0, ?_, ?_⟩
  rotate_left 2
  · (intro w hSw; clear hSw; go_simp; try with_reducible rfl)
  · ((try simp only [Act.put, List.setIfInBounds_toArray, List.set_cons_zero, List.set_cons_succ]); exact rfl)
  refine Rg.tk (i := 2) rfl hp ?_
  refine ⟨_, ?_, by kernel_rfl, by kernel_rfl, by kernel_rfl, yieldsIf_load_mid (by rfl) 25 _ rfl w.heap.size 0 rfl (evF e A c).toList _ (fun w hSw => hSw.out.2.1) Try.underlying25 rfl hi9, hH0, ?_, ?_⟩
  rotate_left
  · ((try simp only [Act.put, List.setIfInBounds_toArray, List.set_cons_zero, List.set_cons_succ]); exact rfl)
  refine Rg.tk (i := 4) rfl hp ?_
  refine ⟨_, ?_, by kernel_rfl, by kernel_rfl, by kernel_rfl, yieldsIf_load_mid (by rfl) 25 _ rfl w.heap.size 0 rfl (evF e A c).toList _ (fun w hSw => hSw.out.2.1) Try.underlying25 rfl hi9, hH0, ?_, ?_⟩
  rotate_left
  · ((try simp only [Act.put, List.setIfInBounds_toArray, List.set_cons_zero, List.set_cons_succ]); exact rfl)
  refine Rg.one (i := 3) rfl ⟨by kernel_rfl, by rfl, fun K hK => ?_⟩
  go_simp
  refine (Hmay.out _ hT0.out.1).mono ?_
  rintro y u0 ⟨rfl, hl0⟩
  have hT1 := hid (rows3 hT0.out hl0)
  refine hK.out _ _ ?_ (hid (keep3 hH0.out hl0)) ?_ (fun hH1 => ?_)
  rotate_left
  · ((try simp only [Act.put, List.setIfInBounds_toArray, List.set_cons_zero, List.set_cons_succ]); exact rfl)
  clear hK K
  clear hl0 hT0
  refine Rg.one (i := 5) rfl ⟨by kernel_rfl, by rfl, fun K hK => ?_⟩
  go_simp
  refine (Hrmay.out _ hT1.out.1).mono ?_
  rintro y u1 ⟨rfl, hl1⟩
  have hT2 := hid (rows3 hT1.out hl1)
  refine hK.out _ _ ?_ (hid (keep3 hH1.out hl1)) ?_ (fun hH2 => ?_)
  rotate_left
  · ((try simp only [Act.put, List.setIfInBounds_toArray, List.set_cons_zero, List.set_cons_succ]); exact rfl)
  clear hK K
  clear hl1 hT1
  refine Rg.tk (i := 6) rfl hp ?_
  refine ⟨?_, ?_, by kernel_rfl, by kernel_rfl, by kernel_rfl, Or.inl ⟨by rfl, ?_⟩, hH2, ?_, ?_⟩
  rotate_left 2
  · (intro w hSw; clear hSw; go_simp; try with_reducible rfl)
  · ((try simp only [Act.put, List.setIfInBounds_toArray, List.set_cons_zero, List.set_cons_succ]); exact rfl)
  refine Rg.tk (i := 7) rfl hp ?_
  refine ⟨?_, ?_, by kernel_rfl, by kernel_rfl, by kernel_rfl, Or.inl ⟨by rfl, ?_⟩, hH2, ?_, ?_⟩
  rotate_left 2
  · (intro w hSw; clear hSw; go_simp; try with_reducible rfl)
  · ((try simp only [Act.put, List.setIfInBounds_toArray, List.set_cons_zero, List.set_cons_succ]); exact rfl)
  refine Rg.tk (i := 8) rfl hp ?_
  refine ⟨?_, ?_, by kernel_rfl, by kernel_rfl, by kernel_rfl, Or.inl ⟨by rfl, ?_⟩, hH2, ?_, ?_⟩
  rotate_left 2
  · (intro w hSw; clear hSw; go_simp; try with_reducible rfl)
  · ((try simp only [Act.put, List.setIfInBounds_toArray, List.set_cons_zero, List.set_cons_succ]); exact rfl)
  refine Rg.tk (i := 9) rfl hp ?_
  refine ⟨_, ?_, by kernel_rfl, by kernel_rfl, by kernel_rfl, yieldsIf_load_mid (by rfl) 25 _ rfl w.heap.size 0 rfl (evF e A c).toList _ (fun w hSw => hSw.out.2.1) Try.underlying25 rfl hi9, hH2, ?_, ?_⟩
  rotate_left
  · ((try simp only [Act.put, List.setIfInBounds_toArray, List.set_cons_zero, List.set_cons_succ]); exact rfl)
  refine Rg.tk (i := 11) rfl hp ?_
  refine ⟨_, ?_, by kernel_rfl, by kernel_rfl, by kernel_rfl, yieldsIf_load_mid (by rfl) 25 _ rfl w.heap.size 0 rfl (evF e A c).toList _ (fun w hSw => hSw.out.2.1) Try.underlying25 rfl hi9, hH2, ?_, ?_⟩
  rotate_left
  · ((try simp only [Act.put, List.setIfInBounds_toArray, List.set_cons_zero, List.set_cons_succ]); exact rfl)
  refine Rg.one (i := 10) rfl ⟨by kernel_rfl, by rfl, fun K hK => ?_⟩
  go_simp
  refine (Hput.out _ hT2.out.1).mono ?_
  rintro y u2 ⟨rfl, hl2⟩
  have hT3 := hid (rows3 hT2.out hl2)
  refine hK.out _ _ ?_ (hid (keep3 hH2.out hl2)) ?_ (fun hH3 => ?_)
  rotate_left
  · ((try simp only [Act.put, List.setIfInBounds_toArray, List.set_cons_zero, List.set_cons_succ]); exact rfl)
  clear hK K
  clear hl2 hT2
  refine Rg.one (i := 12) rfl ⟨by kernel_rfl, by rfl, fun K hK => ?_⟩
  go_simp
  refine (Hrput.out _ hT3.out.1).mono ?_
  rintro y u3 ⟨rfl, hl3⟩
  have hT4 := hid (rows3 hT3.out hl3)
  refine hK.out _ _ ?_ (hid (keep3 hH3.out hl3)) ?_ (fun hH4 => ?_)
  rotate_left
  · ((try simp only [Act.put, List.setIfInBounds_toArray, List.set_cons_zero, List.set_cons_succ]); exact rfl)
  clear hK K
  clear hl3 hT3
  refine Rg.tk (i := 13) rfl hp ?_
  refine ⟨?_, ?_, by kernel_rfl, by kernel_rfl, by kernel_rfl, Or.inl ⟨by rfl, ?_⟩, hH4, ?_, ?_⟩
  rotate_left 2
  · (intro w hSw; clear hSw; go_simp; try with_reducible rfl)
  · ((try simp only [Act.put, List.setIfInBounds_toArray, List.set_cons_zero, List.set_cons_succ]); exact rfl)
  refine Rg.tk (i := 14) rfl hp ?_
  refine ⟨?_, ?_, by kernel_rfl, by kernel_rfl, by kernel_rfl, Or.inl ⟨by rfl, ?_⟩, hH4, ?_, ?_⟩
  rotate_left 2
  · (intro w hSw; clear hSw; go_simp; try with_reducible rfl)
  · ((try simp only [Act.put, List.setIfInBounds_toArray, List.set_cons_zero, List.set_cons_succ]); exact rfl)
  refine Rg.tk (i := 15) rfl hp ?_
  refine ⟨?_, ?_, by kernel_rfl, by kernel_rfl, by kernel_rfl, Or.inl ⟨by rfl, ?_⟩, hH4, ?_, ?_⟩
  rotate_left 2
  · (intro w hSw; clear hSw; go_simp; try with_reducible rfl)
  · ((try simp only [Act.put, List.setIfInBounds_toArray, List.set_cons_zero, List.set_cons_succ]); exact rfl)
  refine Rg.tk (i := 16) rfl hp ?_
  refine ⟨_, ?_, by kernel_rfl, by kernel_rfl, by kernel_rfl, yieldsIf_load_mid (by rfl) 25 _ rfl BA 0 rfl (evF x V1 c1).toList _ (fun w hSw => hSw.out.2.2.1) Try.underlying25 rfl hi9, hH4, ?_, ?_⟩
  rotate_left
  · ((try simp only [Act.put, List.setIfInBounds_toArray, List.set_cons_zero, List.set_cons_succ]); exact rfl)
  refine Rg.tk (i := 17) rfl hp ?_
  refine ⟨_, ?_, by kernel_rfl, by kernel_rfl, by kernel_rfl, yieldsIf_load_mid (by rfl) 25 _ rfl BB 0 rfl (evF x V2 c2).toList _ (fun w hSw => hSw.out.2.2.2) Try.underlying25 rfl hi9, hH4, ?_, ?_⟩
  rotate_left
  · ((try simp only [Act.put, List.setIfInBounds_toArray, List.set_cons_zero, List.set_cons_succ]); exact rfl)
  refine Rg.one (i := 18) rfl ⟨by kernel_rfl, by rfl, fun K hK => ?_⟩
  go_simp
  refine (Halike.out _ hT4.out.2.1 hT4.out.2.2).mono ?_
  rintro y u4 ⟨rfl, hl4⟩
  have hT5 := hid (rows3 hT4.out hl4)
  refine hK.out _ _ ?_ (hid (keep3 hH4.out hl4)) ?_ (fun hH5 => ?_)
  rotate_left
  · ((try simp only [Act.put, List.setIfInBounds_toArray, List.set_cons_zero, List.set_cons_succ]); exact rfl)
  clear hK K
  clear hl4 hT4
  refine Rg.tk (i := 19) rfl hp ?_
  refine ⟨?_, ?_, by kernel_rfl, by kernel_rfl, by kernel_rfl, Or.inl ⟨by rfl, ?_⟩, hH5, ?_, ?_⟩
  rotate_left 2
  · (intro w hSw; clear hSw; go_simp; try with_reducible rfl)
  · ((try simp only [Act.put, List.setIfInBounds_toArray, List.set_cons_zero, List.set_cons_succ]); exact rfl)
  refine Rg.tk (i := 20) rfl hp ?_
  refine ⟨?_, ?_, by kernel_rfl, by kernel_rfl, by kernel_rfl, Or.inl ⟨by rfl, ?_⟩, hH5, ?_, ?_⟩
  rotate_left 2
  · (intro w hSw; clear hSw; go_simp; try with_reducible rfl)
  · ((try simp only [Act.put, List.setIfInBounds_toArray, List.set_cons_zero, List.set_cons_succ]); exact rfl)
  refine Rg.tk (i := 21) rfl hp ?_
  refine ⟨?_, ?_, by kernel_rfl, by kernel_rfl, by kernel_rfl, Or.inl ⟨by rfl, ?_⟩, hH5, ?_, ?_⟩
  rotate_left 2
  · (intro w hSw; clear hSw; go_simp; try with_reducible rfl)
  · ((try simp only [Act.put, List.setIfInBounds_toArray, List.set_cons_zero, List.set_cons_succ]); exact rfl)
  refine Rg.tk (i := 22) rfl hp ?_
  refine ⟨?_, ?_, by kernel_rfl, by kernel_rfl, by kernel_rfl, Or.inl ⟨by rfl, ?_⟩, hH5, ?_, ?_⟩
  rotate_left 2
  · (intro w hSw; clear hSw; go_simp; try with_reducible rfl)
  · ((try simp only [Act.put, List.setIfInBounds_toArray, List.set_cons_zero, List.set_cons_succ]); exact rfl)
  refine Rg.tk (i := 23) rfl hp ?_
  refine ⟨?_, ?_, by kernel_rfl, by kernel_rfl, by kernel_rfl, Or.inl ⟨by rfl, ?_⟩, hH5, ?_, ?_⟩
  rotate_left 2
  · (intro w hSw; clear hSw; go_simp; try with_reducible rfl)
  · ((try simp only [Act.put, List.setIfInBounds_toArray, List.set_cons_zero, List.set_cons_succ]); exact rfl)
  refine Rg.tk (i := 24) rfl hp ?_
  refine ⟨?_, ?_, by kernel_rfl, by kernel_rfl, by kernel_rfl, Or.inl ⟨by rfl, ?_⟩, hH5, ?_, ?_⟩
  rotate_left 2
  · (intro w hSw; clear hSw; go_simp; try with_reducible rfl)
  · ((try simp only [Act.put, List.setIfInBounds_toArray, List.set_cons_zero, List.set_cons_succ]); exact rfl)
  refine Rg.tk (i := 25) rfl hp ?_
  refine ⟨?_, ?_, by kernel_rfl, by kernel_rfl, by kernel_rfl, Or.inl ⟨by rfl, ?_⟩, hH5, ?_, ?_⟩
  rotate_left 2
  · (intro w hSw; clear hSw; go_simp; try with_reducible rfl)
  · ((try simp only [Act.put, List.setIfInBounds_toArray, List.set_cons_zero, List.set_cons_succ]); exact rfl)
  refine Rg.tk (i := 26) rfl hp ?_
  refine ⟨?_, ?_, by kernel_rfl, by kernel_rfl, by kernel_rfl, Or.inl ⟨by rfl, ?_⟩, hH5, ?_, ?_⟩
  rotate_left 2
  · (intro w hSw; clear hSw; go_simp; try with_reducible rfl)
  · ((try simp only [Act.put, List.setIfInBounds_toArray, List.set_cons_zero, List.set_cons_succ]); exact rfl)
  refine Rg.tk (i := 27) rfl hp ?_
  refine ⟨?_, ?_, by kernel_rfl, by kernel_rfl, by kernel_rfl, Or.inl ⟨by rfl, ?_⟩, hH5, ?_, ?_⟩
  rotate_left 2
  · (intro w hSw; clear hSw; go_simp; try with_reducible rfl)
  · ((try simp only [Act.put, List.setIfInBounds_toArray, List.set_cons_zero, List.set_cons_succ]); exact rfl)
  refine Rg.tk (i := 28) rfl hp ?_
  refine ⟨?_, ?_, by kernel_rfl, by kernel_rfl, by kernel_rfl, Or.inl ⟨by rfl, ?_⟩, hH5, ?_, ?_⟩
  rotate_left 2
  · (intro w hSw; clear hSw; go_simp; try with_reducible rfl)
  · ((try simp only [Act.put, List.setIfInBounds_toArray, List.set_cons_zero, List.set_cons_succ]); exact rfl)
  refine Rg.tk (i := 29) rfl hp ?_
  refine ⟨?_, ?_, by kernel_rfl, by kernel_rfl, by kernel_rfl, Or.inl ⟨by rfl, ?_⟩, hH5, ?_, ?_⟩
  rotate_left 2
  · (intro w hSw; clear hSw; go_simp; try with_reducible rfl)
  · ((try simp only [Act.put, List.setIfInBounds_toArray, List.set_cons_zero, List.set_cons_succ]); exact rfl)
  refine Rg.tk (i := 30) rfl hp ?_
  refine ⟨?_, ?_, by kernel_rfl, by kernel_rfl, by kernel_rfl, Or.inl ⟨by rfl, ?_⟩, hH5, ?_, ?_⟩
  rotate_left 2
  · (intro w hSw; clear hSw; go_simp; try with_reducible rfl)
  · ((try simp only [Act.put, List.setIfInBounds_toArray, List.set_cons_zero, List.set_cons_succ]); exact rfl)
  refine wpAnyH_done (by kernel_rfl) ?_ _
  refine hn.out _ _ ?_
  have HF := hH5
  clear hn hp Q
  go_wp2_with fail
  go_ret
  exact ⟨rfl, HF.out.1⟩
theorem codecTells_walk {H : Type} {enc : TypeId × Value → H} (W : World) (a0_0 : Int) (a0_1 : Int) (a0_2 : Int) (a0_3 : Int) (a0_4 : Int) (a0_5 : Int) (a0_6 : Int) (a0_7 : Bool) (a0_8 : Option Addr) (l0_8 c0_8 : Nat) (w0_0 : (Lit.int .i64 a0_0).wf = true) (w0_1 : (Lit.int .i64 a0_1).wf = true) (w0_2 : (Lit.int .i64 a0_2).wf = true) (w0_3 : (Lit.int .i64 a0_3).wf = true) (w0_4 : (Lit.int .i64 a0_4).wf = true) (w0_5 : (Lit.int .i64 a0_5).wf = true) (w0_6 : (Lit.int .u64 a0_6).wf = true) (k0_8 : (Opn.Lf.slc 3).ok enc Try.prog W 0 (fun _ => true) true (.slice a0_8 l0_8 c0_8)) (s1 : ByteArray) (y1 : s1.size ≤ 140737488351232) :
    Calls Try.prog 3 #[.agg #[.int .i64 a0_0, .int .i64 a0_1, .int .i64 a0_2, .int .i64 a0_3, .int .i64 a0_4, .int .i64 a0_5, .int .u64 a0_6, .bool a0_7, .slice a0_8 l0_8 c0_8], .string s1] W fun e w' => e = .returned (.bool true) ∧ Below W.heap.size W w' := by
  obtain ⟨L, rfl, hx, hr, hl⟩ := rowI_of_slc (by kernel_rfl) (by kernel_rfl) k0_8
  obtain ⟨n0, n1⟩ := Sat.wf_u64 w0_6
  obtain ⟨n, rfl⟩ := Int.eq_ofNat_of_zero_le n0
  exact tells_core ⟨a0_0, a0_1, a0_2, a0_3, a0_4, a0_5, n, a0_7, L⟩ a0_8 c0_8 s1 W (hid ⟨Sat.wf_i64 w0_0, Sat.wf_i64 w0_1, Sat.wf_i64 w0_2, Sat.wf_i64 w0_3, Sat.wf_i64 w0_4, Sat.wf_i64 w0_5, by show n ≤ _; omega, hx⟩) (by show L.length ≤ _; unfold maxLen at hl; omega) hr y1
end Go.Proofs.Ytcfjefngfmnmaaa.C22
