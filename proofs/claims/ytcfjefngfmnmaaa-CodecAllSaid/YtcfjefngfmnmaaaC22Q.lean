/- What both functions All of chapter 22 return. -/
import Derived.Test.YtcfjefngfmnmaaaC22P
namespace Go.Proofs.Ytcfjefngfmnmaaa.C22
open Go.RowKit Go.Proofs.Ytcfjefngfmnmaaa Go.Proofs.Ytcfjefngfmnmaaa.Cod
set_option linter.unusedVariables false
set_option linter.unusedSimpArgs false
set_option linter.unnecessarySimpa false
set_option maxRecDepth 20000 in
set_option maxHeartbeats 4000000 in
theorem all_core (s : List Int) (w : World) (hok : Hid (Cod.Ok s)) (hs : s.length ≤ 1000000) :
    Calls Try.prog 18 #[.string (strOfNums s)] w fun x w' => AllPost s w x w' := by
  obtain ⟨i0, i1, i2, i3, i4⟩ := infoE
  have hi9 : (Try.prog.info? 25).map (·.size) = some 9 := by kernel_rfl
  obtain ⟨S0, hS0⟩ : ∃ S, strOfNums s = S := ⟨_, rfl⟩
  have HS0 := hid hS0
  rw [hS0]
  clear hS0
  go_enter Try.func18, Try.ntmps18
  go_wp2_with fail
  go_loopw [0, 4, 5, 6, 7] (fun t z _ _ _ wr => ∃ (hs : List Held) (r : List Int) (v : Value), z = v ∧ t = .string (strOfNums r) ∧ Good (hs.map (·.e)) ∧ cat (hs.map (·.e)) ++ r = s ∧ Evs wr w.heap.size v hs ∧ Below w.heap.size w wr) (fun t _ _ _ _ _ => match t with | .string b => b.size | _ => 0)
  case atStart => exact ⟨[], s, _, rfl, by rw [HS0.out], (fun e he => absurd he List.not_mem_nil), rfl, Evs.nil _ _, Below.refl _ _⟩
  case round =>
    obtain ⟨hs, r, v, hv, rfl, hg, hcat, hE, hB⟩ := hrel
    have hv' := hv.symm
    clear hv
    subst hv'
    have Hg := hid hg
    have Hcat := hid hcat
    have HE := hid hE
    have HB := hid hB
    have hrl : (strOfNums r).size = r.length := strOfNums_size r
    have hrs : r.length ≤ s.length := by rw [← hcat, List.length_append]; omega
    have hhl := cat_len hg
    rw [List.length_map] at hhl
    have hcl : (cat (hs.map (·.e))).length ≤ s.length := by rw [← hcat, List.length_append]; omega
    have hnl : hs.length ≤ 1000000 := by omega
    have hrok : Cod.Ok r := fun x hx => hok.out x (by rw [← hcat]; exact List.mem_append_right _ hx)
    have hnums := nums_str hrok
    have Hrl := hid hrl
    by_cases hr : r = []
    · subst hr
      rw [show strOfNums [] = (⟨#[]⟩ : ByteArray) from rfl]
      obtain ⟨A, c, rfl, hrow⟩ := Evs.row hE
      rw [List.append_nil] at hcat
      have Hrow := hid hrow
      have Hc2 := hid hcat
      clear hg hcat hE hB hrl hrs hhl hcl hnums hrok hrow Hcat
      go_wp2_with fail
      go_ret2
      exact ⟨.inl ⟨_, A, c, rfl, Hrow.out, Hg.out, Hc2.out⟩, HB.out⟩
    · have Hr := hid hr
      have hne : (strOfNums r).toList.isEmpty = false := by
        rw [ByteArray.toList_eq]
        cases hq : (strOfNums r).data.toList with
        | nil =>
          exfalso
          have h1 : (strOfNums r).size = 0 := by
            show (strOfNums r).data.size = 0
            rw [← Array.length_toList, hq]; rfl
          have : r.length = 0 := by omega
          exact hr (List.eq_nil_of_length_eq_zero this)
        | cons => rfl
      have hne2 : ((strOfNums r).toList == []) = false := by
        cases hq : (strOfNums r).toList with
        | nil => rw [hq] at hne; cases hne
        | cons => rfl
      have Htk := hid fun w => take_calls (strOfNums r) w
      have Hnums := hid hnums
      clear hr hg hcat hE hB hrl hrs hhl hcl hnums
      obtain ⟨S, hS⟩ : ∃ S, strOfNums r = S := ⟨_, rfl⟩
      rw [hS] at hne hne2 Htk Hrl Hnums
      rw [hS]
      clear hS
      go_wp2_with fail
      refine (Htk.out _).mono ?_
      rintro y w2 ⟨h1, h2, hb⟩
      rw [Hnums.out] at h1 h2
      have HB2 := hid (via HB.out hb)
      have HE2 := hid (HE.out.below hb)
      cases ht : Cod.take r with
      | none =>
        have hx := h1 ht
        unfold noneV zeroF at hx
        subst hx
        have Ht := hid ht
        clear h1 h2 hb ht
        dsimp only [zero, List.length_nil]
        go_wp2_with fail
        go_ret2
        exact ⟨.inr ⟨rfl, _, r, Hg.out, Hcat.out, Hr.out, Ht.out⟩, HB2.out.alloc HB2.out.size _⟩
      | some er =>
        obtain ⟨e, q⟩ := er
        obtain ⟨A, c, hx, hrw, hfr⟩ := h2 e q ht
        unfold someV at hx
        subst hx
        have hv := take_very ht
        have hen := take_n hrok ht
        have hql : (strOfNums q).size < S.size := by
          have h3 := congrArg List.length hv.2
          rw [List.length_append, put_len hv.1] at h3
          rw [strOfNums_size]
          have := Hrl.out
          omega
        have Hql := hid hql
        have hapart : Hid (∀ b o, A = some ⟨b, o, none⟩ → v.ownBlock ≠ some b) := hid fun b o hA hq => by
          have h4 := hfr b o hA
          have h5 := (HE.out.lt b hq).2
          omega
        have Hg2 : Hid (Good ((hs ++ [(⟨e, A, c⟩ : Held)]).map (·.e))) := hid (by
          intro x hx
          rw [List.map_append] at hx
          rcases List.mem_append.1 hx with hx | hx
          · exact Hg.out x hx
          · obtain rfl := List.mem_singleton.1 hx
            exact ⟨hv.1, hen⟩)
        have Hcat2 : Hid (cat ((hs ++ [(⟨e, A, c⟩ : Held)]).map (·.e)) ++ q = s) := hid (by
          rw [List.map_append, cat_append]
          show cat (hs.map (·.e)) ++ cat [e] ++ q = s
          rw [cat_one, List.append_assoc, hv.2]
          exact Hcat.out)
        have Hrw := hid hrw
        have HA : Hid (∀ o, ((w2.alloc (.cells (evF e A c) 25 (0, 0))).alloc o).rangeAt w2.heap.size 0 (evF e A c).toList) := hid fun o => range_alloc (range_new w2 (evF e A c) 25)
        have HN : Hid ((((w2.alloc (.cells (evF e A c) 25 (0, 0))).alloc (.cells (evF e A c) 25 (0, 0)))).rangeAt (w2.heap.size + 1) 0 (evF e A c).toList) := hid (range_newB _ (evF e A c) 25 _ (by simp))
        have hE3 : Evs ((w2.alloc (.cells (evF e A c) 25 (0, 0))).alloc (.cells (evF e A c) 25 (0, 0))) w.heap.size v hs := HE2.out.below (((Below.refl _ _).alloc (Nat.le_refl _) _).alloc (by simp) _)
        have hrw3 : RowI ((w2.alloc (.cells (evF e A c) 25 (0, 0))).alloc (.cells (evF e A c) 25 (0, 0))) A e.vals := Hrw.out.below (((Below.refl _ _).alloc (Nat.le_refl _) _).alloc (by simp) _)
        have HE3 := hid hE3
        have Hrw3 := hid hrw3
        clear h1 h2 hb ht hrw hfr hv hen hql hE3 hrw3
        go_wp2_with (refine wpList_append_own_at _ rfl _ _ 38 rfl w.heap.size 25 i0 (.agg zeroF) 9 88 Try.underlying38 i1 i2 i3 i4 rfl (by decide) v hs.length (hcells hs) rfl HE3.out.1 ⟨w2.heap.size + 1, 0, none⟩ 1 1 (evF e A c).toList rfl rfl (fun j u hj => by rw [Addr.add_mid]; exact HN.out j u hj) (fun u hu => Array.all_eq_true_iff_forall_mem.1 (evF_one e A c) u (Array.mem_toList_iff.1 hu)) (by unfold maxLen; omega) (by omega) (by have := HB2.out.size; simp; omega) ?_)
        intro v' w5 hown hgrow _ hat
        have HE5 := hid (Evs.snoc HE3.out ⟨e, A, c⟩ Hrw3.out (.inr hapart.out) hown hgrow (by simpa using hat))
        have HB5 := hid (below_grown ((HB2.out.alloc HB2.out.size _).alloc (by have := HB2.out.size; simp; omega) _) hgrow (fun g hg => (HE3.out.lt g hg).1))
        clear hown hgrow hat
        go_wp2_with fail
        go_roundw
        case rel => exact ⟨_, q, _, rfl, rfl, Hg2.out, Hcat2.out, HE5.out, HB5.out⟩
        case measure => exact Hql.out
set_option maxRecDepth 20000 in
set_option maxHeartbeats 4000000 in
theorem rall_core (s : List Int) (w : World) (hok : Hid (Cod.Ok s)) (hs : s.length ≤ 1000000) :
    Calls Try.prog 19 #[.string (strOfNums s)] w fun x w' => AllPost s w x w' := by
  obtain ⟨i0, i1, i2, i3, i4⟩ := infoE
  have hi9 : (Try.prog.info? 25).map (·.size) = some 9 := by kernel_rfl
  obtain ⟨S0, hS0⟩ : ∃ S, strOfNums s = S := ⟨_, rfl⟩
  have HS0 := hid hS0
  rw [hS0]
  clear hS0
  go_enter Try.func19, Try.ntmps19
  go_wp2_with fail
  go_loopw [0, 4, 5, 6, 7] (fun t z _ _ _ wr => ∃ (hs : List Held) (r : List Int) (v : Value), z = v ∧ t = .string (strOfNums r) ∧ Good (hs.map (·.e)) ∧ cat (hs.map (·.e)) ++ r = s ∧ Evs wr w.heap.size v hs ∧ Below w.heap.size w wr) (fun t _ _ _ _ _ => match t with | .string b => b.size | _ => 0)
  case atStart => exact ⟨[], s, _, rfl, by rw [HS0.out], (fun e he => absurd he List.not_mem_nil), rfl, Evs.nil _ _, Below.refl _ _⟩
  case round =>
    obtain ⟨hs, r, v, hv, rfl, hg, hcat, hE, hB⟩ := hrel
    have hv' := hv.symm
    clear hv
    subst hv'
    have Hg := hid hg
    have Hcat := hid hcat
    have HE := hid hE
    have HB := hid hB
    have hrl : (strOfNums r).size = r.length := strOfNums_size r
    have hrs : r.length ≤ s.length := by rw [← hcat, List.length_append]; omega
    have hhl := cat_len hg
    rw [List.length_map] at hhl
    have hcl : (cat (hs.map (·.e))).length ≤ s.length := by rw [← hcat, List.length_append]; omega
    have hnl : hs.length ≤ 1000000 := by omega
    have hrok : Cod.Ok r := fun x hx => hok.out x (by rw [← hcat]; exact List.mem_append_right _ hx)
    have hnums := nums_str hrok
    have Hrl := hid hrl
    by_cases hr : r = []
    · subst hr
      rw [show strOfNums [] = (⟨#[]⟩ : ByteArray) from rfl]
      obtain ⟨A, c, rfl, hrow⟩ := Evs.row hE
      rw [List.append_nil] at hcat
      have Hrow := hid hrow
      have Hc2 := hid hcat
      clear hg hcat hE hB hrl hrs hhl hcl hnums hrok hrow Hcat
      go_wp2_with fail
      go_ret2
      exact ⟨.inl ⟨_, A, c, rfl, Hrow.out, Hg.out, Hc2.out⟩, HB.out⟩
    · have Hr := hid hr
      have hne : (strOfNums r).toList.isEmpty = false := by
        rw [ByteArray.toList_eq]
        cases hq : (strOfNums r).data.toList with
        | nil =>
          exfalso
          have h1 : (strOfNums r).size = 0 := by
            show (strOfNums r).data.size = 0
            rw [← Array.length_toList, hq]; rfl
          have : r.length = 0 := by omega
          exact hr (List.eq_nil_of_length_eq_zero this)
        | cons => rfl
      have hne2 : ((strOfNums r).toList == []) = false := by
        cases hq : (strOfNums r).toList with
        | nil => rw [hq] at hne; cases hne
        | cons => rfl
      have Htk := hid fun w => rtake_calls (strOfNums r) w
      have Hnums := hid hnums
      clear hr hg hcat hE hB hrl hrs hhl hcl hnums
      obtain ⟨S, hS⟩ : ∃ S, strOfNums r = S := ⟨_, rfl⟩
      rw [hS] at hne hne2 Htk Hrl Hnums
      rw [hS]
      clear hS
      go_wp2_with fail
      refine (Htk.out _).mono ?_
      rintro y w2 ⟨h1, h2, hb⟩
      rw [Hnums.out] at h1 h2
      have HB2 := hid (via HB.out hb)
      have HE2 := hid (HE.out.below hb)
      cases ht : Cod.take r with
      | none =>
        have hx := h1 ht
        unfold noneV zeroF at hx
        subst hx
        have Ht := hid ht
        clear h1 h2 hb ht
        dsimp only [zero, List.length_nil]
        go_wp2_with fail
        go_ret2
        exact ⟨.inr ⟨rfl, _, r, Hg.out, Hcat.out, Hr.out, Ht.out⟩, HB2.out.alloc HB2.out.size _⟩
      | some er =>
        obtain ⟨e, q⟩ := er
        obtain ⟨A, c, hx, hrw, hfr⟩ := h2 e q ht
        unfold someV at hx
        subst hx
        have hv := take_very ht
        have hen := take_n hrok ht
        have hql : (strOfNums q).size < S.size := by
          have h3 := congrArg List.length hv.2
          rw [List.length_append, put_len hv.1] at h3
          rw [strOfNums_size]
          have := Hrl.out
          omega
        have Hql := hid hql
        have hapart : Hid (∀ b o, A = some ⟨b, o, none⟩ → v.ownBlock ≠ some b) := hid fun b o hA hq => by
          have h4 := hfr b o hA
          have h5 := (HE.out.lt b hq).2
          omega
        have Hg2 : Hid (Good ((hs ++ [(⟨e, A, c⟩ : Held)]).map (·.e))) := hid (by
          intro x hx
          rw [List.map_append] at hx
          rcases List.mem_append.1 hx with hx | hx
          · exact Hg.out x hx
          · obtain rfl := List.mem_singleton.1 hx
            exact ⟨hv.1, hen⟩)
        have Hcat2 : Hid (cat ((hs ++ [(⟨e, A, c⟩ : Held)]).map (·.e)) ++ q = s) := hid (by
          rw [List.map_append, cat_append]
          show cat (hs.map (·.e)) ++ cat [e] ++ q = s
          rw [cat_one, List.append_assoc, hv.2]
          exact Hcat.out)
        have Hrw := hid hrw
        have HA : Hid (∀ o, ((w2.alloc (.cells (evF e A c) 25 (0, 0))).alloc o).rangeAt w2.heap.size 0 (evF e A c).toList) := hid fun o => range_alloc (range_new w2 (evF e A c) 25)
        have HN : Hid ((((w2.alloc (.cells (evF e A c) 25 (0, 0))).alloc (.cells (evF e A c) 25 (0, 0)))).rangeAt (w2.heap.size + 1) 0 (evF e A c).toList) := hid (range_newB _ (evF e A c) 25 _ (by simp))
        have hE3 : Evs ((w2.alloc (.cells (evF e A c) 25 (0, 0))).alloc (.cells (evF e A c) 25 (0, 0))) w.heap.size v hs := HE2.out.below (((Below.refl _ _).alloc (Nat.le_refl _) _).alloc (by simp) _)
        have hrw3 : RowI ((w2.alloc (.cells (evF e A c) 25 (0, 0))).alloc (.cells (evF e A c) 25 (0, 0))) A e.vals := Hrw.out.below (((Below.refl _ _).alloc (Nat.le_refl _) _).alloc (by simp) _)
        have HE3 := hid hE3
        have Hrw3 := hid hrw3
        clear h1 h2 hb ht hrw hfr hv hen hql hE3 hrw3
        go_wp2_with (refine wpList_append_own_at _ rfl _ _ 38 rfl w.heap.size 25 i0 (.agg zeroF) 9 88 Try.underlying38 i1 i2 i3 i4 rfl (by decide) v hs.length (hcells hs) rfl HE3.out.1 ⟨w2.heap.size + 1, 0, none⟩ 1 1 (evF e A c).toList rfl rfl (fun j u hj => by rw [Addr.add_mid]; exact HN.out j u hj) (fun u hu => Array.all_eq_true_iff_forall_mem.1 (evF_one e A c) u (Array.mem_toList_iff.1 hu)) (by unfold maxLen; omega) (by omega) (by have := HB2.out.size; simp; omega) ?_)
        intro v' w5 hown hgrow _ hat
        have HE5 := hid (Evs.snoc HE3.out ⟨e, A, c⟩ Hrw3.out (.inr hapart.out) hown hgrow (by simpa using hat))
        have HB5 := hid (below_grown ((HB2.out.alloc HB2.out.size _).alloc (by have := HB2.out.size; simp; omega) _) hgrow (fun g hg => (HE3.out.lt g hg).1))
        clear hown hgrow hat
        go_wp2_with fail
        go_roundw
        case rel => exact ⟨_, q, _, rfl, rfl, Hg2.out, Hcat2.out, HE5.out, HB5.out⟩
        case measure => exact Hql.out
theorem all_calls (s : ByteArray) (w : World) (hs : s.size ≤ 1000000) : Calls Try.prog 18 #[.string s] w fun x w' => AllPost (nums s) w x w' := by
  have := all_core (nums s) w (hid (nums_ok s)) (by rw [nums_len]; exact hs)
  rwa [str_nums] at this
theorem rall_calls (s : ByteArray) (w : World) (hs : s.size ≤ 1000000) : Calls Try.prog 19 #[.string s] w fun x w' => AllPost (nums s) w x w' := by
  have := rall_core (nums s) w (hid (nums_ok s)) (by rw [nums_len]; exact hs)
  rwa [str_nums] at this
end Go.Proofs.Ytcfjefngfmnmaaa.C22
