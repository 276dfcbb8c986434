/- The walks of the laws HistRises and HistAll. -/
import Derived.Test.YtmemafhdondfhaaC07F
import Derived.Test.YtmemafhdondfhaaOpen
namespace Go.Proofs.Ytmemafhdondfhaa.C06
open Go.RowKit Go.Proofs.Ytmemafhdondfhaa Go.Proofs.Ytmemafhdondfhaa.Win
set_option linter.unusedVariables false
set_option linter.unusedSimpArgs false
set_option linter.unnecessarySimpa false
attribute [local go_sem] C01.max2_mx C01.min2_mn C01.max_two C01.min_two
/-- What an operand slice of times holds. -/
def RowN (w : World) (A : Option Addr) (l : List Nat) : Prop := l = [] ∨ ∃ b o, A = some ⟨b, o, none⟩ ∧ ∀ i, i < l.length → w.cell? ⟨b, o + i, none⟩ = some (.int .u64 (l.getD i 0))
theorem rowN_of_slc {H : Type} {enc : TypeId × Value → H} {P : Program} {w : World} {e : TypeId} {a : Option Addr} {l c : Nat} (he : Opn.leaves P 1 e = some [.int .u64]) (hc : P.cellsOf e = 1) (h : (Opn.Lf.slc e).ok enc P w 0 (fun _ => true) true (.slice a l c)) :
    ∃ zs : List Nat, zs.length = l ∧ (∀ x ∈ zs, x < 18446744073709551616) ∧ RowN w a zs := by
  obtain ⟨a', l', c', hv, _, vs, hlen, hok, hcell⟩ := Opn.slc_cells 1 he (by rw [hc]; rfl) h
  injection hv with h1 h2' h3
  subst h1 h2' h3
  obtain ⟨zs, rfl, hz⟩ := Opn.list_of (fun z : Nat => [Value.int .u64 (z : Int)]) (fun z => z < 18446744073709551616) vs (fun x hx => by
    obtain ⟨_, _, rfl, ⟨n, rfl, wn⟩, rfl⟩ := hok x hx
    obtain ⟨n0, n1⟩ := Sat.wf_u64 wn
    obtain ⟨m, rfl⟩ := Int.eq_ofNat_of_zero_le n0
    exact ⟨m, rfl, by omega⟩)
  refine ⟨zs, by simpa using hlen, hz, ?_⟩
  by_cases hne : zs = []
  · exact .inl hne
  · right
    rcases hcell with h0 | ⟨ad, rfl, hcell⟩
    · exfalso
      apply hne
      exact List.eq_nil_of_length_eq_zero (by simpa [h0] using hlen)
    · obtain ⟨b, o, rfl, hat⟩ := Opn.slc_at (sz := 1) (by simp) (by omega) (by simpa using hne) hcell
      refine ⟨b, o, rfl, fun i hi => ?_⟩
      have := hat i 0 [Value.int .u64 ((zs.getD i 0 : Nat) : Int)] (Value.int .u64 ((zs.getD i 0 : Nat) : Int)) (by simp [hi]) rfl
      simpa using this
theorem RowN.below {w w' : World} {A : Option Addr} {l : List Nat} (h : RowN w A l) (hb : Below w.heap.size w w') : RowN w' A l := by
  rcases h with rfl | ⟨b, o, rfl, h⟩
  · exact .inl rfl
  · refine .inr ⟨b, o, rfl, fun i hi => ?_⟩
    have hc := h i hi
    rw [hb.cell (World.block_lt_of_cell? w _ hc)]
    exact hc
theorem Has.rebase {base w w' : World} {B : Nat} {V : Win} (h : Has w B V w') (hb : Below base.heap.size base w) : Has base B V w' :=
  ⟨h.here, h.ok, h.lt, Nat.le_trans hb.size h.ge, hb.trans (h.below.mono hb.size)⟩
/-- The hist behind some notes. -/
def notes (l : List Nat) : Win := l.foldl (fun V x => V.add 5 (Bits.blen x) 1) (fresh 2 10)
theorem notes_succ (l : List Nat) (k : Nat) (h : k < l.length) : notes (l.take (k + 1)) = (notes (l.take k)).add 5 (Bits.blen (l.getD k 0)) 1 := by
  unfold notes
  rw [List.take_succ_eq_append_getElem h, List.foldl_append, List.getD_eq_getElem?_getD, List.getElem?_eq_getElem h]
  rfl
/-- A hist in which the bins L were noted, at the time 5. -/
structure Is (V : Win) (L : List Nat) : Prop where
  holds : Holds V (L.map fun b => ⟨0, b, 1⟩)
  n : V.n = 2
  width : V.width = 10
  now : 0 ≤ V.now ∧ V.now ≤ 5
theorem Is.bkt {V : Win} {L : List Nat} (h : Is V L) : V.bkt 5 = 0 := by
  unfold Win.bkt Win.time
  rw [h.width]
  have : Sat.mx V.now 5 = 5 := by have := h.now; unfold Sat.mx; split <;> omega
  rw [this]
  decide
theorem Is.add {V : Win} {L : List Nat} (h : Is V L) (b : Nat) : Is (V.add 5 b 1) (L ++ [b]) := by
  have := h.holds.add (t := 5) (by omega) (by omega) b (v := 1) (by omega)
  rw [h.bkt] at this
  refine ⟨by rw [List.map_append]; exact this, h.n, h.width, ?_⟩
  show 0 ≤ Sat.mx V.now 5 ∧ Sat.mx V.now 5 ≤ 5
  have := h.now
  unfold Sat.mx; split <;> omega
theorem Is.tick {V : Win} {L : List Nat} (h : Is V L) : Is (V.tick 5) L := by
  refine ⟨h.holds.tick (by omega) (by omega), h.n, h.width, ?_⟩
  show 0 ≤ Sat.mx V.now 5 ∧ Sat.mx V.now 5 ≤ 5
  have := h.now
  unfold Sat.mx; split <;> omega
theorem is_fresh : Is (fresh 2 10) [] := ⟨holds_fresh (by omega) (by omega) (by omega) (by omega), rfl, rfl, by show (0 : Int) ≤ 0 ∧ (0 : Int) ≤ 5; omega⟩
theorem notes_is (l : List Nat) : Is (notes l) (l.map Bits.blen) := by
  have : ∀ (l : List Nat) (V : Win) (L : List Nat), Is V L → Is (l.foldl (fun V x => V.add 5 (Bits.blen x) 1) V) (L ++ l.map Bits.blen) := by
    intro l
    induction l with
    | nil => intro V L h; simpa using h
    | cons x l ih => intro V L h; have := ih _ _ (h.add (Bits.blen x)); simpa using this
  have h := this l _ _ is_fresh
  rw [List.nil_append] at h
  exact h
theorem tot_ones (L : List Nat) (k : Nat) (p : Ev → Bool) (hp : ∀ b, p ⟨0, b, 1⟩ = decide (b = k)) : tot (L.map fun b => ⟨0, b, 1⟩) p = Hst.cnt L k := by
  unfold Hst.cnt
  induction L with
  | nil => rfl
  | cons b L ih =>
    rw [List.map_cons, tot_cons, ih, hp, List.countP_cons]
    by_cases h : b = k
    · rw [if_pos (by simpa using h), if_pos (by simpa using h)]; show (1 : Int) + _ = _; omega
    · rw [if_neg (by simpa using h), if_neg (by simpa using h)]; omega
theorem Is.told {V : Win} {L : List Nat} (h : Is V L) (hl : L.length ≤ 100) (k : Nat) : V.told 5 k = Hst.cnt L k := by
  rw [h.holds.told (by omega) (by omega) k, h.bkt, h.n, tot_ones L k _ (fun b => by simp)]
  have := List.countP_le_length (p := fun b => decide (b = k)) (l := L)
  unfold Hst.cnt
  exact cap_id (by omega)
set_option maxHeartbeats 1000000 in
theorem noted_calls (l : List Nat) (A : Option Addr) (c : Nat) (w : World) (hl : l.length ≤ 1152921504606846976) (hx : Hid (∀ x ∈ l, x < 18446744073709551616)) (hr : RowN w A l) :
    Calls Try.prog 14 #[.slice A l.length c] w fun e w' => e = .returned (.pointer (some ⟨w.heap.size, 0, none⟩)) ∧ Has w w.heap.size (notes (l.take 100)) w' := by
  rcases hr with rfl | ⟨b, o, rfl, hr⟩
  · go_enter Try.func14, Try.ntmps14
    go_wp2_with fail
    refine (new_has w 2 10 w (Below.refl _ _) (by omega) (by omega) (by omega) (by omega)).mono ?_
    rintro e w1 ⟨rfl, h1, _⟩
    have H1 := hid h1
    clear h1
    go_wp2_with fail
    refine wp_loop_rounds 1 ?_
    rw [rounds_succ]
    go_wp2_with fail
    go_ret
    exact ⟨rfl, H1.out⟩
  · have Hr := hid hr
    clear hr
    go_enter Try.func14, Try.ntmps14
    go_wp2_with fail
    refine (new_has w 2 10 w (Below.refl _ _) (by omega) (by omega) (by omega) (by omega)).mono ?_
    rintro e w1 ⟨rfl, h1, _⟩
    have H1 := hid h1
    clear h1
    go_wp2_with fail
    go_loopw [4] (fun i wr => ∃ k : Nat, k ≤ l.length ∧ k ≤ 100 ∧ i = .int .i64 k ∧ Has w w.heap.size (notes (l.take k)) wr) (fun i _ => 100 - (intOf i).toNat)
    case atStart => exact ⟨0, Nat.zero_le _, Nat.zero_le _, rfl, H1.out⟩
    case round =>
      obtain ⟨k, hk, hk2, rfl, hH⟩ := hrel
      have HH := hid hH
      clear hH
      by_cases hlt : k < l.length
      · by_cases h100 : k < 100
        · have hc0 := Hr.out k hlt
          have hc : wr.cell? ⟨b, o + k, none⟩ = some (.int .u64 (l.getD k 0 : Nat)) := by
            rw [HH.out.below.cell (World.block_lt_of_cell? w _ hc0)]; exact hc0
          have hxk : l.getD k 0 < 18446744073709551616 := by
            rw [List.getD_eq_getElem?_getD, List.getElem?_eq_getElem hlt]
            exact hx.out _ (List.getElem_mem hlt)
          have hs := hid (notes_succ l k hlt)
          have hltI : (k : Int) < l.length := by omega
          clear hc0
          generalize l.getD k 0 = x at *
          go_wp2_with fail
          refine (add_has HH.out 5 x (by omega) (by omega) hxk).mono ?_
          rintro e w2 ⟨rfl, h2, _⟩
          have H2 := hid h2
          clear h2
          go_wp2_with fail
          go_roundw
          case rel => exact ⟨k + 1, by omega, by omega, by go_num, by rw [hs.out]; exact H2.out⟩
          case measure => simp [intOf]; omega
        · obtain rfl : k = 100 := by omega
          go_wp2_with fail
          go_ret
          exact ⟨rfl, HH.out⟩
      · have hkl : k = l.length := by omega
        go_wp2_with fail
        go_ret
        refine ⟨rfl, ?_⟩
        have := HH.out
        rw [hkl, List.take_length] at this
        rw [List.take_of_length_le (by omega)]
        exact this
theorem perc_is {f : Nat → Int} {g : Nat → Int} (h : ∀ i, f i = g i) (p : Int) : Hst.percN f p = Hst.percN g p ∧ Hst.percB f p = Hst.percB g p := Hst.perc_congr (fun i _ => h i) p
set_option maxHeartbeats 1000000 in
theorem rises_core (l : List Nat) (A : Option Addr) (c : Nat) (a b p q : Int) (x y : Int) (r : Bool) (w : World) (hl : l.length ≤ 1152921504606846976) (hx : Hid (∀ x ∈ l, x < 18446744073709551616)) (hr : RowN w A l)
    (hp : Sat.mn a b = p) (hq : Sat.mx a b = q) (p0 : 0 ≤ p) (p1 : p ≤ 255) (q0 : 0 ≤ q) (q1 : q ≤ 255)
    (hN : Hid (Hst.percN ((notes (l.take 100)).told 5) p = x ∧ Hst.percB ((notes (l.take 100)).told 5) p = r)) (hM : Hid (Hst.percN (((notes (l.take 100)).tick 5).told 5) q = y ∧ Hst.percB (((notes (l.take 100)).tick 5).told 5) q = r))
    (hxy : x ≤ y) (hrl : r = true ∧ 0 < l.length ∨ r = false ∧ l.length = 0) :
    Calls Try.prog 5 #[.slice A l.length c, .int .u8 a, .int .u8 b] w fun e w' => e = .returned (.bool true) ∧ Below w.heap.size w w' := by
  have Hr := hid hr
  clear hr
  go_enter Try.func5, Try.ntmps5
  go_wp2_with fail
  refine (awake_calls _).mono ?_
  rintro e w1 ⟨rfl, hb⟩
  have Hb := hid hb
  clear hb
  go_wp2_with fail
  refine (noted_calls l A c w1 hl hx (Hr.out.below Hb.out)).mono ?_
  rintro e w2 ⟨rfl, h2⟩
  have H2 := hid (h2.rebase Hb.out)
  clear h2
  go_wp2_with fail
  refine (perc_has H2.out 5 p (by omega) (by omega) (by omega) (by omega)).mono ?_
  rintro e w3 ⟨rfl, h3, _⟩
  rw [hN.out.1, hN.out.2]
  have H3 := hid h3
  clear h3
  go_wp2_with fail
  refine (perc_has H3.out 5 q (by omega) (by omega) (by omega) (by omega)).mono ?_
  rintro e w4 ⟨rfl, h4, _⟩
  rw [hM.out.1, hM.out.2]
  have H4 := hid h4
  clear h4
  rcases hrl with ⟨rfl, hll⟩ | ⟨rfl, hll⟩
  · have hi : 0 < (l.length : Int) := by omega
    go_wp2_with fail
    go_ret
    exact ⟨ret_bool (by simp), H4.out.below⟩
  · have hi : (l.length : Int) = 0 := by omega
    go_wp2_with fail
    go_ret
    exact ⟨ret_bool (by simp), H4.out.below⟩
theorem run65le (l : List Nat) (hx : ∀ x ∈ l, x < 18446744073709551616) : Hst.run (Hst.cnt ((l.take 100).map Bits.blen)) 65 = (l.take 100).length := Hst.run65 _ (fun x h => hx x (List.mem_of_mem_take h)) (by rw [List.length_take]; omega)
theorem leavesU64 : Opn.leaves Try.prog 1 22 = some [.int .u64] := by kernel_rfl
theorem cellsU64 : Try.prog.cellsOf 22 = 1 := by kernel_rfl
theorem wf_u8' {x : Int} (h : (Lit.int .u8 x).wf = true) : 0 ≤ x ∧ x ≤ 255 := by have := Sat.wf_u8 h; omega
theorem histRises_walk {H : Type} {enc : TypeId × Value → H} (W : World) (a0 : Option Addr) (l0 c0 : Nat) (k0 : (Opn.Lf.slc 22).ok enc Try.prog W 0 (fun _ => true) true (.slice a0 l0 c0)) (y0 : l0 * 8 ≤ 140737488351232) (a1 : Int) (w1 : (Lit.int .u8 a1).wf = true) (a2 : Int) (w2 : (Lit.int .u8 a2).wf = true) :
    Calls Try.prog 5 #[.slice a0 l0 c0, .int .u8 a1, .int .u8 a2] W fun e w' => e = .returned (.bool true) ∧ Below W.heap.size W w' := by
  obtain ⟨l, rfl, hx, hr⟩ := rowN_of_slc leavesU64 cellsU64 k0
  obtain ⟨a10, a11⟩ := wf_u8' w1
  obtain ⟨a20, a21⟩ := wf_u8' w2
  have hI := notes_is (l.take 100)
  have hL : ((l.take 100).map Bits.blen).length ≤ 100 := by rw [List.length_map, List.length_take]; omega
  have h1 := perc_is (hI.told hL) (Sat.mn a1 a2)
  have h2 := perc_is (hI.tick.told hL) (Sat.mx a1 a2)
  have hle : Sat.mn a1 a2 ≤ Sat.mx a1 a2 := by unfold Sat.mn Sat.mx; (repeat' split) <;> omega
  have hm := Hst.perc_mono (Hst.cnt_nonneg ((l.take 100).map Bits.blen)) hle
  have b1 := Sat.mn_or a1 a2
  have b2 := Sat.mx_or a1 a2
  refine rises_core l a0 c0 a1 a2 _ _ (Hst.percN (Hst.cnt ((l.take 100).map Bits.blen)) (Sat.mn a1 a2)) (Hst.percN (Hst.cnt ((l.take 100).map Bits.blen)) (Sat.mx a1 a2)) (Hst.percB (Hst.cnt ((l.take 100).map Bits.blen)) (Sat.mn a1 a2)) W (by omega) (hid hx) hr rfl rfl (by omega) (by omega) (by omega) (by omega) (hid h1) (hid ⟨h2.1, h2.2.trans hm.2.symm⟩) hm.1 ?_
  have h65 := run65le l hx
  rw [List.length_take] at h65
  by_cases h0 : l.length = 0
  · right
    exact ⟨(Hst.perc_zero (by rw [h65]; omega)).2, h0⟩
  · left
    obtain ⟨k, _, _, hk, _⟩ := Hst.perc_any (Hst.cnt_nonneg ((l.take 100).map Bits.blen)) (Sat.mn a1 a2) (by rw [h65]; omega)
    exact ⟨hk, by omega⟩
/-- The greatest of some numbers. -/
def mostN (l : List Nat) : Int := l.foldl (fun m (x : Nat) => Sat.mx m x) 0
theorem mostN_succ (l : List Nat) (k : Nat) (h : k < l.length) : mostN (l.take (k + 1)) = Sat.mx (mostN (l.take k)) ((l.getD k 0 : Nat) : Int) := by
  unfold mostN
  rw [List.take_succ_eq_append_getElem h, List.foldl_append, List.getD_eq_getElem?_getD, List.getElem?_eq_getElem h]
  rfl
theorem most_fold (l : List Nat) : ∀ m : Int, m ≤ l.foldl (fun m (x : Nat) => Sat.mx m x) m ∧ (∀ x ∈ l, (x : Int) ≤ l.foldl (fun m (x : Nat) => Sat.mx m x) m) ∧ ∀ b : Int, m ≤ b → (∀ x ∈ l, (x : Int) ≤ b) → l.foldl (fun m (x : Nat) => Sat.mx m x) m ≤ b := by
  induction l with
  | nil => intro m; exact ⟨Int.le_refl _, fun x h => absurd h List.not_mem_nil, fun b h _ => h⟩
  | cons x l ih =>
    intro m
    obtain ⟨h1, h2, h3⟩ := ih (Sat.mx m x)
    have hg := Sat.mx_ge m x
    refine ⟨Int.le_trans hg.1 h1, fun y hy => ?_, fun b hb hy => ?_⟩
    · rcases List.mem_cons.1 hy with rfl | hy
      · exact Int.le_trans hg.2 h1
      · exact h2 y hy
    · refine h3 b ?_ fun y hy2 => hy y (List.mem_cons_of_mem _ hy2)
      have := Sat.mx_or m x
      have := hy x List.mem_cons_self
      omega
def leN (l : List Nat) (t : Int) : Int := ((l.countP (fun x : Nat => decide ((x : Int) ≤ t)) : Nat) : Int)
theorem leN_succ (l : List Nat) (t : Int) (k : Nat) (h : k < l.length) : leN (l.take (k + 1)) t = leN (l.take k) t + (if ((l.getD k 0 : Nat) : Int) ≤ t then 1 else 0) := by
  unfold leN
  rw [List.take_succ_eq_append_getElem h, List.countP_append, List.countP_cons, List.countP_nil, List.getD_eq_getElem?_getD, List.getElem?_eq_getElem h]
  simp only [Option.getD_some, decide_eq_true_eq]
  split <;> omega
theorem leN_le (l : List Nat) (t : Int) : 0 ≤ leN l t ∧ leN l t ≤ l.length := by
  have := List.countP_le_length (p := fun x : Nat => decide ((x : Int) ≤ t)) (l := l)
  unfold leN
  omega
set_option maxHeartbeats 1000000 in
theorem allh_core (l : List Nat) (A : Option Addr) (c : Nat) (b m : Int) (T at' M C : Int) (T2 : Bool) (w : World) (hl : l.length ≤ 1152921504606846976) (hx : Hid (∀ x ∈ l, x < 18446744073709551616)) (hr : RowN w A l)
    (b0 : 0 ≤ b) (b1 : b ≤ 255) (hm : b % 100 = m) (m0 : 0 ≤ m) (m1 : m ≤ 99)
    (hN : Hid (0 < l.length → l.length ≤ 100 → Hst.percN ((notes l).told 5) 100 = T ∧ Hst.percB ((notes l).told 5) 100 = T2)) (hM : Hid (0 < l.length → l.length ≤ 100 → Hst.percN (((notes l).tick 5).told 5) (1 + m) = at' ∧ Hst.percB (((notes l).tick 5).told 5) (1 + m) = true))
    (hM1 : Hid (mostN l = M)) (hC : Hid (leN l at' = C)) (T0 : 0 ≤ T) (T1 : T ≤ 18446744073709551615)
    (e1 : Hid (0 < l.length → l.length ≤ 100 → M ≤ T)) (e2 : Hid (0 < l.length → l.length ≤ 100 → T = 0 ∨ T / 2 < M)) (e3 : Hid (0 < l.length → l.length ≤ 100 → (1 + m) * l.length ≤ 100 * C ∧ 0 ≤ (1 + m) * l.length ∧ (1 + m) * l.length ≤ 10000 ∧ 0 ≤ C ∧ C ≤ 100)) :
    Calls Try.prog 6 #[.slice A l.length c, .int .u8 b] w fun e w' => e = .returned (.bool true) ∧ Below w.heap.size w w' := by
  have Hr := hid hr
  clear hr
  by_cases h0 : l.length = 0
  · have h0i : (l.length : Int) = 0 := by omega
    go_enter Try.func6, Try.ntmps6
    go_wp2_with fail
    refine (awake_calls _).mono ?_
    rintro e w1 ⟨rfl, hb⟩
    have Hb := hid hb
    clear hb
    go_wp2_with fail
    go_ret
    exact ⟨rfl, Hb.out⟩
  by_cases h100 : 100 < l.length
  · have h0i : ((l.length : Int) == 0) = false := by rw [beq_eq_false_iff_ne]; omega
    have h1i : 100 < (l.length : Int) := by omega
    clear h0
    go_enter Try.func6, Try.ntmps6
    go_wp2_with fail
    refine (awake_calls _).mono ?_
    rintro e w1 ⟨rfl, hb⟩
    have Hb := hid hb
    clear hb
    go_wp2_with fail
    go_ret
    exact ⟨rfl, Hb.out⟩
  have h0i : ((l.length : Int) == 0) = false := by rw [beq_eq_false_iff_ne]; omega
  have h1i : (l.length : Int) ≤ 100 := by omega
  have n1 := hN.out (by omega) (by omega)
  have n2 := hM.out (by omega) (by omega)
  have f1 := e1.out (by omega) (by omega)
  have f2 := hid (e2.out (by omega) (by omega))
  obtain ⟨f3, f4, f5, f6, f7⟩ := e3.out (by omega) (by omega)
  have N1 := hid n1
  have N2 := hid n2
  have hp : Hid (0 < l.length) := by show 0 < _; omega
  have hT := hid (show l.take 100 = l from List.take_of_length_le (by omega))
  clear h0 h100 n1 n2 e1 e2 e3 hN hM
  go_enter Try.func6, Try.ntmps6
  go_wp2_with fail
  refine (awake_calls _).mono ?_
  rintro e w1 ⟨rfl, hb⟩
  have Hb := hid hb
  clear hb
  go_wp2_with fail
  refine (noted_calls l A c w1 hl hx (Hr.out.below Hb.out)).mono ?_
  rintro e w2 ⟨rfl, h2⟩
  rw [hT.out] at h2
  have H2 := hid (h2.rebase Hb.out)
  clear h2
  go_wp2_with fail
  refine (perc_has H2.out 5 100 (by omega) (by omega) (by omega) (by omega)).mono ?_
  rintro e w3 ⟨rfl, h3, _⟩
  rw [N1.out.1, N1.out.2]
  have H3 := hid h3
  clear h3
  go_wp2_with fail
  refine (perc_has H3.out 5 (1 + m) (by omega) (by omega) (by omega) (by omega)).mono ?_
  rintro e w4 ⟨rfl, h4, _⟩
  rw [N2.out.1, N2.out.2]
  have H4 := hid h4
  clear h4
  have HR4 := hid (Hr.out.below H4.out.below)
  go_wp2_with fail
  go_loop [12, 13, 14] (fun mo ma i => ∃ k : Nat, k ≤ l.length ∧ i = .int .i64 k ∧ mo = .int .u64 (mostN (l.take k)) ∧ ma = .int .i64 (leN (l.take k) at')) (fun _ _ i => l.length - (intOf i).toNat)
  case atStart => exact ⟨0, Nat.zero_le _, rfl, rfl, rfl⟩
  case round =>
    obtain ⟨k, hk, rfl, rfl, rfl⟩ := hrel
    by_cases hlt : k < l.length
    · have hrow : ∃ b o, A = some ⟨b, o, none⟩ ∧ w4.cell? ⟨b, o + k, none⟩ = some (.int .u64 (l.getD k 0 : Nat)) := by
        rcases HR4.out with rfl | ⟨b, o, rfl, h⟩
        · exact absurd hlt (Nat.not_lt_zero _)
        · exact ⟨b, o, rfl, h k hlt⟩
      obtain ⟨bb, oo, rfl, hc⟩ := hrow
      have hs1 := hid (mostN_succ l k hlt)
      have hs2 := hid (leN_succ l at' k hlt)
      have hltI : (k : Int) < l.length := by omega
      have hle := leN_le (l.take k) at'
      rw [List.length_take] at hle
      have q0 := hle.1
      have q1 : leN (l.take k) at' ≤ 100 := by omega
      clear hle
      generalize l.getD k 0 = x at *
      by_cases hxa : (x : Int) ≤ at'
      · rw [if_pos hxa] at hs2
        go_wp2_with fail
        go_round
        case rel => exact ⟨k + 1, by omega, by go_num, by rw [hs1.out], by rw [hs2.out]⟩
        case measure => simp [intOf]; omega
      · rw [if_neg hxa, Int.add_zero] at hs2
        go_wp2_with fail
        go_round
        case rel => exact ⟨k + 1, by omega, by go_num, by rw [hs1.out], by rw [hs2.out]⟩
        case measure => simp [intOf]; omega
    · obtain rfl : k = l.length := by omega
      rw [List.take_length, hM1.out, hC.out]
      by_cases hz : T = 0
      · subst hz
        go_wp2_with fail
        go_ret
        exact ⟨ret_bool (by simp), H4.out.below⟩
      · rcases f2.out with h | h
        · exact absurd h hz
        · have hz2 : (T == 0) = false := by rw [beq_eq_false_iff_ne]; exact hz
          clear hz
          go_wp2_with fail
          go_ret
          exact ⟨ret_bool (by simp), H4.out.below⟩
theorem histAll_walk {H : Type} {enc : TypeId × Value → H} (W : World) (a0 : Option Addr) (l0 c0 : Nat) (k0 : (Opn.Lf.slc 22).ok enc Try.prog W 0 (fun _ => true) true (.slice a0 l0 c0)) (y0 : l0 * 8 ≤ 140737488351232) (a1 : Int) (w1 : (Lit.int .u8 a1).wf = true) :
    Calls Try.prog 6 #[.slice a0 l0 c0, .int .u8 a1] W fun e w' => e = .returned (.bool true) ∧ Below W.heap.size W w' := by
  obtain ⟨l, rfl, hx, hr⟩ := rowN_of_slc leavesU64 cellsU64 k0
  obtain ⟨a10, a11⟩ := wf_u8' w1
  have hI := notes_is l
  have hall := fun (h0 : 0 < l.length) (h1 : l.length ≤ 100) => Hst.all_plain l hx (List.length_pos_iff.1 h0) h1 (1 + a1 % 100) (by omega) (by omega)
  have hT : ∀ p, 0 ≤ Hst.percN (Hst.cnt (l.map Bits.blen)) p ∧ Hst.percN (Hst.cnt (l.map Bits.blen)) p ≤ 18446744073709551615 := by
    intro p
    by_cases h0 : Hst.run (Hst.cnt (l.map Bits.blen)) 65 = 0
    · rw [(Hst.perc_zero h0).1]; omega
    · obtain ⟨k, hk, h, _⟩ := Hst.perc_any (Hst.cnt_nonneg (l.map Bits.blen)) p h0
      rw [h]; exact Hst.top_in (by omega)
  have hb := most_fold l 0
  refine allh_core l a0 c0 a1 _ (Hst.percN (Hst.cnt (l.map Bits.blen)) 100) (Hst.percN (Hst.cnt (l.map Bits.blen)) (1 + a1 % 100)) _ _ (Hst.percB (Hst.cnt (l.map Bits.blen)) 100) W (by omega) (hid hx) hr a10 a11 rfl (by omega) (by omega) (hid fun h0 h1 => ?_) (hid fun h0 h1 => ?_) (hid rfl) (hid rfl) (hT 100).1 (hT 100).2 (hid fun h0 h1 => ?_) (hid fun h0 h1 => ?_) (hid fun h0 h1 => ?_)
  · exact perc_is (hI.told (by rw [List.length_map]; exact h1)) 100
  · have := perc_is (hI.tick.told (by rw [List.length_map]; exact h1)) (1 + a1 % 100)
    exact ⟨this.1, this.2.trans (hall h0 h1).1⟩
  · exact hb.2.2 _ (hT 100).1 (hall h0 h1).2.1
  · rcases (hall h0 h1).2.2.1 with h | ⟨x, hxm, h⟩
    · exact .inl h
    · exact .inr (Int.lt_of_lt_of_le h (hb.2.1 x hxm))
  · have h3 := (hall h0 h1).2.2.2
    have h4 := leN_le l (Hst.percN (Hst.cnt (l.map Bits.blen)) (1 + a1 % 100))
    have hn : 0 ≤ (1 + a1 % 100) * (l.length : Int) := Int.mul_nonneg (by omega) (by omega)
    have hm2 : (1 + a1 % 100) * (l.length : Int) ≤ 100 * 100 := Int.mul_le_mul (by omega) (by omega) (by omega) (by omega)
    exact ⟨h3, hn, by omega, h4.1, by omega⟩
end Go.Proofs.Ytmemafhdondfhaa.C06
