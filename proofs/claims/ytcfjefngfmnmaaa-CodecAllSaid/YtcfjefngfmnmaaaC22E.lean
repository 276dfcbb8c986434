/- What Take of the package codec returns. -/
import Derived.Test.YtcfjefngfmnmaaaC22B
import Derived.Laws.StructEq
namespace Go.Proofs.Ytcfjefngfmnmaaa.C22
open Go.RowKit Go.Proofs.Ytcfjefngfmnmaaa Go.Proofs.Ytcfjefngfmnmaaa.Cod
set_option linter.unusedVariables false
set_option linter.unusedSimpArgs false
set_option linter.unnecessarySimpa false
theorem byte_at (s : ByteArray) (i : Nat) (h : i < s.size) : ∃ b : UInt8, s[i]? = some b ∧ (b.toNat : Int) = at' (nums s) i := by
  refine ⟨s[i], ByteArray.getElem?_lt' s i h, ?_⟩
  unfold at' nums
  have h2 : i < s.data.toList.length := by rw [Array.length_toList]; exact h
  rw [List.getD_eq_getElem?_getD, List.getElem?_map, List.getElem?_eq_getElem h2]
  rfl
theorem byte_is (s : ByteArray) (i : Nat) (h : i < s.size) : ((s[i]'h).toNat : Int) = at' (nums s) i := by
  obtain ⟨b, h1, h2⟩ := byte_at s i h
  rw [ByteArray.getElem?_lt' s i h] at h1
  injection h1 with h1
  rw [h1]
  exact h2
theorem nums_extract (s : ByteArray) (a b : Nat) : nums (s.extract a b) = ((nums s).drop a).take (b - a) := by
  have h := ByteArray.extract_mk s.data.toList a b
  have e : s.extract a b = ByteArray.mk ((s.data.toList.drop a).take (b - a)).toArray := by
    rw [← h]
  rw [e]
  unfold nums
  rw [List.toList_toArray, List.map_take, List.map_drop]
theorem str_nums (s : ByteArray) : strOfNums (nums s) = s := by
  unfold strOfNums nums
  rw [List.map_map]
  have : (s.data.toList.map ((fun n : Int => UInt8.ofNat n.toNat) ∘ fun b : UInt8 => (b.toNat : Int))) = s.data.toList := by
    rw [show ((fun n : Int => UInt8.ofNat n.toNat) ∘ fun b : UInt8 => (b.toNat : Int)) = id from by funext b; simp, List.map_id]
  rw [this]
theorem nums_str {l : List Int} (h : Cod.Ok l) : nums (strOfNums l) = l := by
  unfold strOfNums nums
  rw [List.toList_toArray, List.map_map]
  conv => rhs; rw [← List.map_id l]
  apply List.map_congr_left
  intro x hx
  have := h x hx
  show ((UInt8.ofNat x.toNat).toNat : Int) = x
  rw [UInt8.toNat_ofNat']
  omega
theorem val_calls (s : ByteArray) (at0 : Nat) (h : at0 + 4 ≤ s.size) (w : World) :
    Calls Try.prog 22 #[.string (s.extract at0 (at0 + 4))] w fun x w' => x = .returned (.int .i64 (Cod.val (((nums s).drop at0).take 4))) ∧ Below w.heap.size w w' := by
  have h1 := nums_extract s at0 (at0 + 4)
  rw [show at0 + 4 - at0 = 4 from by omega] at h1
  rw [← h1]
  have hs : (nums (s.extract at0 (at0 + 4))).length = 4 := by rw [h1, List.length_take, List.length_drop, nums_len]; omega
  rw [nums_len] at hs
  generalize s.extract at0 (at0 + 4) = t at *
  obtain ⟨⟨l⟩⟩ := t
  have hl : l.length = 4 := hs
  match l, hl with
  | [b0, b1, b2, b3], _ => exact val_calls4 b0 b1 b2 b3 w
def zeroF : Array Value := evF zero none 0
theorem take_short (s : ByteArray) (w : World) (h : s.size < 17) :
    Calls Try.prog 11 #[.string s] w fun x w' => x = .returned (.tuple #[.agg zeroF, .string ⟨#[]⟩, .int .i64 2]) ∧ Below w.heap.size w w' := by
  have hi : (s.size : Int) < 17 := by omega
  go_enter Try.func11, Try.ntmps11
  go_wp2_with fail
  refine bodyPost_ret (v := .tuple #[.agg zeroF, .string ⟨#[]⟩, .int .i64 2]) (by simp [results, Try.results11, go_sem, zeroF, zero]) rfl ⟨rfl, grow _ _⟩
theorem take_many (s : ByteArray) (m : Nat) (w : World) (h : 17 ≤ s.size) (hm : at' (nums s) 16 = m) (hb : 8 < m ∨ s.size < 17 + 4 * m) :
    Calls Try.prog 11 #[.string s] w fun x w' => x = .returned (.tuple #[.agg zeroF, .string ⟨#[]⟩, .int .i64 2]) ∧ Below w.heap.size w w' := by
  have hi : 17 ≤ (s.size : Int) := by omega
  have hb2 := byte_is s 16 (by omega)
  rw [hm] at hb2
  have hm2 : (m : Int) ≤ 255 := by have := at_in (nums_ok s) 16; omega
  by_cases h8 : 8 < m
  · have h8i : 8 < (m : Int) := by omega
    go_enter Try.func11, Try.ntmps11
    go_wp2_with fail
    refine bodyPost_ret (v := .tuple #[.agg zeroF, .string ⟨#[]⟩, .int .i64 2]) (by simp [results, Try.results11, go_sem, zeroF, zero]) rfl ⟨rfl, grow _ _⟩
  · have h8i : (m : Int) ≤ 8 := by omega
    have h9i : (s.size : Int) < 17 + 4 * (m : Int) := by omega
    go_enter Try.func11, Try.ntmps11
    go_wp2_with fail
    refine bodyPost_ret (v := .tuple #[.agg zeroF, .string ⟨#[]⟩, .int .i64 2]) (by simp [results, Try.results11, go_sem, zeroF, zero]) rfl ⟨rfl, grow _ _⟩
theorem wp_conv {P : Program} {d : Option Tmp} {ty : TypeId} {pos : String} {aft : Array Edge} {g : Option (Nat × Bool)} {a : Act} {w w' : World} {K : Act → World → Prop} {Q : Exit → Act → World → Prop} {src dst : TypeId} {x : Operand} {op : Op} {v u : Value} (ho : op = .convert src dst x) (hx : a.eval x = v) (hv : (convert src dst v).run P w = .ok u w') (h : K (a.put d u) w') : Oper.wp P ⟨d, op, ty, pos, aft, g⟩ a w K Q := by
  subst ho hx
  unfold Oper.wp execOp
  simp only [Sem.run_bind, Sem.run_pure, hv, Result.andThen_ok]
  exact h
theorem below_frozen (w : World) (C : Array Value) (t : TypeId) (fr : Nat × Nat) : Below w.heap.size w (w.drew.alloc (.cells C t fr)) := (quiet w).alloc (Nat.le_refl _) _
theorem conv_bytes (t : ByteArray) (w : World) (B : Nat) (hB : w.heap.size = B) : ∃ w' cap, (convert 9 49 (.string t)).run Try.prog w = .ok (.slice (some ⟨B, 0, none⟩) t.size cap) w' ∧ Below w.heap.size w w' ∧ t.size ≤ cap ∧ (t.size ≤ maxLen → cap ≤ maxLen) ∧ C02.BytesAt w' (some ⟨B, 0, none⟩) (nums t) ∧ w.heap.size < w'.heap.size := by
  subst hB
  refine ⟨_, _, run_bytes_of_string w 9 49 5 t Try.underlying9 Try.underlying49 Try.underlying5, below_frozen _ _ _ _, grownCap_ge _ _ _ _, fun h => grownCap_le_maxLen _ _ _ _ h, ?_, by simp⟩
  refine .inr ⟨w.heap.size, 0, rfl, fun i hi => ?_⟩
  rw [nums_len] at hi
  have h1 := World.cell?_alloc_mark w.drew (bytesRow t (grownCap w t.size 0 5)) 5 ((bytesRow t (grownCap w t.size 0 5)).size, (bytesRow t (grownCap w t.size 0 5)).size + 1) i
  rw [bytesRow_at t _ i hi] at h1
  rw [Nat.zero_add]
  have h2 := byte_is t i hi
  have h3 : (nums t).getD i 0 = ((t.data[i]'hi).toNat : Int) := h2.symm
  rw [h3]
  exact h1
theorem bytesAt_below {w w' : World} {A : Option Addr} {l : List Int} (h : C02.BytesAt w A l) (hb : Below w.heap.size w w') : C02.BytesAt w' A l := by
  rcases h with rfl | ⟨b, o, rfl, h⟩
  · exact .inl rfl
  · exact .inr ⟨b, o, rfl, fun i hi => cell_of hb (h i hi)⟩
theorem there_below {w w' : World} {b o n : Nat} (h : w.there b o n) (hb : Below w.heap.size w w') : w'.there b o n := fun j hj => by
  obtain ⟨h1, h2⟩ := h j hj
  obtain ⟨v, hv⟩ := Option.isSome_iff_exists.1 h1
  have hlt := World.block_lt_of_cell? w _ hv
  exact ⟨by rw [cell_of hb hv]; rfl, by rw [World.frozen?_of_block (w := w) (hb.block b hlt)]; exact h2⟩
theorem there_new (w : World) (C : Array Value) (t : TypeId) (n : Nat) (hn : n ≤ C.size) : (w.alloc (.cells C t (0, 0))).there w.heap.size 0 n := fun j hj => by
  have hh : (w.alloc (.cells C t (0, 0))).heap[w.heap.size]? = some (.cells C t (0, 0)) := heap_alloc_new _ _
  rw [Nat.zero_add]
  refine ⟨?_, frozen_of_row _ _ _ _ _ hh⟩
  rw [cell_of_row _ _ _ _ _ _ hh, Array.getElem?_eq_getElem (by omega)]
  rfl
theorem there_sets {w : World} {b n : Nat} (vs : List Value) (hv : vs.length ≤ n) (h : w.there b 0 n) : (w.setCells b 0 vs).there b 0 n := fun j hj => by
  refine ⟨?_, by rw [World.frozen?_setCells]; exact (h j hj).2⟩
  by_cases hlt : j < vs.length
  · have := World.cell?_setCells_in b vs 0 w (fun i hi => (h i (by omega)).1) j hlt
    rw [this]; rfl
  · rw [World.cell?_setCells_out _ _ _ _ _ (fun _ _ => .inr (by show 0 + vs.length ≤ 0 + j; omega))]
    exact (h j hj).1
theorem there_lt {w : World} {b n : Nat} (h : w.there b 0 (n + 1)) : b < w.heap.size := by
  obtain ⟨v, hv⟩ := Option.isSome_iff_exists.1 (h 0 (by omega)).1
  exact World.block_lt_of_cell? w _ hv
theorem from8 {t : ByteArray} {B cap : Nat} {w : World} (h8 : t.size = 8) (hc : 8 ≤ cap) (hm : 8 ≤ maxLen → cap ≤ maxLen) (hb : C02.BytesAt w (some ⟨B, 0, none⟩) (nums t)) :
    Calls Try.prog 21 #[.slice (some ⟨B, 0, none⟩) 8 cap] w fun x w' => x = .returned (.int .u64 (Bits.num (nums t))) ∧ w = w' := by
  have hl : (nums t).length = 8 := by rw [nums_len, h8]
  have := C02.from_calls (nums t) (some ⟨B, 0, none⟩) cap w (by omega) (by have := hm (by decide); unfold maxLen at this; omega) (nums_ok t) hb (fun h => by cases h)
  rw [hl] at this
  have e : Bits.last8 (nums t) = nums t := by unfold Bits.last8; rw [hl]; rfl
  rw [e] at this
  exact this
/-- The event whose fields are told, without values. -/
def parse0 (x0 x1 x2 x3 x4 x5 x6 : Int) (nn : Nat) (x15 : Int) : Ev := ⟨x0, x1 * 256 + x2, x3, x4, x5, x6, nn, x15 == 1, []⟩
theorem evF_one (e : Ev) (A : Option Addr) (c : Nat) : (evF e A c).all (·.oneCell') = true :=
  Array.all_eq_true_iff_forall_mem.2 (by
    intro v hv
    simp at hv
    rcases hv with rfl | rfl | rfl | rfl | rfl | rfl | rfl | rfl | rfl <;> rfl)
theorem wraps_i64 (n : Int) (h0 : 0 ≤ n) (h1 : n < 2 ^ 63) : IntKind.i64.wrap n = n := by simp [IntKind.wrap, IntKind.bits, IntKind.signed]; omega
theorem or_i64 (s c : Int) (h0 : 0 ≤ s) (h1 : s ≤ 255) (c0 : 0 ≤ c) (c1 : c ≤ 255) : bits .or .i64 (s * 256) c = s * 256 + c :=
  bits_join .i64 63 (by decide) wraps_i64 8 (s * 256) c (by omega) (by omega) (by omega) c0 (by omega) (by omega)
theorem infoI : ∃ i, Try.prog.info? 3 = some i ∧ i.zero = some (.int .i64 0) ∧ i.size = 1 ∧ i.bytes = 8 := by
  have h : (Try.prog.info? 3).map (fun i => (i.zero, i.size, i.bytes)) = some (some (.int .i64 0), 1, 8) := by kernel_rfl
  cases hq : Try.prog.info? 3 with
  | none => rw [hq] at h; exact absurd h (by simp)
  | some i => rw [hq] at h; simp at h; exact ⟨i, rfl, h.1, h.2.1, h.2.2⟩
theorem owns_slice {w : World} {base s n : Nat} {T : TypeId} {v : Value} {xs : List Value} (h : w.ownsRow base T s v n xs) : ∃ A c, v = .slice A n c := by
  rcases h.2 with ⟨rfl, rfl⟩ | ⟨g, cap, cur, rfl, _⟩
  · exact ⟨none, 0, rfl⟩
  · exact ⟨_, _, rfl⟩
def ints (l : List Int) : List Value := l.map fun x => .int .i64 x
theorem ints_append (l : List Int) (x : Int) : ints (l ++ [x]) = ints l ++ [.int .i64 x] := by unfold ints; rw [List.map_append]; rfl
theorem owns_int {w : World} {base n : Nat} {T : TypeId} {v : Value} {L : List Int} (h : w.ownsRow base T 1 v n (ints L)) (hn : L.length = n) : ∃ A c, v = .slice A L.length c ∧ RowI w A L := by
  have hc := h
  rcases h.2 with ⟨rfl, h0⟩ | ⟨g, cap, cur, rfl, _⟩
  · have : L = [] := List.eq_nil_of_length_eq_zero (by omega)
    subst this
    exact ⟨none, 0, rfl, .inl rfl⟩
  · refine ⟨some ⟨g, 0, none⟩, cap, by rw [hn], .inr ⟨g, 0, rfl, fun i hi => ?_⟩⟩
    have h1 := hc.cells rfl i (.int .i64 (L.getD i 0)) (by unfold ints; rw [List.getElem?_map, List.getElem?_eq_getElem hi, List.getD_eq_getElem?_getD, List.getElem?_eq_getElem hi]; rfl)
    rw [Addr.add_mid] at h1
    exact h1
theorem there_grown {w w' : World} {b o n : Nat} {row : Option Nat} (hg : w.grownBy w' row) (hne : some b ≠ row) (h : w.there b o n) : w'.there b o n := fun j hj => by
  obtain ⟨h1, h2⟩ := h j hj
  obtain ⟨v, hv⟩ := Option.isSome_iff_exists.1 h1
  have hlt := World.block_lt_of_cell? w _ hv
  exact ⟨by rw [World.cell?_of_block (w := w) (hg.block b hlt hne), hv]; rfl, by rw [World.frozen?_of_block (w := w) (hg.block b hlt hne)]; exact h2⟩
theorem tfacts_below {w w' : World} {B7 k : Nat} {T : TypeId} {v : Value} {xs cs : List Value} (h : w.rangeAt B7 0 cs ∧ w.there B7 0 9 ∧ w.ownsRow (B7 + 1) T 1 v k xs ∧ B7 < w.heap.size) (hb : Below w.heap.size w w') : w'.rangeAt B7 0 cs ∧ w'.there B7 0 9 ∧ w'.ownsRow (B7 + 1) T 1 v k xs ∧ B7 < w'.heap.size :=
  ⟨range_below hb h.1, there_below h.2.1 hb, owns_below h.2.2.1 hb, Nat.lt_of_lt_of_le h.2.2.2 hb.size⟩
theorem range_set8 {w : World} {B : Nat} {a0 a1 a2 a3 a4 a5 a6 a7 v : Value} (v' : Value) (h : w.rangeAt B 0 [a0, a1, a2, a3, a4, a5, a6, a7, v]) : (w.setCell ⟨B, 8, none⟩ v').rangeAt B 0 [a0, a1, a2, a3, a4, a5, a6, a7, v'] := by
  intro j u hj
  have hl := (List.getElem?_eq_some_iff.1 hj).1
  rw [Nat.zero_add]
  by_cases h8 : j = 8
  · subst h8
    have hv := h 8 v rfl
    rw [Nat.zero_add] at hv
    rw [World.cell?_setCell_same _ _ _ hv]
    exact hj
  · rw [World.cell?_setCell_other _ _ _ _ (fun e => h8 (by injection e with _ e _; exact e.symm))]
    have hl9 : j < 9 := hl
    have := h j u (by
      have h7 : j = 0 ∨ j = 1 ∨ j = 2 ∨ j = 3 ∨ j = 4 ∨ j = 5 ∨ j = 6 ∨ j = 7 := by omega
      rcases h7 with rfl | rfl | rfl | rfl | rfl | rfl | rfl | rfl <;> exact hj)
    rwa [Nat.zero_add] at this
theorem there_set {w : World} {B i n : Nat} {v : Value} (h : w.there B 0 n) : (w.setCell ⟨B, i, none⟩ v).there B 0 n := fun j hj => by
  obtain ⟨h1, h2⟩ := h j hj
  obtain ⟨u, hu⟩ := Option.isSome_iff_exists.1 h1
  refine ⟨?_, by rw [World.frozen?_setCell]; exact h2⟩
  by_cases hij : 0 + j = i
  · subst hij
    rw [World.cell?_setCell_same _ _ _ hu]; rfl
  · rw [World.cell?_setCell_other _ _ _ _ (fun e => hij (by injection e with _ e _; exact e.symm)), hu]; rfl
theorem owns_set {w : World} {base B i n : Nat} {T : TypeId} {v u : Value} {xs : List Value} (h : w.ownsRow base T 1 u n xs) (hB : B < base) : (w.setCell ⟨B, i, none⟩ v).ownsRow base T 1 u n xs := by
  refine h.kept (row := some B) ⟨rfl, rfl, rfl, by simp [World.setCell], fun k hk hne => Below.heap_setCell _ _ _ _ (fun e => hne (by rw [e]))⟩ ?_
  rcases hq : u.ownBlock with _ | g
  · exact .inl rfl
  · right
    intro e
    injection e with e
    have := (h.lt g hq).1
    omega
theorem heap_sets (C : Nat) (K : Nat) (hK : K ≠ C) : ∀ (vs : List Value) (o : Nat) (w : World), (w.setCells C o vs).heap[K]? = w.heap[K]? := by
  intro vs
  induction vs with
  | nil => intro o w; rfl
  | cons v vs ih => intro o w; exact (ih (o + 1) _).trans (Below.heap_setCell _ _ _ _ hK)
theorem range_sets {w : World} {B C : Nat} {cs : List Value} (hne : B ≠ C) (vs : List Value) (o : Nat) (h : w.rangeAt B 0 cs) : (w.setCells C o vs).rangeAt B 0 cs := fun j v hj => by
  rw [World.cell?_of_block (w := w) (heap_sets C B hne vs o w)]
  exact h j v hj
theorem row_sets {w : World} {C : Nat} {A : Option Addr} {l : List Int} (h : RowI w A l) (hne : ∀ b o, A = some ⟨b, o, none⟩ → b ≠ C) (vs : List Value) (o : Nat) : RowI (w.setCells C o vs) A l := by
  rcases h with rfl | ⟨b, p, rfl, h⟩
  · exact .inl rfl
  · refine .inr ⟨b, p, rfl, fun i hi => ?_⟩
    rw [World.cell?_of_block (w := w) (heap_sets C b (hne b p rfl) vs o w)]
    exact h i hi
theorem val_in (l : List Int) : -9223372036854775808 ≤ Cod.val l ∧ Cod.val l ≤ 9223372036854775807 := by unfold Cod.val; omega
theorem vals_in (s : List Int) (o : Nat) : ∀ m, ∀ v ∈ vals s o m, -9223372036854775808 ≤ v ∧ v ≤ 9223372036854775807 := by
  intro m
  induction m with
  | zero => intro v hv; exact absurd hv List.not_mem_nil
  | succ m ih =>
    intro v hv
    rcases List.mem_append.1 hv with hv | hv
    · exact ih v hv
    · rw [List.mem_singleton] at hv
      subst hv
      exact val_in _
def TakePost (s : ByteArray) (m : Nat) (e : Ev) (bq : Bool) (w : World) (x : Ending) (w' : World) : Prop :=
  (bq = true → x = .returned (.tuple #[.agg zeroF, .string ⟨#[]⟩, .int .i64 2])) ∧ (bq = false → ∃ A c, x = .returned (.tuple #[.agg (evF e A c), .string (s.extract (17 + 4 * m) s.size), .int .i64 0]) ∧ RowI w' A e.vals ∧ ∀ b o, A = some ⟨b, o, none⟩ → w.heap.size ≤ b) ∧ Below w.heap.size w w'
theorem res_take (T : Array Value) (w : World) (B : Nat) (F : Array Value) (S : ByteArray) (c : Int) (h2 : T.getD 2 undef = .pointer (some ⟨B, 0, none⟩)) (h3 : T.getD 3 undef = .string S) (h4 : T.getD 4 undef = .int .i64 c) (hR : w.rangeAt B 0 F.toList) (hF : F.size = 9) :
    (results Try.f11 T).run Try.prog w = .ok (.tuple #[.agg F, .string S, .int .i64 c]) w := by
  have hi9 : (Try.prog.info? 25).map (·.size) = some F.toList.length := by rw [Array.length_toList, hF]; kernel_rfl
  have hl := run_loadVar_mid w B 0 25 F.toList _ hR Try.underlying25 rfl hi9
  unfold results
  rw [Try.results11]
  rw [Array.getD_eq_getD_getElem?] at h2 h3 h4
  simp [Sem.run_bind, h2, h3, h4, asAddr, hl]
set_option maxRecDepth 20000 in
set_option maxHeartbeats 8000000 in
theorem take_main (s : ByteArray) (m : Nat) (w : World) (h : 17 ≤ s.size) (hm : at' (nums s) 16 = m) (h8 : m ≤ 8) (hs : 17 + 4 * m ≤ s.size) (e : Ev) (he0 : parse (nums s) m = e) (bq : Bool) (hbq : (strOfNums (put e) != s.extract 0 (17 + 4 * m)) = bq) :
    Calls Try.prog 11 #[.string s] w fun x w' => TakePost s m e bq w x w' := by
  have hi : 17 ≤ (s.size : Int) := by omega
  have hb2 := byte_is s 16 (by omega)
  rw [hm] at hb2
  have h8i : (m : Int) ≤ 8 := by omega
  have h9i : 17 + 4 * (m : Int) ≤ (s.size : Int) := by omega
  have hi9 : (Try.prog.info? 25).map (·.size) = some 9 := by kernel_rfl
  have hx8 : (s.extract 7 15).size = 8 := by rw [← nums_len, nums_extract, List.length_take, List.length_drop, nums_len]; omega
  obtain ⟨nn, hnn⟩ : ∃ nn : Nat, Bits.num (nums (s.extract 7 15)) = (nn : Int) := Int.eq_ofNat_of_zero_le (Bits.num_in _ (nums_ok _) (by rw [nums_len, hx8]; omega)).1
  have hy0 := byte_is s 0 (by omega)
  have u0 := at_in (nums_ok s) 0
  obtain ⟨x0, hx0⟩ : ∃ x, at' (nums s) 0 = x := ⟨_, rfl⟩
  rw [hx0] at hy0 u0
  replace u0 : 0 ≤ x0 ∧ x0 ≤ 255 := by omega
  have hy1 := byte_is s 1 (by omega)
  have u1 := at_in (nums_ok s) 1
  obtain ⟨x1, hx1⟩ : ∃ x, at' (nums s) 1 = x := ⟨_, rfl⟩
  rw [hx1] at hy1 u1
  replace u1 : 0 ≤ x1 ∧ x1 ≤ 255 := by omega
  have hy2 := byte_is s 2 (by omega)
  have u2 := at_in (nums_ok s) 2
  obtain ⟨x2, hx2⟩ : ∃ x, at' (nums s) 2 = x := ⟨_, rfl⟩
  rw [hx2] at hy2 u2
  replace u2 : 0 ≤ x2 ∧ x2 ≤ 255 := by omega
  have hy3 := byte_is s 3 (by omega)
  have u3 := at_in (nums_ok s) 3
  obtain ⟨x3, hx3⟩ : ∃ x, at' (nums s) 3 = x := ⟨_, rfl⟩
  rw [hx3] at hy3 u3
  replace u3 : 0 ≤ x3 ∧ x3 ≤ 255 := by omega
  have hy4 := byte_is s 4 (by omega)
  have u4 := at_in (nums_ok s) 4
  obtain ⟨x4, hx4⟩ : ∃ x, at' (nums s) 4 = x := ⟨_, rfl⟩
  rw [hx4] at hy4 u4
  replace u4 : 0 ≤ x4 ∧ x4 ≤ 255 := by omega
  have hy5 := byte_is s 5 (by omega)
  have u5 := at_in (nums_ok s) 5
  obtain ⟨x5, hx5⟩ : ∃ x, at' (nums s) 5 = x := ⟨_, rfl⟩
  rw [hx5] at hy5 u5
  replace u5 : 0 ≤ x5 ∧ x5 ≤ 255 := by omega
  have hy6 := byte_is s 6 (by omega)
  have u6 := at_in (nums_ok s) 6
  obtain ⟨x6, hx6⟩ : ∃ x, at' (nums s) 6 = x := ⟨_, rfl⟩
  rw [hx6] at hy6 u6
  replace u6 : 0 ≤ x6 ∧ x6 ≤ 255 := by omega
  have hy15 := byte_is s 15 (by omega)
  have u15 := at_in (nums_ok s) 15
  obtain ⟨x15, hx15⟩ : ∃ x, at' (nums s) 15 = x := ⟨_, rfl⟩
  rw [hx15] at hy15 u15
  replace u15 : 0 ≤ x15 ∧ x15 ≤ 255 := by omega
  have he : Hid (e = ⟨x0, x1 * 256 + x2, x3, x4, x5, x6, nn, x15 == 1, vals (nums s) 17 m⟩) := by
    show _ = _
    rw [← he0]
    unfold parse
    rw [hx0, hx1, hx2, hx3, hx4, hx5, hx6, hx15]
    rw [nums_extract] at hnn
    rw [show 15 - 7 = 8 from rfl] at hnn
    rw [hnn, Int.toNat_natCast]
  have hnn2 : (nn : Int) < 18446744073709551616 := by rw [← hnn]; exact (Bits.num_in _ (nums_ok _) (by rw [nums_len, hx8]; omega)).2
  have hfit : Hid e.Fits := by
    show e.Fits
    rw [he.out]
    exact ⟨by show _ ≤ x0 ∧ x0 ≤ _; omega, by show _ ≤ x1 * 256 + x2 ∧ x1 * 256 + x2 ≤ _; omega, by show _ ≤ x3 ∧ x3 ≤ _; omega, by show _ ≤ x4 ∧ x4 ≤ _; omega, by show _ ≤ x5 ∧ x5 ≤ _; omega, by show _ ≤ x6 ∧ x6 ≤ _; omega, by show nn ≤ _; omega, fun v hv => vals_in _ _ _ v hv⟩
  clear he0
  have HBQ := hid hbq
  clear hbq hnn2
  have hor := or_i64 x1 x2 u1.1 u1.2 u2.1 u2.2
  obtain ⟨p0, q0⟩ := u0
  obtain ⟨p1, q1⟩ := u1
  obtain ⟨p2, q2⟩ := u2
  obtain ⟨p3, q3⟩ := u3
  obtain ⟨p4, q4⟩ := u4
  obtain ⟨p5, q5⟩ := u5
  obtain ⟨p6, q6⟩ := u6
  obtain ⟨p15, q15⟩ := u15
  obtain ⟨j0, j1, j2, j3, j4⟩ := infoI
  have m0 : 0 ≤ (m : Int) := by omega
  have wx0 : IntKind.i64.wrap x0 = x0 := wraps_i64 _ (by omega) (by omega)
  have wx1 : IntKind.i64.wrap x1 = x1 := wraps_i64 _ (by omega) (by omega)
  have wx2 : IntKind.i64.wrap x2 = x2 := wraps_i64 _ (by omega) (by omega)
  have wx3 : IntKind.i64.wrap x3 = x3 := wraps_i64 _ (by omega) (by omega)
  have wx4 : IntKind.i64.wrap x4 = x4 := wraps_i64 _ (by omega) (by omega)
  have wx5 : IntKind.i64.wrap x5 = x5 := wraps_i64 _ (by omega) (by omega)
  have wx6 : IntKind.i64.wrap x6 = x6 := wraps_i64 _ (by omega) (by omega)
  have wsh : IntKind.i64.wrap (x1 * 256) = x1 * 256 := wraps_i64 _ (by omega) (by omega)
  have z0 : 0 < s.size := by omega
  have z1 : 1 < (s.size : Int) := by omega
  have z2 : 2 < (s.size : Int) := by omega
  have z3 : 3 < (s.size : Int) := by omega
  have z4 : 4 < (s.size : Int) := by omega
  have z5 : 5 < (s.size : Int) := by omega
  have z6 : 6 < (s.size : Int) := by omega
  have z15 : 15 < (s.size : Int) := by omega
  have z16 : 15 ≤ (s.size : Int) := by omega
  go_enter Try.func11, Try.ntmps11
  go_wp2_with fail
  obtain ⟨w1, hw1⟩ : ∃ w1, w.alloc (.cells #[.int .i64 0, .int .i64 0, .int .i64 0, .int .i64 0, .int .i64 0, .int .i64 0, .int .u64 0, .bool false, .slice none 0 0] 25 (0, 0)) = w1 := ⟨_, rfl⟩
  rw [hw1]
  have HW1 : Hid (w1.heap.size = w.heap.size + 1 ∧ Below w.heap.size w w1 ∧ w1.there w.heap.size 0 9) := hid (by rw [← hw1]; exact ⟨by simp, grow w _, there_new w _ _ 9 (by decide)⟩)
  clear hw1
  refine Rg.start (S := fun w' => Hid (Below w1.heap.size w1 w')) (by kernel_rfl) (fun _ _ _ _ _ h => h) (hid (Below.refl _ _).drew) ?_
  intro Q hp hn wz hH0
  refine Rg.tk (i := 0) rfl hp ?_
  refine ⟨?_, ?_, by kernel_rfl, by kernel_rfl, by kernel_rfl, Or.inl ⟨by rfl, ?_⟩, hH0, ?_, ?_⟩
  rotate_left 2
  · (intro w hSw; clear hSw; go_simp; try with_reducible rfl)
  · ((try simp only [Act.put, List.setIfInBounds_toArray, List.set_cons_zero, List.set_cons_succ]); exact rfl)
  refine Rg.tk (i := 1) rfl hp ?_
  refine ⟨?_, ?_, by kernel_rfl, by kernel_rfl, by kernel_rfl, Or.inl ⟨by rfl, ?_⟩, hH0, ?_, ?_⟩
  rotate_left 2
  · (intro w hSw; clear hSw; go_simp; try with_reducible rfl)
  · ((try simp only [Act.put, List.setIfInBounds_toArray, List.set_cons_zero, List.set_cons_succ]); exact rfl)
  refine Rg.tk (i := 2) rfl hp ?_
  refine ⟨?_, ?_, by kernel_rfl, by kernel_rfl, by kernel_rfl, Or.inl ⟨by rfl, ?_⟩, hH0, ?_, ?_⟩
  rotate_left 2
  · (intro w hSw; clear hSw; go_simp; try with_reducible rfl)
  · ((try simp only [Act.put, List.setIfInBounds_toArray, List.set_cons_zero, List.set_cons_succ]); exact rfl)
  refine Rg.tk (i := 3) rfl hp ?_
  refine ⟨?_, ?_, by kernel_rfl, by kernel_rfl, by kernel_rfl, Or.inl ⟨by rfl, ?_⟩, hH0, ?_, ?_⟩
  rotate_left 2
  · (intro w hSw; clear hSw; go_simp; try with_reducible rfl)
  · ((try simp only [Act.put, List.setIfInBounds_toArray, List.set_cons_zero, List.set_cons_succ]); exact rfl)
  refine Rg.tk (i := 4) rfl hp ?_
  refine ⟨?_, ?_, by kernel_rfl, by kernel_rfl, by kernel_rfl, Or.inl ⟨by rfl, ?_⟩, hH0, ?_, ?_⟩
  rotate_left 2
  · (intro w hSw; clear hSw; go_simp; try with_reducible rfl)
  · ((try simp only [Act.put, List.setIfInBounds_toArray, List.set_cons_zero, List.set_cons_succ]); exact rfl)
  refine Rg.tk (i := 5) rfl hp ?_
  refine ⟨?_, ?_, by kernel_rfl, by kernel_rfl, by kernel_rfl, Or.inl ⟨by rfl, ?_⟩, hH0, ?_, ?_⟩
  rotate_left 2
  · (intro w hSw; clear hSw; go_simp; try with_reducible rfl)
  · ((try simp only [Act.put, List.setIfInBounds_toArray, List.set_cons_zero, List.set_cons_succ]); exact rfl)
  refine Rg.tk (i := 6) rfl hp ?_
  refine ⟨?_, ?_, by kernel_rfl, by kernel_rfl, by kernel_rfl, Or.inl ⟨by rfl, ?_⟩, hH0, ?_, ?_⟩
  rotate_left 2
  · (intro w hSw; clear hSw; go_simp; try with_reducible rfl)
  · ((try simp only [Act.put, List.setIfInBounds_toArray, List.set_cons_zero, List.set_cons_succ]); exact rfl)
  refine Rg.tk (i := 7) rfl hp ?_
  refine ⟨?_, ?_, by kernel_rfl, by kernel_rfl, by kernel_rfl, Or.inl ⟨by rfl, ?_⟩, hH0, ?_, ?_⟩
  rotate_left 2
  · (intro w hSw; clear hSw; go_simp; try with_reducible rfl)
  · ((try simp only [Act.put, List.setIfInBounds_toArray, List.set_cons_zero, List.set_cons_succ]); exact rfl)
  refine Rg.tk (i := 8) rfl hp ?_
  refine ⟨?_, ?_, by kernel_rfl, by kernel_rfl, by kernel_rfl, Or.inl ⟨by rfl, ?_⟩, hH0, ?_, ?_⟩
  rotate_left 2
  · (intro w hSw; clear hSw; go_simp; try with_reducible rfl)
  · ((try simp only [Act.put, List.setIfInBounds_toArray, List.set_cons_zero, List.set_cons_succ]); exact rfl)
  refine Rg.tk (i := 9) rfl hp ?_
  refine ⟨?_, ?_, by kernel_rfl, by kernel_rfl, by kernel_rfl, Or.inl ⟨by rfl, ?_⟩, hH0, ?_, ?_⟩
  rotate_left 2
  · (intro w hSw; clear hSw; go_simp; try with_reducible rfl)
  · ((try simp only [Act.put, List.setIfInBounds_toArray, List.set_cons_zero, List.set_cons_succ]); exact rfl)
  refine Rg.tk (i := 10) rfl hp ?_
  refine ⟨?_, ?_, by kernel_rfl, by kernel_rfl, by kernel_rfl, Or.inl ⟨by rfl, ?_⟩, hH0, ?_, ?_⟩
  rotate_left 2
  · (intro w hSw; clear hSw; go_simp; try with_reducible rfl)
  · ((try simp only [Act.put, List.setIfInBounds_toArray, List.set_cons_zero, List.set_cons_succ]); exact rfl)
  refine Rg.tk (i := 11) rfl hp ?_
  refine ⟨?_, ?_, by kernel_rfl, by kernel_rfl, by kernel_rfl, Or.inl ⟨by rfl, ?_⟩, hH0, ?_, ?_⟩
  rotate_left 2
  · (intro w hSw; clear hSw; go_simp; try with_reducible rfl)
  · ((try simp only [Act.put, List.setIfInBounds_toArray, List.set_cons_zero, List.set_cons_succ]); exact rfl)
  refine Rg.tk (i := 12) rfl hp ?_
  refine ⟨?_, ?_, by kernel_rfl, by kernel_rfl, by kernel_rfl, Or.inl ⟨by rfl, ?_⟩, hH0, ?_, ?_⟩
  rotate_left 2
  · (intro w hSw; clear hSw; go_simp; try with_reducible rfl)
  · ((try simp only [Act.put, List.setIfInBounds_toArray, List.set_cons_zero, List.set_cons_succ]); exact rfl)
  refine Rg.tk (i := 13) rfl hp ?_
  refine ⟨?_, ?_, by kernel_rfl, by kernel_rfl, by kernel_rfl, Or.inl ⟨by rfl, ?_⟩, hH0, ?_, ?_⟩
  rotate_left 2
  · (intro w hSw; clear hSw; go_simp; try with_reducible rfl)
  · ((try simp only [Act.put, List.setIfInBounds_toArray, List.set_cons_zero, List.set_cons_succ]); exact rfl)
  refine Rg.tk (i := 14) rfl hp ?_
  refine ⟨?_, ?_, by kernel_rfl, by kernel_rfl, by kernel_rfl, Or.inl ⟨by rfl, ?_⟩, hH0, ?_, ?_⟩
  rotate_left 2
  · (intro w hSw; clear hSw; go_simp; try with_reducible rfl)
  · ((try simp only [Act.put, List.setIfInBounds_toArray, List.set_cons_zero, List.set_cons_succ]); exact rfl)
  refine Rg.tk (i := 15) rfl hp ?_
  refine ⟨?_, ?_, by kernel_rfl, by kernel_rfl, by kernel_rfl, Or.inl ⟨by rfl, ?_⟩, hH0, ?_, ?_⟩
  rotate_left 2
  · (intro w hSw; clear hSw; go_simp; try with_reducible rfl)
  · ((try simp only [Act.put, List.setIfInBounds_toArray, List.set_cons_zero, List.set_cons_succ]); exact rfl)
  refine Rg.tk (i := 16) rfl hp ?_
  refine ⟨?_, ?_, by kernel_rfl, by kernel_rfl, by kernel_rfl, Or.inl ⟨by rfl, ?_⟩, hH0, ?_, ?_⟩
  rotate_left 2
  · (intro w hSw; clear hSw; go_simp; try with_reducible rfl)
  · ((try simp only [Act.put, List.setIfInBounds_toArray, List.set_cons_zero, List.set_cons_succ]); exact rfl)
  refine Rg.tk (i := 17) rfl hp ?_
  refine ⟨?_, ?_, by kernel_rfl, by kernel_rfl, by kernel_rfl, Or.inl ⟨by rfl, ?_⟩, hH0, ?_, ?_⟩
  rotate_left 2
  · (intro w hSw; clear hSw; go_simp; try with_reducible rfl)
  · ((try simp only [Act.put, List.setIfInBounds_toArray, List.set_cons_zero, List.set_cons_succ]); exact rfl)
  refine Rg.tk (i := 18) rfl hp ?_
  refine ⟨?_, ?_, by kernel_rfl, by kernel_rfl, by kernel_rfl, Or.inl ⟨by rfl, ?_⟩, hH0, ?_, ?_⟩
  rotate_left 2
  · (intro w hSw; clear hSw; go_simp; try with_reducible rfl)
  · ((try simp only [Act.put, List.setIfInBounds_toArray, List.set_cons_zero, List.set_cons_succ]); exact rfl)
  refine Rg.tk (i := 19) rfl hp ?_
  refine ⟨?_, ?_, by kernel_rfl, by kernel_rfl, by kernel_rfl, Or.inl ⟨by rfl, ?_⟩, hH0, ?_, ?_⟩
  rotate_left 2
  · (intro w hSw; clear hSw; go_simp; try with_reducible rfl)
  · ((try simp only [Act.put, List.setIfInBounds_toArray, List.set_cons_zero, List.set_cons_succ]); exact rfl)
  refine Rg.tk (i := 20) rfl hp ?_
  refine ⟨?_, ?_, by kernel_rfl, by kernel_rfl, by kernel_rfl, Or.inl ⟨by rfl, ?_⟩, hH0, ?_, ?_⟩
  rotate_left 2
  · (intro w hSw; clear hSw; go_simp; try with_reducible rfl)
  · ((try simp only [Act.put, List.setIfInBounds_toArray, List.set_cons_zero, List.set_cons_succ]); exact rfl)
  refine Rg.tk (i := 21) rfl hp ?_
  refine ⟨?_, ?_, by kernel_rfl, by kernel_rfl, by kernel_rfl, Or.inl ⟨by rfl, ?_⟩, hH0, ?_, ?_⟩
  rotate_left 2
  · (intro w hSw; clear hSw; go_simp; try with_reducible rfl)
  · ((try simp only [Act.put, List.setIfInBounds_toArray, List.set_cons_zero, List.set_cons_succ]); exact rfl)
  refine Rg.tk (i := 22) rfl hp ?_
  refine ⟨?_, ?_, by kernel_rfl, by kernel_rfl, by kernel_rfl, Or.inl ⟨by rfl, ?_⟩, hH0, ?_, ?_⟩
  rotate_left 2
  · (intro w hSw; clear hSw; go_simp; try with_reducible rfl)
  · ((try simp only [Act.put, List.setIfInBounds_toArray, List.set_cons_zero, List.set_cons_succ]); exact rfl)
  refine Rg.tk (i := 23) rfl hp ?_
  refine ⟨?_, ?_, by kernel_rfl, by kernel_rfl, by kernel_rfl, Or.inl ⟨by rfl, ?_⟩, hH0, ?_, ?_⟩
  rotate_left 2
  · (intro w hSw; clear hSw; go_simp; try with_reducible rfl)
  · ((try simp only [Act.put, List.setIfInBounds_toArray, List.set_cons_zero, List.set_cons_succ]); exact rfl)
  refine Rg.tk (i := 24) rfl hp ?_
  refine ⟨?_, ?_, by kernel_rfl, by kernel_rfl, by kernel_rfl, Or.inl ⟨by rfl, ?_⟩, hH0, ?_, ?_⟩
  rotate_left 2
  · (intro w hSw; clear hSw; go_simp; try with_reducible rfl)
  · ((try simp only [Act.put, List.setIfInBounds_toArray, List.set_cons_zero, List.set_cons_succ]); exact rfl)
  refine Rg.tk (i := 27) rfl hp ?_
  refine ⟨?_, ?_, by kernel_rfl, by kernel_rfl, by kernel_rfl, Or.inl ⟨by rfl, ?_⟩, hH0, ?_, ?_⟩
  rotate_left 2
  · (intro w hSw; clear hSw; go_simp; try with_reducible rfl)
  · ((try simp only [Act.put, List.setIfInBounds_toArray, List.set_cons_zero, List.set_cons_succ]); exact rfl)
  refine Rg.tk (i := 28) rfl hp ?_
  refine ⟨?_, ?_, by kernel_rfl, by kernel_rfl, by kernel_rfl, Or.inl ⟨by rfl, ?_⟩, hH0, ?_, ?_⟩
  rotate_left 2
  · (intro w hSw; clear hSw; go_simp; try with_reducible rfl)
  · ((try simp only [Act.put, List.setIfInBounds_toArray, List.set_cons_zero, List.set_cons_succ]); exact rfl)
  refine Rg.tk (i := 29) rfl hp ?_
  refine ⟨?_, ?_, by kernel_rfl, by kernel_rfl, by kernel_rfl, Or.inl ⟨by rfl, ?_⟩, hH0, ?_, ?_⟩
  rotate_left 2
  · (intro w hSw; clear hSw; go_simp; try with_reducible rfl)
  · ((try simp only [Act.put, List.setIfInBounds_toArray, List.set_cons_zero, List.set_cons_succ]); exact rfl)
  refine Rg.two (i := 25) (j := 31) rfl rfl ⟨by kernel_rfl, by rfl, by rfl⟩ (fun K hK => ?_) (fun K hK => ?_)
  · skip
    obtain ⟨v1, cap, hrun, hlv, hc1, hc2, hby, hlt⟩ := conv_bytes (s.extract 7 15) wz wz.heap.size rfl
    rw [hx8] at hrun hc1 hc2
    refine wp_conv rfl rfl hrun ?_
    refine hK.out _ _ ?_ (hid (via hH0.out hlv)) ?_ (fun hH1 => ?_)
    rotate_left
    · ((try simp only [Act.put, List.setIfInBounds_toArray, List.set_cons_zero, List.set_cons_succ]); exact rfl)
    clear hK K
    refine Rg.two (i := 26) (j := 31) rfl rfl ⟨by kernel_rfl, by rfl, by rfl⟩ (fun K hK => ?_) (fun K hK => ?_)
    · skip
      go_simp
      refine (from8 hx8 hc1 hc2 (hby)).mono ?_
      rintro x w' ⟨rfl, rfl⟩
      rw [hnn]
      refine hK.out _ _ ?_ (hH1) ?_ (fun hH2 => ?_)
      rotate_left
      · ((try simp only [Act.put, List.setIfInBounds_toArray, List.set_cons_zero, List.set_cons_succ]); exact rfl)
      clear hK K
      refine Rg.tk (i := 30) rfl hp ?_
      refine ⟨?_, ?_, by kernel_rfl, by kernel_rfl, by kernel_rfl, Or.inl ⟨by rfl, ?_⟩, hH2, ?_, ?_⟩
      rotate_left 2
      · (intro w hSw; clear hSw; go_simp; try with_reducible rfl)
      · ((try simp only [Act.put, List.setIfInBounds_toArray, List.set_cons_zero, List.set_cons_succ]); exact rfl)
      refine Rg.one (i := 31) rfl ⟨by kernel_rfl, by rfl, fun K hK => ?_⟩
      go_simp
      refine hK.out _ _ ?_ (hid (hH2.out.alloc hH2.out.size _)) ?_ (fun hH3 => ?_)
      rotate_left
      · ((try simp only [Act.put, List.setIfInBounds_toArray, List.set_cons_zero, List.set_cons_succ]); exact rfl)
      clear hK K
      refine Rg.one (i := 32) rfl ⟨by kernel_rfl, by rfl, fun K hK => ?_⟩
      have hT7 := there_new v1 #[.int .i64 0, .int .i64 0, .int .i64 0, .int .i64 0, .int .i64 0, .int .i64 0, .int .u64 0, .bool false, .slice none 0 0] 25 9 (by decide)
      have hB7 : w1.heap.size ≤ v1.heap.size := by have := hH2.out.size; omega
      refine wp_store_mid 25 _ _ rfl (v1.heap.size) 0 (evF (parse0 x0 x1 x2 x3 x4 x5 x6 nn x15) none 0) rfl rfl hT7 hi9 (evF_one _ _ _) ?_
      have hBF := hid (below_sets hH3.out hB7 (evF (parse0 x0 x1 x2 x3 x4 x5 x6 nn x15) none 0).toList 0)
      have hRF := hid (World.rangeAt_setCells_same _ _ _ (evF (parse0 x0 x1 x2 x3 x4 x5 x6 nn x15) none 0).toList hT7)
      have hTF := hid (there_sets (evF (parse0 x0 x1 x2 x3 x4 x5 x6 nn x15) none 0).toList (Nat.le_refl 9) hT7)
      have hLF := there_lt hTF.out
      refine hK.out _ _ ?_ (hBF) ?_ (fun hHF => ?_)
      rotate_left
      · ((try simp only [Act.put, List.setIfInBounds_toArray, List.set_cons_zero, List.set_cons_succ]); exact rfl)
      clear hK K
      refine wpAnyH_done (by kernel_rfl) ?_ _
      refine hn.out _ _ ?_
      obtain ⟨B7, hB7e⟩ : ∃ B7, v1.heap.size = B7 := ⟨_, rfl⟩
      rw [hB7e] at hHF hRF hTF hLF hB7 ⊢
      obtain ⟨wf, hwf⟩ : ∃ wf, World.setCells (v1.alloc (.cells #[.int .i64 0, .int .i64 0, .int .i64 0, .int .i64 0, .int .i64 0, .int .i64 0, .int .u64 0, .bool false, .slice none 0 0] 25 (0, 0))) B7 0 (evF (parse0 x0 x1 x2 x3 x4 x5 x6 nn x15) none 0).toList = wf := ⟨_, rfl⟩
      rw [hwf] at hHF hRF hTF hLF ⊢
      have HB0 := hHF
      clear hn hp hT7 hBF hrun hby hlv hc1 hc2 hlt
      as_aux_lemma =>
        go_wp2_with fail
        go_loopw [8] (fun i wr => ∃ (k : Nat) (v : Value), k ≤ m ∧ i = .int .i64 (17 + 4 * (k : Int)) ∧ Below w1.heap.size w1 wr ∧ wr.rangeAt B7 0 [.int .i64 x0, .int .i64 (x1 * 256 + x2), .int .i64 x3, .int .i64 x4, .int .i64 x5, .int .i64 x6, .int .u64 (nn : Int), .bool (x15 == 1), v] ∧ wr.there B7 0 9 ∧ wr.ownsRow (B7 + 1) 3 1 v k (ints (vals (nums s) 17 k)) ∧ B7 < wr.heap.size) (fun i _ => 17 + 4 * m - (intOf i).toNat)
        case atStart => exact ⟨0, _, Nat.zero_le _, rfl, HB0.out, hRF.out, hTF.out, World.ownsRow_nil _ _ _ _, hLF⟩
        case round =>
          obtain ⟨k, v, hk, rfl, hB, hR, hT, hO, hL⟩ := hrel
          have HB := hid hB
          have HR := hid hR
          have HT := hid hT
          have HO := hid hO
          have HL := hid hL
          clear hB hR hT hO hL
          by_cases hlt : k < m
          · have c0 : (17 + 4 * (k : Int)) < 17 + 4 * (m : Int) := by omega
            have c1 : 0 ≤ 17 + 4 * (k : Int) := by omega
            have c2 : 17 + 4 * (k : Int) ≤ 17 + 4 * (k : Int) + 4 := by omega
            have c3 : 17 + 4 * (k : Int) + 4 ≤ (s.size : Int) := by omega
            have c4 : (17 + 4 * (k : Int)).toNat = 17 + 4 * k := by omega
            have c5 : (17 + 4 * (k : Int) + 4).toNat = 17 + 4 * k + 4 := by omega
            have c6 : IntKind.i64.wrap (17 + 4 * (k : Int) + 4) = 17 + 4 * (k : Int) + 4 := wraps_i64 _ (by omega) (by omega)
            have c7 : 0 ≤ 17 + 4 * (k : Int) + 4 := by omega
            have Hval := hid fun w => val_calls s (17 + 4 * k) (by omega) w
            obtain ⟨y, hy⟩ : ∃ y, Cod.val (((nums s).drop (17 + 4 * k)).take 4) = y := ⟨_, rfl⟩
            rw [hy] at Hval
            have Hy := hid hy
            clear hy
            go_wp2_with fail
            refine Rg.start2 (S := fun w' => Hid (Below w1.heap.size w1 w')) (T := fun w' => Hid (w'.rangeAt B7 0 [.int .i64 x0, .int .i64 (x1 * 256 + x2), .int .i64 x3, .int .i64 x4, .int .i64 x5, .int .i64 x6, .int .u64 (nn : Int), .bool (x15 == 1), v] ∧ w'.there B7 0 9 ∧ w'.ownsRow (B7 + 1) 3 1 v k (ints (vals (nums s) 17 k)) ∧ B7 < w'.heap.size)) (by kernel_rfl) (fun _ _ _ _ _ h => h) (hid HB.out.drew) (hid ⟨HR.out, HT.out, HO.out, HL.out⟩) ?_
            intro Q hp hn wz hH0 hT0
            refine Rg.tk (i := 0) rfl hp ?_
            refine ⟨?_, ?_, by kernel_rfl, by kernel_rfl, by kernel_rfl, Or.inl ⟨by rfl, ?_⟩, hH0, ?_, ?_⟩
            rotate_left 2
            · (intro w hSw; clear hSw; go_simp; try with_reducible rfl)
            · ((try simp only [Act.put, List.setIfInBounds_toArray, List.set_cons_zero, List.set_cons_succ]); exact rfl)
            refine Rg.tk (i := 2) rfl hp ?_
            refine ⟨?_, ?_, by kernel_rfl, by kernel_rfl, by kernel_rfl, Or.inl ⟨by rfl, ?_⟩, hH0, ?_, ?_⟩
            rotate_left 2
            · (intro w hSw; clear hSw; go_simp; try with_reducible rfl)
            · ((try simp only [Act.put, List.setIfInBounds_toArray, List.set_cons_zero, List.set_cons_succ]); exact rfl)
            refine Rg.tk (i := 3) rfl hp ?_
            refine ⟨?_, ?_, by kernel_rfl, by kernel_rfl, by kernel_rfl, Or.inl ⟨by rfl, ?_⟩, hH0, ?_, ?_⟩
            rotate_left 2
            · (intro w hSw; clear hSw; go_simp; try with_reducible rfl)
            · ((try simp only [Act.put, List.setIfInBounds_toArray, List.set_cons_zero, List.set_cons_succ]); exact rfl)
            refine Rg.tk (i := 4) rfl hp ?_
            refine ⟨?_, ?_, by kernel_rfl, by kernel_rfl, by kernel_rfl, Or.inl ⟨by rfl, ?_⟩, hH0, ?_, ?_⟩
            rotate_left 2
            · (intro w hSw; clear hSw; go_simp; try with_reducible rfl)
            · ((try simp only [Act.put, List.setIfInBounds_toArray, List.set_cons_zero, List.set_cons_succ]); exact rfl)
            refine Rg.tk (i := 5) rfl hp ?_
            refine ⟨?_, ?_, by kernel_rfl, by kernel_rfl, by kernel_rfl, Or.inl ⟨by rfl, ?_⟩, hH0, ?_, ?_⟩
            rotate_left 2
            · (intro w hSw; clear hSw; go_simp; try with_reducible rfl)
            · ((try simp only [Act.put, List.setIfInBounds_toArray, List.set_cons_zero, List.set_cons_succ]); exact rfl)
            refine Rg.tk (i := 6) rfl hp ?_
            refine ⟨?_, ?_, by kernel_rfl, by kernel_rfl, by kernel_rfl, Or.inl ⟨by rfl, ?_⟩, hH0, ?_, ?_⟩
            rotate_left 2
            · (intro w hSw; clear hSw; go_simp; try with_reducible rfl)
            · ((try simp only [Act.put, List.setIfInBounds_toArray, List.set_cons_zero, List.set_cons_succ]); exact rfl)
            refine Rg.two (i := 1) (j := 7) rfl rfl ⟨by kernel_rfl, by rfl, by rfl⟩ (fun K hK => ?_) (fun K hK => ?_)
            · skip
              have c8_1 : (wz).cell? ⟨B7, 8, none⟩ = some v := by have := (hT0.out).1 8 v rfl; rwa [Nat.zero_add] at this
              go_simp
              clear c8_1
              refine hK.out _ _ ?_ (hH0) ?_ (fun hH1 => ?_)
              rotate_left
              · ((try simp only [Act.put, List.setIfInBounds_toArray, List.set_cons_zero, List.set_cons_succ]); exact rfl)
              clear hK K
              refine Rg.one (i := 7) rfl ⟨by kernel_rfl, by rfl, fun K hK => ?_⟩
              go_simp
              refine (Hval.out _).mono ?_
              rintro x u2 ⟨rfl, hl2⟩
              refine hK.out _ _ ?_ (hid (via hH1.out hl2)) ?_ (fun hH2 => ?_)
              rotate_left
              · ((try simp only [Act.put, List.setIfInBounds_toArray, List.set_cons_zero, List.set_cons_succ]); exact rfl)
              clear hK K
              refine Rg.one (i := 8) rfl ⟨by kernel_rfl, by rfl, fun K hK => ?_⟩
              go_simp
              refine hK.out _ _ ?_ (hid (hH2.out.alloc hH2.out.size _)) ?_ (fun hH3 => ?_)
              rotate_left
              · ((try simp only [Act.put, List.setIfInBounds_toArray, List.set_cons_zero, List.set_cons_succ]); exact rfl)
              clear hK K
              refine Rg.one (i := 9) rfl ⟨by kernel_rfl, by rfl, fun K hK => ?_⟩
              have hT := tfacts_below (tfacts_below (hT0.out) hl2) (grow u2 (.cells #[.int .i64 y] 3 (0, 0)))
              refine wp_append_own _ _ _ 23 rfl (B7 + 1) 3 j0 (.int .i64 0) 1 8 Try.underlying23 j1 j2 j3 j4 rfl (by decide) v k (ints (vals (nums s) 17 k)) rfl hT.2.2.1 ⟨u2.heap.size, 0, none⟩ 1 1 [.int .i64 y] rfl rfl (fun j u hj => by rw [Addr.add_mid]; exact (range_new u2 #[.int .i64 y] 3) j u hj) (by intro u hu; simp at hu; subst hu; rfl) (by unfold maxLen; omega) (by omega) (by have := hT.2.2.2; omega) ?_
              intro v' wn hown hgrow _
              have hne : some B7 ≠ v.ownBlock := by intro hq; have := (hT.2.2.1.lt B7 hq.symm).1; omega
              have hRn := range_grown hgrow hne hT.1
              have hTn := there_grown hgrow hne hT.2.1
              have hbw := below_grown hH3.out hgrow (fun gg hg => by have := (hT.2.2.1.lt gg hg).1; omega)
              obtain ⟨A', c', hvs⟩ := owns_slice hown
              subst hvs
              have hown2 := hid hown
              have hlt2 : B7 < wn.heap.size := there_lt hTn
              clear hown hgrow
              refine hK.out _ _ ?_ (hid hbw) ?_ (fun hH4 => ?_)
              rotate_left
              · ((try simp only [Act.put, List.setIfInBounds_toArray, List.set_cons_zero, List.set_cons_succ]); exact rfl)
              clear hK K
              refine Rg.tk (i := 10) rfl hp ?_
              refine ⟨?_, ?_, by kernel_rfl, by kernel_rfl, by kernel_rfl, Or.inl ⟨by rfl, ?_⟩, hH4, ?_, ?_⟩
              rotate_left 2
              · (intro w hSw; clear hSw; go_simp; try with_reducible rfl)
              · ((try simp only [Act.put, List.setIfInBounds_toArray, List.set_cons_zero, List.set_cons_succ]); exact rfl)
              refine Rg.one (i := 11) rfl ⟨by kernel_rfl, by rfl, fun K hK => ?_⟩
              have hc8 : wn.cell? ⟨B7, 8, none⟩ = some v := by have := hRn 8 v rfl; rwa [Nat.zero_add] at this
              have hf8 : wn.frozen? ⟨B7, 8, none⟩ = false := by have := (hTn 8 (by omega)).2; rwa [Nat.zero_add] at this
              go_simp
              have hRF := hid (range_set8 (.slice A' (k + 1) c') hRn)
              have hTF := hid (there_set (v := (.slice A' (k + 1) c')) (i := 8) hTn)
              have hOF := hid (owns_set (v := (.slice A' (k + 1) c')) (i := 8) hown2.out (Nat.lt_succ_self B7))
              have hLF : Hid (B7 < (wn.setCell ⟨B7, 8, none⟩ (.slice A' (k + 1) c')).heap.size) := hid (there_lt hTF.out)
              refine hK.out _ _ ?_ (hid (hH4.out.setCell (show w1.heap.size ≤ (⟨B7, 8, none⟩ : Addr).block from hB7) (.slice A' (k + 1) c'))) ?_ (fun hHF => ?_)
              rotate_left
              · ((try simp only [Act.put, List.setIfInBounds_toArray, List.set_cons_zero, List.set_cons_succ]); exact rfl)
              clear hK K
              refine wpAnyH_done (by kernel_rfl) ?_ _
              refine hn.out _ _ ?_
              go_wp2_with fail
              go_roundw
              case rel => exact ⟨k + 1, _, by omega, by rw [show (17 : Int) + 4 * (k : Int) + 4 = 17 + 4 * ((k + 1 : Nat) : Int) from by omega], hHF.out, hRF.out, hTF.out, by rw [show vals (nums s) 17 (k + 1) = vals (nums s) 17 k ++ [Cod.val (((nums s).drop (17 + 4 * k)).take 4)] from rfl, Hy.out, ints_append]; exact hOF.out, hLF.out⟩
              case measure => simp [intOf]; omega
            · skip
              go_simp
              refine (Hval.out _).mono ?_
              rintro x u5 ⟨rfl, hl5⟩
              refine hK.out _ _ ?_ (hid (via hH0.out hl5)) ?_ (fun hH5 => ?_)
              rotate_left
              · ((try simp only [Act.put, List.setIfInBounds_toArray, List.set_cons_zero, List.set_cons_succ]); exact rfl)
              clear hK K
              refine Rg.two (i := 1) (j := 8) rfl rfl ⟨by kernel_rfl, by rfl, by rfl⟩ (fun K hK => ?_) (fun K hK => ?_)
              · skip
                have c8_6 : (u5).cell? ⟨B7, 8, none⟩ = some v := by have := (tfacts_below (hT0.out) hl5).1 8 v rfl; rwa [Nat.zero_add] at this
                go_simp
                clear c8_6
                refine hK.out _ _ ?_ (hH5) ?_ (fun hH6 => ?_)
                rotate_left
                · ((try simp only [Act.put, List.setIfInBounds_toArray, List.set_cons_zero, List.set_cons_succ]); exact rfl)
                clear hK K
                refine Rg.one (i := 8) rfl ⟨by kernel_rfl, by rfl, fun K hK => ?_⟩
                go_simp
                refine hK.out _ _ ?_ (hid (hH6.out.alloc hH6.out.size _)) ?_ (fun hH7 => ?_)
                rotate_left
                · ((try simp only [Act.put, List.setIfInBounds_toArray, List.set_cons_zero, List.set_cons_succ]); exact rfl)
                clear hK K
                refine Rg.one (i := 9) rfl ⟨by kernel_rfl, by rfl, fun K hK => ?_⟩
                have hT := tfacts_below (tfacts_below (hT0.out) hl5) (grow u5 (.cells #[.int .i64 y] 3 (0, 0)))
                refine wp_append_own _ _ _ 23 rfl (B7 + 1) 3 j0 (.int .i64 0) 1 8 Try.underlying23 j1 j2 j3 j4 rfl (by decide) v k (ints (vals (nums s) 17 k)) rfl hT.2.2.1 ⟨u5.heap.size, 0, none⟩ 1 1 [.int .i64 y] rfl rfl (fun j u hj => by rw [Addr.add_mid]; exact (range_new u5 #[.int .i64 y] 3) j u hj) (by intro u hu; simp at hu; subst hu; rfl) (by unfold maxLen; omega) (by omega) (by have := hT.2.2.2; omega) ?_
                intro v' wn hown hgrow _
                have hne : some B7 ≠ v.ownBlock := by intro hq; have := (hT.2.2.1.lt B7 hq.symm).1; omega
                have hRn := range_grown hgrow hne hT.1
                have hTn := there_grown hgrow hne hT.2.1
                have hbw := below_grown hH7.out hgrow (fun gg hg => by have := (hT.2.2.1.lt gg hg).1; omega)
                obtain ⟨A', c', hvs⟩ := owns_slice hown
                subst hvs
                have hown2 := hid hown
                have hlt2 : B7 < wn.heap.size := there_lt hTn
                clear hown hgrow
                refine hK.out _ _ ?_ (hid hbw) ?_ (fun hH8 => ?_)
                rotate_left
                · ((try simp only [Act.put, List.setIfInBounds_toArray, List.set_cons_zero, List.set_cons_succ]); exact rfl)
                clear hK K
                refine Rg.tk (i := 10) rfl hp ?_
                refine ⟨?_, ?_, by kernel_rfl, by kernel_rfl, by kernel_rfl, Or.inl ⟨by rfl, ?_⟩, hH8, ?_, ?_⟩
                rotate_left 2
                · (intro w hSw; clear hSw; go_simp; try with_reducible rfl)
                · ((try simp only [Act.put, List.setIfInBounds_toArray, List.set_cons_zero, List.set_cons_succ]); exact rfl)
                refine Rg.one (i := 11) rfl ⟨by kernel_rfl, by rfl, fun K hK => ?_⟩
                have hc8 : wn.cell? ⟨B7, 8, none⟩ = some v := by have := hRn 8 v rfl; rwa [Nat.zero_add] at this
                have hf8 : wn.frozen? ⟨B7, 8, none⟩ = false := by have := (hTn 8 (by omega)).2; rwa [Nat.zero_add] at this
                go_simp
                have hRF := hid (range_set8 (.slice A' (k + 1) c') hRn)
                have hTF := hid (there_set (v := (.slice A' (k + 1) c')) (i := 8) hTn)
                have hOF := hid (owns_set (v := (.slice A' (k + 1) c')) (i := 8) hown2.out (Nat.lt_succ_self B7))
                have hLF : Hid (B7 < (wn.setCell ⟨B7, 8, none⟩ (.slice A' (k + 1) c')).heap.size) := hid (there_lt hTF.out)
                refine hK.out _ _ ?_ (hid (hH8.out.setCell (show w1.heap.size ≤ (⟨B7, 8, none⟩ : Addr).block from hB7) (.slice A' (k + 1) c'))) ?_ (fun hHF => ?_)
                rotate_left
                · ((try simp only [Act.put, List.setIfInBounds_toArray, List.set_cons_zero, List.set_cons_succ]); exact rfl)
                clear hK K
                refine wpAnyH_done (by kernel_rfl) ?_ _
                refine hn.out _ _ ?_
                go_wp2_with fail
                go_roundw
                case rel => exact ⟨k + 1, _, by omega, by rw [show (17 : Int) + 4 * (k : Int) + 4 = 17 + 4 * ((k + 1 : Nat) : Int) from by omega], hHF.out, hRF.out, hTF.out, by rw [show vals (nums s) 17 (k + 1) = vals (nums s) 17 k ++ [Cod.val (((nums s).drop (17 + 4 * k)).take 4)] from rfl, Hy.out, ints_append]; exact hOF.out, hLF.out⟩
                case measure => simp [intOf]; omega
              · skip
                go_simp
                refine hK.out _ _ ?_ (hid (hH5.out.alloc hH5.out.size _)) ?_ (fun hH9 => ?_)
                rotate_left
                · ((try simp only [Act.put, List.setIfInBounds_toArray, List.set_cons_zero, List.set_cons_succ]); exact rfl)
                clear hK K
                refine Rg.one (i := 1) rfl ⟨by kernel_rfl, by rfl, fun K hK => ?_⟩
                have c8_10 : ((u5.alloc (.cells #[.int .i64 y] 3 (0, 0)))).cell? ⟨B7, 8, none⟩ = some v := by have := (tfacts_below (tfacts_below (hT0.out) hl5) (grow u5 (.cells #[.int .i64 y] 3 (0, 0)))).1 8 v rfl; rwa [Nat.zero_add] at this
                go_simp
                clear c8_10
                refine hK.out _ _ ?_ (hH9) ?_ (fun hH10 => ?_)
                rotate_left
                · ((try simp only [Act.put, List.setIfInBounds_toArray, List.set_cons_zero, List.set_cons_succ]); exact rfl)
                clear hK K
                refine Rg.one (i := 9) rfl ⟨by kernel_rfl, by rfl, fun K hK => ?_⟩
                have hT := tfacts_below (tfacts_below (hT0.out) hl5) (grow u5 (.cells #[.int .i64 y] 3 (0, 0)))
                refine wp_append_own _ _ _ 23 rfl (B7 + 1) 3 j0 (.int .i64 0) 1 8 Try.underlying23 j1 j2 j3 j4 rfl (by decide) v k (ints (vals (nums s) 17 k)) rfl hT.2.2.1 ⟨u5.heap.size, 0, none⟩ 1 1 [.int .i64 y] rfl rfl (fun j u hj => by rw [Addr.add_mid]; exact (range_new u5 #[.int .i64 y] 3) j u hj) (by intro u hu; simp at hu; subst hu; rfl) (by unfold maxLen; omega) (by omega) (by have := hT.2.2.2; omega) ?_
                intro v' wn hown hgrow _
                have hne : some B7 ≠ v.ownBlock := by intro hq; have := (hT.2.2.1.lt B7 hq.symm).1; omega
                have hRn := range_grown hgrow hne hT.1
                have hTn := there_grown hgrow hne hT.2.1
                have hbw := below_grown hH10.out hgrow (fun gg hg => by have := (hT.2.2.1.lt gg hg).1; omega)
                obtain ⟨A', c', hvs⟩ := owns_slice hown
                subst hvs
                have hown2 := hid hown
                have hlt2 : B7 < wn.heap.size := there_lt hTn
                clear hown hgrow
                refine hK.out _ _ ?_ (hid hbw) ?_ (fun hH11 => ?_)
                rotate_left
                · ((try simp only [Act.put, List.setIfInBounds_toArray, List.set_cons_zero, List.set_cons_succ]); exact rfl)
                clear hK K
                refine Rg.tk (i := 10) rfl hp ?_
                refine ⟨?_, ?_, by kernel_rfl, by kernel_rfl, by kernel_rfl, Or.inl ⟨by rfl, ?_⟩, hH11, ?_, ?_⟩
                rotate_left 2
                · (intro w hSw; clear hSw; go_simp; try with_reducible rfl)
                · ((try simp only [Act.put, List.setIfInBounds_toArray, List.set_cons_zero, List.set_cons_succ]); exact rfl)
                refine Rg.one (i := 11) rfl ⟨by kernel_rfl, by rfl, fun K hK => ?_⟩
                have hc8 : wn.cell? ⟨B7, 8, none⟩ = some v := by have := hRn 8 v rfl; rwa [Nat.zero_add] at this
                have hf8 : wn.frozen? ⟨B7, 8, none⟩ = false := by have := (hTn 8 (by omega)).2; rwa [Nat.zero_add] at this
                go_simp
                have hRF := hid (range_set8 (.slice A' (k + 1) c') hRn)
                have hTF := hid (there_set (v := (.slice A' (k + 1) c')) (i := 8) hTn)
                have hOF := hid (owns_set (v := (.slice A' (k + 1) c')) (i := 8) hown2.out (Nat.lt_succ_self B7))
                have hLF : Hid (B7 < (wn.setCell ⟨B7, 8, none⟩ (.slice A' (k + 1) c')).heap.size) := hid (there_lt hTF.out)
                refine hK.out _ _ ?_ (hid (hH11.out.setCell (show w1.heap.size ≤ (⟨B7, 8, none⟩ : Addr).block from hB7) (.slice A' (k + 1) c'))) ?_ (fun hHF => ?_)
                rotate_left
                · ((try simp only [Act.put, List.setIfInBounds_toArray, List.set_cons_zero, List.set_cons_succ]); exact rfl)
                clear hK K
                refine wpAnyH_done (by kernel_rfl) ?_ _
                refine hn.out _ _ ?_
                go_wp2_with fail
                go_roundw
                case rel => exact ⟨k + 1, _, by omega, by rw [show (17 : Int) + 4 * (k : Int) + 4 = 17 + 4 * ((k + 1 : Nat) : Int) from by omega], hHF.out, hRF.out, hTF.out, by rw [show vals (nums s) 17 (k + 1) = vals (nums s) 17 k ++ [Cod.val (((nums s).drop (17 + 4 * k)).take 4)] from rfl, Hy.out, ints_append]; exact hOF.out, hLF.out⟩
                case measure => simp [intOf]; omega
          · obtain rfl : k = m := by omega
            obtain ⟨A, c, rfl, hrow⟩ := owns_int HO.out (vals_len _ _ _)
            have HNe : Hid (∀ b o, A = some ⟨b, o, none⟩ → b ≠ w.heap.size) := by
              intro b o hA
              have := HW1.out.1
              have := (HO.out.lt b (by rw [hA]; rfl)).1
              omega
            have HFr : Hid (∀ b o, A = some ⟨b, o, none⟩ → w.heap.size ≤ b) := by
              intro b o hA
              have := HW1.out.1
              have := (HO.out.lt b (by rw [hA]; rfl)).1
              omega
            have HRe : Hid (wr.rangeAt B7 0 (evF e A c).toList) := by
              show World.rangeAt _ _ _ _
              rw [he.out]
              exact HR.out
            have HRow : Hid (RowI wr A e.vals) := by
              show RowI _ _ _
              rw [he.out]
              exact hrow
            have hvl2 : Hid (e.vals.length = k) := by show e.vals.length = k; rw [he.out]; exact vals_len _ _ _
            have Hput := hid fun w (hr : RowI w A e.vals) => put_calls e A c w hfit (by rw [hvl2.out]; omega) hr
            clear hrow HR HO
            have hbq : ((strOfNums (put e)).toList == (s.extract 0 (17 + 4 * k)).toList) = !bq := by
              rw [← beq_toListBytes]
              have := HBQ.out
              unfold bne at this
              rw [← this, Bool.not_not]
            have e1 : (17 + 4 * (k : Int)).toNat = 17 + 4 * k := by omega
            have e2 : 0 ≤ 17 + 4 * (k : Int) := by omega
            go_wp2_with fail
            refine Rg.start2 (S := fun w' => Hid (Below w1.heap.size w1 w' ∧ w'.rangeAt B7 0 (evF e A c).toList)) (T := fun w' => Hid (RowI w' A e.vals)) (by kernel_rfl) (fun _ _ _ _ _ h => h) (hid ⟨HB.out.drew, HRe.out⟩) (hid HRow.out) ?_
            intro Q hp hn wz hH0 hT0
            refine Rg.tk (i := 0) rfl hp ?_
            refine ⟨_, ?_, by kernel_rfl, by kernel_rfl, by kernel_rfl, yieldsIf_load_mid (by rfl) 25 _ rfl B7 0 rfl (evF e A c).toList _ (fun w hSw => hSw.out.2) Try.underlying25 rfl hi9, hH0, ?_, ?_⟩
            rotate_left
            · ((try simp only [Act.put, List.setIfInBounds_toArray, List.set_cons_zero, List.set_cons_succ]); exact rfl)
            refine Rg.tk (i := 2) rfl hp ?_
            refine ⟨?_, ?_, by kernel_rfl, by kernel_rfl, by kernel_rfl, Or.inl ⟨by rfl, ?_⟩, hH0, ?_, ?_⟩
            rotate_left 2
            · (intro w hSw; clear hSw; go_simp; try with_reducible rfl)
            · ((try simp only [Act.put, List.setIfInBounds_toArray, List.set_cons_zero, List.set_cons_succ]); exact rfl)
            refine Rg.tk (i := 3) rfl hp ?_
            refine ⟨?_, ?_, by kernel_rfl, by kernel_rfl, by kernel_rfl, Or.inl ⟨by rfl, ?_⟩, hH0, ?_, ?_⟩
            rotate_left 2
            · (intro w hSw; clear hSw; go_simp; try with_reducible rfl)
            · ((try simp only [Act.put, List.setIfInBounds_toArray, List.set_cons_zero, List.set_cons_succ]); exact rfl)
            refine Rg.tk (i := 4) rfl hp ?_
            refine ⟨?_, ?_, by kernel_rfl, by kernel_rfl, by kernel_rfl, Or.inl ⟨by rfl, ?_⟩, hH0, ?_, ?_⟩
            rotate_left 2
            · (intro w hSw; clear hSw; go_simp; try with_reducible rfl)
            · ((try simp only [Act.put, List.setIfInBounds_toArray, List.set_cons_zero, List.set_cons_succ]); exact rfl)
            refine Rg.one (i := 1) rfl ⟨by kernel_rfl, by rfl, fun K hK => ?_⟩
            go_simp
            refine (Hput.out _ hT0.out).mono ?_
            rintro x u1 ⟨rfl, hl1⟩
            have HRow1 := hid (hT0.out.below hl1)
            refine hK.out _ _ ?_ (hid ⟨via hH0.out.1 hl1, range_below hl1 hH0.out.2⟩) ?_ (fun hH1 => ?_)
            rotate_left
            · ((try simp only [Act.put, List.setIfInBounds_toArray, List.set_cons_zero, List.set_cons_succ]); exact rfl)
            clear hK K
            refine Rg.tk (i := 5) rfl hp ?_
            refine ⟨?_, ?_, by kernel_rfl, by kernel_rfl, by kernel_rfl, Or.inl ⟨by rfl, ?_⟩, hH1, ?_, ?_⟩
            rotate_left 2
            · (intro w hSw; clear hSw; go_simp; try with_reducible rfl)
            · ((try simp only [Act.put, List.setIfInBounds_toArray, List.set_cons_zero, List.set_cons_succ]); exact rfl)
            refine wpAnyH_done (by kernel_rfl) ?_ _
            refine hn.out _ _ ?_
            have HU : Hid (Below w.heap.size w u1 ∧ u1.there w.heap.size 0 9) := hid ⟨HW1.out.2.1.trans (hH1.out.1.mono (by have := HW1.out.1; omega)), there_below HW1.out.2.2 hH1.out.1⟩
            cases bq with
            | true =>
              go_wp2_with (refine wpList_store_mid rfl 25 _ _ rfl w.heap.size 0 (evF zero none 0) rfl rfl HU.out.2 hi9 (evF_one _ _ _) ?_)
              have hRz := World.rangeAt_setCells_same u1 w.heap.size 0 (evF zero none 0).toList HU.out.2
              have hBz := below_sets HU.out.1 (Nat.le_refl _) (evF zero none 0).toList 0
              generalize (u1.setCells w.heap.size 0 (evF zero none 0).toList) = wf2 at *
              refine bodyPost_ret (res_take _ _ w.heap.size (evF zero none 0) ⟨#[]⟩ 2 rfl rfl rfl hRz rfl) rfl ⟨fun _ => rfl, (fun h => by cases h), hBz⟩
            | false =>
              go_wp2_with fail
              refine Rg.start2 (S := fun w' => Hid (Below w.heap.size w w' ∧ w'.rangeAt B7 0 (evF e A c).toList ∧ w'.there w.heap.size 0 9)) (T := fun w' => Hid (RowI w' A e.vals)) (by kernel_rfl) (fun _ _ _ _ _ h => h) (hid ⟨HU.out.1.drew, hH1.out.2, HU.out.2⟩) (hid HRow1.out) ?_
              intro Q hp hn wz2 hH2 hT2
              refine Rg.tk (i := 0) rfl hp ?_
              refine ⟨_, ?_, by kernel_rfl, by kernel_rfl, by kernel_rfl, yieldsIf_load_mid (by rfl) 25 _ rfl B7 0 rfl (evF e A c).toList _ (fun w hSw => hSw.out.2.1) Try.underlying25 rfl hi9, hH2, ?_, ?_⟩
              rotate_left
              · ((try simp only [Act.put, List.setIfInBounds_toArray, List.set_cons_zero, List.set_cons_succ]); exact rfl)
              refine Rg.tk (i := 1) rfl hp ?_
              refine ⟨?_, ?_, by kernel_rfl, by kernel_rfl, by kernel_rfl, Or.inl ⟨by rfl, ?_⟩, hH2, ?_, ?_⟩
              rotate_left 2
              · (intro w hSw; clear hSw; go_simp; try with_reducible rfl)
              · ((try simp only [Act.put, List.setIfInBounds_toArray, List.set_cons_zero, List.set_cons_succ]); exact rfl)
              refine Rg.tk (i := 2) rfl hp ?_
              refine ⟨?_, ?_, by kernel_rfl, by kernel_rfl, by kernel_rfl, Or.inl ⟨by rfl, ?_⟩, hH2, ?_, ?_⟩
              rotate_left 2
              · (intro w hSw; clear hSw; go_simp; try with_reducible rfl)
              · ((try simp only [Act.put, List.setIfInBounds_toArray, List.set_cons_zero, List.set_cons_succ]); exact rfl)
              refine Rg.tk (i := 3) rfl hp ?_
              refine ⟨?_, ?_, by kernel_rfl, by kernel_rfl, by kernel_rfl, Or.inl ⟨by rfl, ?_⟩, hH2, ?_, ?_⟩
              rotate_left 2
              · (intro w hSw; clear hSw; go_simp; try with_reducible rfl)
              · ((try simp only [Act.put, List.setIfInBounds_toArray, List.set_cons_zero, List.set_cons_succ]); exact rfl)
              refine Rg.one (i := 4) rfl ⟨by kernel_rfl, by rfl, fun K hK => ?_⟩
              refine wp_store_mid 25 _ _ rfl w.heap.size 0 (evF e A c) rfl rfl hH2.out.2.2 hi9 (evF_one _ _ _) ?_
              have hB2 := below_sets hH2.out.1 (Nat.le_refl _) (evF e A c).toList 0
              have hR2 := World.rangeAt_setCells_same _ _ _ (evF e A c).toList hH2.out.2.2
              have hR7 := range_sets (C := w.heap.size) (show B7 ≠ w.heap.size by have := HW1.out.1; omega) (evF e A c).toList 0 hH2.out.2.1
              have hT3 := there_sets (evF e A c).toList (Nat.le_refl 9) hH2.out.2.2
              have hRw := row_sets (C := w.heap.size) hT2.out HNe.out (evF e A c).toList 0
              refine hK.out _ _ ?_ (hid ⟨hB2, hR7, hT3⟩) ?_ (fun hHF2 => ?_)
              rotate_left
              · ((try simp only [Act.put, List.setIfInBounds_toArray, List.set_cons_zero, List.set_cons_succ]); exact rfl)
              clear hK K
              refine Rg.tk (i := 5) rfl hp ?_
              refine ⟨?_, ?_, by kernel_rfl, by kernel_rfl, by kernel_rfl, Or.inl ⟨by rfl, ?_⟩, hHF2, ?_, ?_⟩
              rotate_left 2
              · (intro w hSw; clear hSw; go_simp; try with_reducible rfl)
              · ((try simp only [Act.put, List.setIfInBounds_toArray, List.set_cons_zero, List.set_cons_succ]); exact rfl)
              refine Rg.tk (i := 6) rfl hp ?_
              refine ⟨?_, ?_, by kernel_rfl, by kernel_rfl, by kernel_rfl, Or.inl ⟨by rfl, ?_⟩, hHF2, ?_, ?_⟩
              rotate_left 2
              · (intro w hSw; clear hSw; go_simp; try with_reducible rfl)
              · ((try simp only [Act.put, List.setIfInBounds_toArray, List.set_cons_zero, List.set_cons_succ]); exact rfl)
              refine wpAnyH_done (by kernel_rfl) ?_ _
              refine hn.out _ _ ?_
              generalize (wz2.setCells w.heap.size 0 (evF e A c).toList) = wf2 at *
              go_wp2_with fail
              refine bodyPost_ret (res_take _ _ w.heap.size (evF e A c) (s.extract (17 + 4 * k) s.size) 0 rfl rfl rfl hR2 rfl) rfl ⟨(fun h => by cases h), fun _ => ⟨A, c, rfl, hRw, HFr.out⟩, hB2⟩

    · skip
      go_simp
      refine hK.out _ _ ?_ (hid (hH1.out.alloc hH1.out.size _)) ?_ (fun hH4 => ?_)
      rotate_left
      · ((try simp only [Act.put, List.setIfInBounds_toArray, List.set_cons_zero, List.set_cons_succ]); exact rfl)
      clear hK K
      refine Rg.one (i := 26) rfl ⟨by kernel_rfl, by rfl, fun K hK => ?_⟩
      go_simp
      refine (from8 hx8 hc1 hc2 (bytesAt_below hby (grow _ _))).mono ?_
      rintro x w' ⟨rfl, rfl⟩
      rw [hnn]
      refine hK.out _ _ ?_ (hH4) ?_ (fun hH5 => ?_)
      rotate_left
      · ((try simp only [Act.put, List.setIfInBounds_toArray, List.set_cons_zero, List.set_cons_succ]); exact rfl)
      clear hK K
      refine Rg.tk (i := 30) rfl hp ?_
      refine ⟨?_, ?_, by kernel_rfl, by kernel_rfl, by kernel_rfl, Or.inl ⟨by rfl, ?_⟩, hH5, ?_, ?_⟩
      rotate_left 2
      · (intro w hSw; clear hSw; go_simp; try with_reducible rfl)
      · ((try simp only [Act.put, List.setIfInBounds_toArray, List.set_cons_zero, List.set_cons_succ]); exact rfl)
      refine Rg.one (i := 32) rfl ⟨by kernel_rfl, by rfl, fun K hK => ?_⟩
      have hT7 := there_new v1 #[.int .i64 0, .int .i64 0, .int .i64 0, .int .i64 0, .int .i64 0, .int .i64 0, .int .u64 0, .bool false, .slice none 0 0] 25 9 (by decide)
      have hB7 : w1.heap.size ≤ v1.heap.size := by have := hH1.out.size; omega
      refine wp_store_mid 25 _ _ rfl (v1.heap.size) 0 (evF (parse0 x0 x1 x2 x3 x4 x5 x6 nn x15) none 0) rfl rfl hT7 hi9 (evF_one _ _ _) ?_
      have hBF := hid (below_sets hH5.out hB7 (evF (parse0 x0 x1 x2 x3 x4 x5 x6 nn x15) none 0).toList 0)
      have hRF := hid (World.rangeAt_setCells_same _ _ _ (evF (parse0 x0 x1 x2 x3 x4 x5 x6 nn x15) none 0).toList hT7)
      have hTF := hid (there_sets (evF (parse0 x0 x1 x2 x3 x4 x5 x6 nn x15) none 0).toList (Nat.le_refl 9) hT7)
      have hLF := there_lt hTF.out
      refine hK.out _ _ ?_ (hBF) ?_ (fun hHF => ?_)
      rotate_left
      · ((try simp only [Act.put, List.setIfInBounds_toArray, List.set_cons_zero, List.set_cons_succ]); exact rfl)
      clear hK K
      refine wpAnyH_done (by kernel_rfl) ?_ _
      refine hn.out _ _ ?_
      obtain ⟨B7, hB7e⟩ : ∃ B7, v1.heap.size = B7 := ⟨_, rfl⟩
      rw [hB7e] at hHF hRF hTF hLF hB7 ⊢
      obtain ⟨wf, hwf⟩ : ∃ wf, World.setCells (v1.alloc (.cells #[.int .i64 0, .int .i64 0, .int .i64 0, .int .i64 0, .int .i64 0, .int .i64 0, .int .u64 0, .bool false, .slice none 0 0] 25 (0, 0))) B7 0 (evF (parse0 x0 x1 x2 x3 x4 x5 x6 nn x15) none 0).toList = wf := ⟨_, rfl⟩
      rw [hwf] at hHF hRF hTF hLF ⊢
      have HB0 := hHF
      clear hn hp hT7 hBF hrun hby hlv hc1 hc2 hlt
      as_aux_lemma =>
        go_wp2_with fail
        go_loopw [8] (fun i wr => ∃ (k : Nat) (v : Value), k ≤ m ∧ i = .int .i64 (17 + 4 * (k : Int)) ∧ Below w1.heap.size w1 wr ∧ wr.rangeAt B7 0 [.int .i64 x0, .int .i64 (x1 * 256 + x2), .int .i64 x3, .int .i64 x4, .int .i64 x5, .int .i64 x6, .int .u64 (nn : Int), .bool (x15 == 1), v] ∧ wr.there B7 0 9 ∧ wr.ownsRow (B7 + 1) 3 1 v k (ints (vals (nums s) 17 k)) ∧ B7 < wr.heap.size) (fun i _ => 17 + 4 * m - (intOf i).toNat)
        case atStart => exact ⟨0, _, Nat.zero_le _, rfl, HB0.out, hRF.out, hTF.out, World.ownsRow_nil _ _ _ _, hLF⟩
        case round =>
          obtain ⟨k, v, hk, rfl, hB, hR, hT, hO, hL⟩ := hrel
          have HB := hid hB
          have HR := hid hR
          have HT := hid hT
          have HO := hid hO
          have HL := hid hL
          clear hB hR hT hO hL
          by_cases hlt : k < m
          · have c0 : (17 + 4 * (k : Int)) < 17 + 4 * (m : Int) := by omega
            have c1 : 0 ≤ 17 + 4 * (k : Int) := by omega
            have c2 : 17 + 4 * (k : Int) ≤ 17 + 4 * (k : Int) + 4 := by omega
            have c3 : 17 + 4 * (k : Int) + 4 ≤ (s.size : Int) := by omega
            have c4 : (17 + 4 * (k : Int)).toNat = 17 + 4 * k := by omega
            have c5 : (17 + 4 * (k : Int) + 4).toNat = 17 + 4 * k + 4 := by omega
            have c6 : IntKind.i64.wrap (17 + 4 * (k : Int) + 4) = 17 + 4 * (k : Int) + 4 := wraps_i64 _ (by omega) (by omega)
            have c7 : 0 ≤ 17 + 4 * (k : Int) + 4 := by omega
            have Hval := hid fun w => val_calls s (17 + 4 * k) (by omega) w
            obtain ⟨y, hy⟩ : ∃ y, Cod.val (((nums s).drop (17 + 4 * k)).take 4) = y := ⟨_, rfl⟩
            rw [hy] at Hval
            have Hy := hid hy
            clear hy
            go_wp2_with fail
            refine Rg.start2 (S := fun w' => Hid (Below w1.heap.size w1 w')) (T := fun w' => Hid (w'.rangeAt B7 0 [.int .i64 x0, .int .i64 (x1 * 256 + x2), .int .i64 x3, .int .i64 x4, .int .i64 x5, .int .i64 x6, .int .u64 (nn : Int), .bool (x15 == 1), v] ∧ w'.there B7 0 9 ∧ w'.ownsRow (B7 + 1) 3 1 v k (ints (vals (nums s) 17 k)) ∧ B7 < w'.heap.size)) (by kernel_rfl) (fun _ _ _ _ _ h => h) (hid HB.out.drew) (hid ⟨HR.out, HT.out, HO.out, HL.out⟩) ?_
            intro Q hp hn wz hH0 hT0
            refine Rg.tk (i := 0) rfl hp ?_
            refine ⟨?_, ?_, by kernel_rfl, by kernel_rfl, by kernel_rfl, Or.inl ⟨by rfl, ?_⟩, hH0, ?_, ?_⟩
            rotate_left 2
            · (intro w hSw; clear hSw; go_simp; try with_reducible rfl)
            · ((try simp only [Act.put, List.setIfInBounds_toArray, List.set_cons_zero, List.set_cons_succ]); exact rfl)
            refine Rg.tk (i := 2) rfl hp ?_
            refine ⟨?_, ?_, by kernel_rfl, by kernel_rfl, by kernel_rfl, Or.inl ⟨by rfl, ?_⟩, hH0, ?_, ?_⟩
            rotate_left 2
            · (intro w hSw; clear hSw; go_simp; try with_reducible rfl)
            · ((try simp only [Act.put, List.setIfInBounds_toArray, List.set_cons_zero, List.set_cons_succ]); exact rfl)
            refine Rg.tk (i := 3) rfl hp ?_
            refine ⟨?_, ?_, by kernel_rfl, by kernel_rfl, by kernel_rfl, Or.inl ⟨by rfl, ?_⟩, hH0, ?_, ?_⟩
            rotate_left 2
            · (intro w hSw; clear hSw; go_simp; try with_reducible rfl)
            · ((try simp only [Act.put, List.setIfInBounds_toArray, List.set_cons_zero, List.set_cons_succ]); exact rfl)
            refine Rg.tk (i := 4) rfl hp ?_
            refine ⟨?_, ?_, by kernel_rfl, by kernel_rfl, by kernel_rfl, Or.inl ⟨by rfl, ?_⟩, hH0, ?_, ?_⟩
            rotate_left 2
            · (intro w hSw; clear hSw; go_simp; try with_reducible rfl)
            · ((try simp only [Act.put, List.setIfInBounds_toArray, List.set_cons_zero, List.set_cons_succ]); exact rfl)
            refine Rg.tk (i := 5) rfl hp ?_
            refine ⟨?_, ?_, by kernel_rfl, by kernel_rfl, by kernel_rfl, Or.inl ⟨by rfl, ?_⟩, hH0, ?_, ?_⟩
            rotate_left 2
            · (intro w hSw; clear hSw; go_simp; try with_reducible rfl)
            · ((try simp only [Act.put, List.setIfInBounds_toArray, List.set_cons_zero, List.set_cons_succ]); exact rfl)
            refine Rg.tk (i := 6) rfl hp ?_
            refine ⟨?_, ?_, by kernel_rfl, by kernel_rfl, by kernel_rfl, Or.inl ⟨by rfl, ?_⟩, hH0, ?_, ?_⟩
            rotate_left 2
            · (intro w hSw; clear hSw; go_simp; try with_reducible rfl)
            · ((try simp only [Act.put, List.setIfInBounds_toArray, List.set_cons_zero, List.set_cons_succ]); exact rfl)
            refine Rg.two (i := 1) (j := 7) rfl rfl ⟨by kernel_rfl, by rfl, by rfl⟩ (fun K hK => ?_) (fun K hK => ?_)
            · skip
              have c8_1 : (wz).cell? ⟨B7, 8, none⟩ = some v := by have := (hT0.out).1 8 v rfl; rwa [Nat.zero_add] at this
              go_simp
              clear c8_1
              refine hK.out _ _ ?_ (hH0) ?_ (fun hH1 => ?_)
              rotate_left
              · ((try simp only [Act.put, List.setIfInBounds_toArray, List.set_cons_zero, List.set_cons_succ]); exact rfl)
              clear hK K
              refine Rg.one (i := 7) rfl ⟨by kernel_rfl, by rfl, fun K hK => ?_⟩
              go_simp
              refine (Hval.out _).mono ?_
              rintro x u2 ⟨rfl, hl2⟩
              refine hK.out _ _ ?_ (hid (via hH1.out hl2)) ?_ (fun hH2 => ?_)
              rotate_left
              · ((try simp only [Act.put, List.setIfInBounds_toArray, List.set_cons_zero, List.set_cons_succ]); exact rfl)
              clear hK K
              refine Rg.one (i := 8) rfl ⟨by kernel_rfl, by rfl, fun K hK => ?_⟩
              go_simp
              refine hK.out _ _ ?_ (hid (hH2.out.alloc hH2.out.size _)) ?_ (fun hH3 => ?_)
              rotate_left
              · ((try simp only [Act.put, List.setIfInBounds_toArray, List.set_cons_zero, List.set_cons_succ]); exact rfl)
              clear hK K
              refine Rg.one (i := 9) rfl ⟨by kernel_rfl, by rfl, fun K hK => ?_⟩
              have hT := tfacts_below (tfacts_below (hT0.out) hl2) (grow u2 (.cells #[.int .i64 y] 3 (0, 0)))
              refine wp_append_own _ _ _ 23 rfl (B7 + 1) 3 j0 (.int .i64 0) 1 8 Try.underlying23 j1 j2 j3 j4 rfl (by decide) v k (ints (vals (nums s) 17 k)) rfl hT.2.2.1 ⟨u2.heap.size, 0, none⟩ 1 1 [.int .i64 y] rfl rfl (fun j u hj => by rw [Addr.add_mid]; exact (range_new u2 #[.int .i64 y] 3) j u hj) (by intro u hu; simp at hu; subst hu; rfl) (by unfold maxLen; omega) (by omega) (by have := hT.2.2.2; omega) ?_
              intro v' wn hown hgrow _
              have hne : some B7 ≠ v.ownBlock := by intro hq; have := (hT.2.2.1.lt B7 hq.symm).1; omega
              have hRn := range_grown hgrow hne hT.1
              have hTn := there_grown hgrow hne hT.2.1
              have hbw := below_grown hH3.out hgrow (fun gg hg => by have := (hT.2.2.1.lt gg hg).1; omega)
              obtain ⟨A', c', hvs⟩ := owns_slice hown
              subst hvs
              have hown2 := hid hown
              have hlt2 : B7 < wn.heap.size := there_lt hTn
              clear hown hgrow
              refine hK.out _ _ ?_ (hid hbw) ?_ (fun hH4 => ?_)
              rotate_left
              · ((try simp only [Act.put, List.setIfInBounds_toArray, List.set_cons_zero, List.set_cons_succ]); exact rfl)
              clear hK K
              refine Rg.tk (i := 10) rfl hp ?_
              refine ⟨?_, ?_, by kernel_rfl, by kernel_rfl, by kernel_rfl, Or.inl ⟨by rfl, ?_⟩, hH4, ?_, ?_⟩
              rotate_left 2
              · (intro w hSw; clear hSw; go_simp; try with_reducible rfl)
              · ((try simp only [Act.put, List.setIfInBounds_toArray, List.set_cons_zero, List.set_cons_succ]); exact rfl)
              refine Rg.one (i := 11) rfl ⟨by kernel_rfl, by rfl, fun K hK => ?_⟩
              have hc8 : wn.cell? ⟨B7, 8, none⟩ = some v := by have := hRn 8 v rfl; rwa [Nat.zero_add] at this
              have hf8 : wn.frozen? ⟨B7, 8, none⟩ = false := by have := (hTn 8 (by omega)).2; rwa [Nat.zero_add] at this
              go_simp
              have hRF := hid (range_set8 (.slice A' (k + 1) c') hRn)
              have hTF := hid (there_set (v := (.slice A' (k + 1) c')) (i := 8) hTn)
              have hOF := hid (owns_set (v := (.slice A' (k + 1) c')) (i := 8) hown2.out (Nat.lt_succ_self B7))
              have hLF : Hid (B7 < (wn.setCell ⟨B7, 8, none⟩ (.slice A' (k + 1) c')).heap.size) := hid (there_lt hTF.out)
              refine hK.out _ _ ?_ (hid (hH4.out.setCell (show w1.heap.size ≤ (⟨B7, 8, none⟩ : Addr).block from hB7) (.slice A' (k + 1) c'))) ?_ (fun hHF => ?_)
              rotate_left
              · ((try simp only [Act.put, List.setIfInBounds_toArray, List.set_cons_zero, List.set_cons_succ]); exact rfl)
              clear hK K
              refine wpAnyH_done (by kernel_rfl) ?_ _
              refine hn.out _ _ ?_
              go_wp2_with fail
              go_roundw
              case rel => exact ⟨k + 1, _, by omega, by rw [show (17 : Int) + 4 * (k : Int) + 4 = 17 + 4 * ((k + 1 : Nat) : Int) from by omega], hHF.out, hRF.out, hTF.out, by rw [show vals (nums s) 17 (k + 1) = vals (nums s) 17 k ++ [Cod.val (((nums s).drop (17 + 4 * k)).take 4)] from rfl, Hy.out, ints_append]; exact hOF.out, hLF.out⟩
              case measure => simp [intOf]; omega
            · skip
              go_simp
              refine (Hval.out _).mono ?_
              rintro x u5 ⟨rfl, hl5⟩
              refine hK.out _ _ ?_ (hid (via hH0.out hl5)) ?_ (fun hH5 => ?_)
              rotate_left
              · ((try simp only [Act.put, List.setIfInBounds_toArray, List.set_cons_zero, List.set_cons_succ]); exact rfl)
              clear hK K
              refine Rg.two (i := 1) (j := 8) rfl rfl ⟨by kernel_rfl, by rfl, by rfl⟩ (fun K hK => ?_) (fun K hK => ?_)
              · skip
                have c8_6 : (u5).cell? ⟨B7, 8, none⟩ = some v := by have := (tfacts_below (hT0.out) hl5).1 8 v rfl; rwa [Nat.zero_add] at this
                go_simp
                clear c8_6
                refine hK.out _ _ ?_ (hH5) ?_ (fun hH6 => ?_)
                rotate_left
                · ((try simp only [Act.put, List.setIfInBounds_toArray, List.set_cons_zero, List.set_cons_succ]); exact rfl)
                clear hK K
                refine Rg.one (i := 8) rfl ⟨by kernel_rfl, by rfl, fun K hK => ?_⟩
                go_simp
                refine hK.out _ _ ?_ (hid (hH6.out.alloc hH6.out.size _)) ?_ (fun hH7 => ?_)
                rotate_left
                · ((try simp only [Act.put, List.setIfInBounds_toArray, List.set_cons_zero, List.set_cons_succ]); exact rfl)
                clear hK K
                refine Rg.one (i := 9) rfl ⟨by kernel_rfl, by rfl, fun K hK => ?_⟩
                have hT := tfacts_below (tfacts_below (hT0.out) hl5) (grow u5 (.cells #[.int .i64 y] 3 (0, 0)))
                refine wp_append_own _ _ _ 23 rfl (B7 + 1) 3 j0 (.int .i64 0) 1 8 Try.underlying23 j1 j2 j3 j4 rfl (by decide) v k (ints (vals (nums s) 17 k)) rfl hT.2.2.1 ⟨u5.heap.size, 0, none⟩ 1 1 [.int .i64 y] rfl rfl (fun j u hj => by rw [Addr.add_mid]; exact (range_new u5 #[.int .i64 y] 3) j u hj) (by intro u hu; simp at hu; subst hu; rfl) (by unfold maxLen; omega) (by omega) (by have := hT.2.2.2; omega) ?_
                intro v' wn hown hgrow _
                have hne : some B7 ≠ v.ownBlock := by intro hq; have := (hT.2.2.1.lt B7 hq.symm).1; omega
                have hRn := range_grown hgrow hne hT.1
                have hTn := there_grown hgrow hne hT.2.1
                have hbw := below_grown hH7.out hgrow (fun gg hg => by have := (hT.2.2.1.lt gg hg).1; omega)
                obtain ⟨A', c', hvs⟩ := owns_slice hown
                subst hvs
                have hown2 := hid hown
                have hlt2 : B7 < wn.heap.size := there_lt hTn
                clear hown hgrow
                refine hK.out _ _ ?_ (hid hbw) ?_ (fun hH8 => ?_)
                rotate_left
                · ((try simp only [Act.put, List.setIfInBounds_toArray, List.set_cons_zero, List.set_cons_succ]); exact rfl)
                clear hK K
                refine Rg.tk (i := 10) rfl hp ?_
                refine ⟨?_, ?_, by kernel_rfl, by kernel_rfl, by kernel_rfl, Or.inl ⟨by rfl, ?_⟩, hH8, ?_, ?_⟩
                rotate_left 2
                · (intro w hSw; clear hSw; go_simp; try with_reducible rfl)
                · ((try simp only [Act.put, List.setIfInBounds_toArray, List.set_cons_zero, List.set_cons_succ]); exact rfl)
                refine Rg.one (i := 11) rfl ⟨by kernel_rfl, by rfl, fun K hK => ?_⟩
                have hc8 : wn.cell? ⟨B7, 8, none⟩ = some v := by have := hRn 8 v rfl; rwa [Nat.zero_add] at this
                have hf8 : wn.frozen? ⟨B7, 8, none⟩ = false := by have := (hTn 8 (by omega)).2; rwa [Nat.zero_add] at this
                go_simp
                have hRF := hid (range_set8 (.slice A' (k + 1) c') hRn)
                have hTF := hid (there_set (v := (.slice A' (k + 1) c')) (i := 8) hTn)
                have hOF := hid (owns_set (v := (.slice A' (k + 1) c')) (i := 8) hown2.out (Nat.lt_succ_self B7))
                have hLF : Hid (B7 < (wn.setCell ⟨B7, 8, none⟩ (.slice A' (k + 1) c')).heap.size) := hid (there_lt hTF.out)
                refine hK.out _ _ ?_ (hid (hH8.out.setCell (show w1.heap.size ≤ (⟨B7, 8, none⟩ : Addr).block from hB7) (.slice A' (k + 1) c'))) ?_ (fun hHF => ?_)
                rotate_left
                · ((try simp only [Act.put, List.setIfInBounds_toArray, List.set_cons_zero, List.set_cons_succ]); exact rfl)
                clear hK K
                refine wpAnyH_done (by kernel_rfl) ?_ _
                refine hn.out _ _ ?_
                go_wp2_with fail
                go_roundw
                case rel => exact ⟨k + 1, _, by omega, by rw [show (17 : Int) + 4 * (k : Int) + 4 = 17 + 4 * ((k + 1 : Nat) : Int) from by omega], hHF.out, hRF.out, hTF.out, by rw [show vals (nums s) 17 (k + 1) = vals (nums s) 17 k ++ [Cod.val (((nums s).drop (17 + 4 * k)).take 4)] from rfl, Hy.out, ints_append]; exact hOF.out, hLF.out⟩
                case measure => simp [intOf]; omega
              · skip
                go_simp
                refine hK.out _ _ ?_ (hid (hH5.out.alloc hH5.out.size _)) ?_ (fun hH9 => ?_)
                rotate_left
                · ((try simp only [Act.put, List.setIfInBounds_toArray, List.set_cons_zero, List.set_cons_succ]); exact rfl)
                clear hK K
                refine Rg.one (i := 1) rfl ⟨by kernel_rfl, by rfl, fun K hK => ?_⟩
                have c8_10 : ((u5.alloc (.cells #[.int .i64 y] 3 (0, 0)))).cell? ⟨B7, 8, none⟩ = some v := by have := (tfacts_below (tfacts_below (hT0.out) hl5) (grow u5 (.cells #[.int .i64 y] 3 (0, 0)))).1 8 v rfl; rwa [Nat.zero_add] at this
                go_simp
                clear c8_10
                refine hK.out _ _ ?_ (hH9) ?_ (fun hH10 => ?_)
                rotate_left
                · ((try simp only [Act.put, List.setIfInBounds_toArray, List.set_cons_zero, List.set_cons_succ]); exact rfl)
                clear hK K
                refine Rg.one (i := 9) rfl ⟨by kernel_rfl, by rfl, fun K hK => ?_⟩
                have hT := tfacts_below (tfacts_below (hT0.out) hl5) (grow u5 (.cells #[.int .i64 y] 3 (0, 0)))
                refine wp_append_own _ _ _ 23 rfl (B7 + 1) 3 j0 (.int .i64 0) 1 8 Try.underlying23 j1 j2 j3 j4 rfl (by decide) v k (ints (vals (nums s) 17 k)) rfl hT.2.2.1 ⟨u5.heap.size, 0, none⟩ 1 1 [.int .i64 y] rfl rfl (fun j u hj => by rw [Addr.add_mid]; exact (range_new u5 #[.int .i64 y] 3) j u hj) (by intro u hu; simp at hu; subst hu; rfl) (by unfold maxLen; omega) (by omega) (by have := hT.2.2.2; omega) ?_
                intro v' wn hown hgrow _
                have hne : some B7 ≠ v.ownBlock := by intro hq; have := (hT.2.2.1.lt B7 hq.symm).1; omega
                have hRn := range_grown hgrow hne hT.1
                have hTn := there_grown hgrow hne hT.2.1
                have hbw := below_grown hH10.out hgrow (fun gg hg => by have := (hT.2.2.1.lt gg hg).1; omega)
                obtain ⟨A', c', hvs⟩ := owns_slice hown
                subst hvs
                have hown2 := hid hown
                have hlt2 : B7 < wn.heap.size := there_lt hTn
                clear hown hgrow
                refine hK.out _ _ ?_ (hid hbw) ?_ (fun hH11 => ?_)
                rotate_left
                · ((try simp only [Act.put, List.setIfInBounds_toArray, List.set_cons_zero, List.set_cons_succ]); exact rfl)
                clear hK K
                refine Rg.tk (i := 10) rfl hp ?_
                refine ⟨?_, ?_, by kernel_rfl, by kernel_rfl, by kernel_rfl, Or.inl ⟨by rfl, ?_⟩, hH11, ?_, ?_⟩
                rotate_left 2
                · (intro w hSw; clear hSw; go_simp; try with_reducible rfl)
                · ((try simp only [Act.put, List.setIfInBounds_toArray, List.set_cons_zero, List.set_cons_succ]); exact rfl)
                refine Rg.one (i := 11) rfl ⟨by kernel_rfl, by rfl, fun K hK => ?_⟩
                have hc8 : wn.cell? ⟨B7, 8, none⟩ = some v := by have := hRn 8 v rfl; rwa [Nat.zero_add] at this
                have hf8 : wn.frozen? ⟨B7, 8, none⟩ = false := by have := (hTn 8 (by omega)).2; rwa [Nat.zero_add] at this
                go_simp
                have hRF := hid (range_set8 (.slice A' (k + 1) c') hRn)
                have hTF := hid (there_set (v := (.slice A' (k + 1) c')) (i := 8) hTn)
                have hOF := hid (owns_set (v := (.slice A' (k + 1) c')) (i := 8) hown2.out (Nat.lt_succ_self B7))
                have hLF : Hid (B7 < (wn.setCell ⟨B7, 8, none⟩ (.slice A' (k + 1) c')).heap.size) := hid (there_lt hTF.out)
                refine hK.out _ _ ?_ (hid (hH11.out.setCell (show w1.heap.size ≤ (⟨B7, 8, none⟩ : Addr).block from hB7) (.slice A' (k + 1) c'))) ?_ (fun hHF => ?_)
                rotate_left
                · ((try simp only [Act.put, List.setIfInBounds_toArray, List.set_cons_zero, List.set_cons_succ]); exact rfl)
                clear hK K
                refine wpAnyH_done (by kernel_rfl) ?_ _
                refine hn.out _ _ ?_
                go_wp2_with fail
                go_roundw
                case rel => exact ⟨k + 1, _, by omega, by rw [show (17 : Int) + 4 * (k : Int) + 4 = 17 + 4 * ((k + 1 : Nat) : Int) from by omega], hHF.out, hRF.out, hTF.out, by rw [show vals (nums s) 17 (k + 1) = vals (nums s) 17 k ++ [Cod.val (((nums s).drop (17 + 4 * k)).take 4)] from rfl, Hy.out, ints_append]; exact hOF.out, hLF.out⟩
                case measure => simp [intOf]; omega
          · obtain rfl : k = m := by omega
            obtain ⟨A, c, rfl, hrow⟩ := owns_int HO.out (vals_len _ _ _)
            have HNe : Hid (∀ b o, A = some ⟨b, o, none⟩ → b ≠ w.heap.size) := by
              intro b o hA
              have := HW1.out.1
              have := (HO.out.lt b (by rw [hA]; rfl)).1
              omega
            have HFr : Hid (∀ b o, A = some ⟨b, o, none⟩ → w.heap.size ≤ b) := by
              intro b o hA
              have := HW1.out.1
              have := (HO.out.lt b (by rw [hA]; rfl)).1
              omega
            have HRe : Hid (wr.rangeAt B7 0 (evF e A c).toList) := by
              show World.rangeAt _ _ _ _
              rw [he.out]
              exact HR.out
            have HRow : Hid (RowI wr A e.vals) := by
              show RowI _ _ _
              rw [he.out]
              exact hrow
            have hvl2 : Hid (e.vals.length = k) := by show e.vals.length = k; rw [he.out]; exact vals_len _ _ _
            have Hput := hid fun w (hr : RowI w A e.vals) => put_calls e A c w hfit (by rw [hvl2.out]; omega) hr
            clear hrow HR HO
            have hbq : ((strOfNums (put e)).toList == (s.extract 0 (17 + 4 * k)).toList) = !bq := by
              rw [← beq_toListBytes]
              have := HBQ.out
              unfold bne at this
              rw [← this, Bool.not_not]
            have e1 : (17 + 4 * (k : Int)).toNat = 17 + 4 * k := by omega
            have e2 : 0 ≤ 17 + 4 * (k : Int) := by omega
            go_wp2_with fail
            refine Rg.start2 (S := fun w' => Hid (Below w1.heap.size w1 w' ∧ w'.rangeAt B7 0 (evF e A c).toList)) (T := fun w' => Hid (RowI w' A e.vals)) (by kernel_rfl) (fun _ _ _ _ _ h => h) (hid ⟨HB.out.drew, HRe.out⟩) (hid HRow.out) ?_
            intro Q hp hn wz hH0 hT0
            refine Rg.tk (i := 0) rfl hp ?_
            refine ⟨_, ?_, by kernel_rfl, by kernel_rfl, by kernel_rfl, yieldsIf_load_mid (by rfl) 25 _ rfl B7 0 rfl (evF e A c).toList _ (fun w hSw => hSw.out.2) Try.underlying25 rfl hi9, hH0, ?_, ?_⟩
            rotate_left
            · ((try simp only [Act.put, List.setIfInBounds_toArray, List.set_cons_zero, List.set_cons_succ]); exact rfl)
            refine Rg.tk (i := 2) rfl hp ?_
            refine ⟨?_, ?_, by kernel_rfl, by kernel_rfl, by kernel_rfl, Or.inl ⟨by rfl, ?_⟩, hH0, ?_, ?_⟩
            rotate_left 2
            · (intro w hSw; clear hSw; go_simp; try with_reducible rfl)
            · ((try simp only [Act.put, List.setIfInBounds_toArray, List.set_cons_zero, List.set_cons_succ]); exact rfl)
            refine Rg.tk (i := 3) rfl hp ?_
            refine ⟨?_, ?_, by kernel_rfl, by kernel_rfl, by kernel_rfl, Or.inl ⟨by rfl, ?_⟩, hH0, ?_, ?_⟩
            rotate_left 2
            · (intro w hSw; clear hSw; go_simp; try with_reducible rfl)
            · ((try simp only [Act.put, List.setIfInBounds_toArray, List.set_cons_zero, List.set_cons_succ]); exact rfl)
            refine Rg.tk (i := 4) rfl hp ?_
            refine ⟨?_, ?_, by kernel_rfl, by kernel_rfl, by kernel_rfl, Or.inl ⟨by rfl, ?_⟩, hH0, ?_, ?_⟩
            rotate_left 2
            · (intro w hSw; clear hSw; go_simp; try with_reducible rfl)
            · ((try simp only [Act.put, List.setIfInBounds_toArray, List.set_cons_zero, List.set_cons_succ]); exact rfl)
            refine Rg.one (i := 1) rfl ⟨by kernel_rfl, by rfl, fun K hK => ?_⟩
            go_simp
            refine (Hput.out _ hT0.out).mono ?_
            rintro x u1 ⟨rfl, hl1⟩
            have HRow1 := hid (hT0.out.below hl1)
            refine hK.out _ _ ?_ (hid ⟨via hH0.out.1 hl1, range_below hl1 hH0.out.2⟩) ?_ (fun hH1 => ?_)
            rotate_left
            · ((try simp only [Act.put, List.setIfInBounds_toArray, List.set_cons_zero, List.set_cons_succ]); exact rfl)
            clear hK K
            refine Rg.tk (i := 5) rfl hp ?_
            refine ⟨?_, ?_, by kernel_rfl, by kernel_rfl, by kernel_rfl, Or.inl ⟨by rfl, ?_⟩, hH1, ?_, ?_⟩
            rotate_left 2
            · (intro w hSw; clear hSw; go_simp; try with_reducible rfl)
            · ((try simp only [Act.put, List.setIfInBounds_toArray, List.set_cons_zero, List.set_cons_succ]); exact rfl)
            refine wpAnyH_done (by kernel_rfl) ?_ _
            refine hn.out _ _ ?_
            have HU : Hid (Below w.heap.size w u1 ∧ u1.there w.heap.size 0 9) := hid ⟨HW1.out.2.1.trans (hH1.out.1.mono (by have := HW1.out.1; omega)), there_below HW1.out.2.2 hH1.out.1⟩
            cases bq with
            | true =>
              go_wp2_with (refine wpList_store_mid rfl 25 _ _ rfl w.heap.size 0 (evF zero none 0) rfl rfl HU.out.2 hi9 (evF_one _ _ _) ?_)
              have hRz := World.rangeAt_setCells_same u1 w.heap.size 0 (evF zero none 0).toList HU.out.2
              have hBz := below_sets HU.out.1 (Nat.le_refl _) (evF zero none 0).toList 0
              generalize (u1.setCells w.heap.size 0 (evF zero none 0).toList) = wf2 at *
              refine bodyPost_ret (res_take _ _ w.heap.size (evF zero none 0) ⟨#[]⟩ 2 rfl rfl rfl hRz rfl) rfl ⟨fun _ => rfl, (fun h => by cases h), hBz⟩
            | false =>
              go_wp2_with fail
              refine Rg.start2 (S := fun w' => Hid (Below w.heap.size w w' ∧ w'.rangeAt B7 0 (evF e A c).toList ∧ w'.there w.heap.size 0 9)) (T := fun w' => Hid (RowI w' A e.vals)) (by kernel_rfl) (fun _ _ _ _ _ h => h) (hid ⟨HU.out.1.drew, hH1.out.2, HU.out.2⟩) (hid HRow1.out) ?_
              intro Q hp hn wz2 hH2 hT2
              refine Rg.tk (i := 0) rfl hp ?_
              refine ⟨_, ?_, by kernel_rfl, by kernel_rfl, by kernel_rfl, yieldsIf_load_mid (by rfl) 25 _ rfl B7 0 rfl (evF e A c).toList _ (fun w hSw => hSw.out.2.1) Try.underlying25 rfl hi9, hH2, ?_, ?_⟩
              rotate_left
              · ((try simp only [Act.put, List.setIfInBounds_toArray, List.set_cons_zero, List.set_cons_succ]); exact rfl)
              refine Rg.tk (i := 1) rfl hp ?_
              refine ⟨?_, ?_, by kernel_rfl, by kernel_rfl, by kernel_rfl, Or.inl ⟨by rfl, ?_⟩, hH2, ?_, ?_⟩
              rotate_left 2
              · (intro w hSw; clear hSw; go_simp; try with_reducible rfl)
              · ((try simp only [Act.put, List.setIfInBounds_toArray, List.set_cons_zero, List.set_cons_succ]); exact rfl)
              refine Rg.tk (i := 2) rfl hp ?_
              refine ⟨?_, ?_, by kernel_rfl, by kernel_rfl, by kernel_rfl, Or.inl ⟨by rfl, ?_⟩, hH2, ?_, ?_⟩
              rotate_left 2
              · (intro w hSw; clear hSw; go_simp; try with_reducible rfl)
              · ((try simp only [Act.put, List.setIfInBounds_toArray, List.set_cons_zero, List.set_cons_succ]); exact rfl)
              refine Rg.tk (i := 3) rfl hp ?_
              refine ⟨?_, ?_, by kernel_rfl, by kernel_rfl, by kernel_rfl, Or.inl ⟨by rfl, ?_⟩, hH2, ?_, ?_⟩
              rotate_left 2
              · (intro w hSw; clear hSw; go_simp; try with_reducible rfl)
              · ((try simp only [Act.put, List.setIfInBounds_toArray, List.set_cons_zero, List.set_cons_succ]); exact rfl)
              refine Rg.one (i := 4) rfl ⟨by kernel_rfl, by rfl, fun K hK => ?_⟩
              refine wp_store_mid 25 _ _ rfl w.heap.size 0 (evF e A c) rfl rfl hH2.out.2.2 hi9 (evF_one _ _ _) ?_
              have hB2 := below_sets hH2.out.1 (Nat.le_refl _) (evF e A c).toList 0
              have hR2 := World.rangeAt_setCells_same _ _ _ (evF e A c).toList hH2.out.2.2
              have hR7 := range_sets (C := w.heap.size) (show B7 ≠ w.heap.size by have := HW1.out.1; omega) (evF e A c).toList 0 hH2.out.2.1
              have hT3 := there_sets (evF e A c).toList (Nat.le_refl 9) hH2.out.2.2
              have hRw := row_sets (C := w.heap.size) hT2.out HNe.out (evF e A c).toList 0
              refine hK.out _ _ ?_ (hid ⟨hB2, hR7, hT3⟩) ?_ (fun hHF2 => ?_)
              rotate_left
              · ((try simp only [Act.put, List.setIfInBounds_toArray, List.set_cons_zero, List.set_cons_succ]); exact rfl)
              clear hK K
              refine Rg.tk (i := 5) rfl hp ?_
              refine ⟨?_, ?_, by kernel_rfl, by kernel_rfl, by kernel_rfl, Or.inl ⟨by rfl, ?_⟩, hHF2, ?_, ?_⟩
              rotate_left 2
              · (intro w hSw; clear hSw; go_simp; try with_reducible rfl)
              · ((try simp only [Act.put, List.setIfInBounds_toArray, List.set_cons_zero, List.set_cons_succ]); exact rfl)
              refine Rg.tk (i := 6) rfl hp ?_
              refine ⟨?_, ?_, by kernel_rfl, by kernel_rfl, by kernel_rfl, Or.inl ⟨by rfl, ?_⟩, hHF2, ?_, ?_⟩
              rotate_left 2
              · (intro w hSw; clear hSw; go_simp; try with_reducible rfl)
              · ((try simp only [Act.put, List.setIfInBounds_toArray, List.set_cons_zero, List.set_cons_succ]); exact rfl)
              refine wpAnyH_done (by kernel_rfl) ?_ _
              refine hn.out _ _ ?_
              generalize (wz2.setCells w.heap.size 0 (evF e A c).toList) = wf2 at *
              go_wp2_with fail
              refine bodyPost_ret (res_take _ _ w.heap.size (evF e A c) (s.extract (17 + 4 * k) s.size) 0 rfl rfl rfl hR2 rfl) rfl ⟨(fun h => by cases h), fun _ => ⟨A, c, rfl, hRw, HFr.out⟩, hB2⟩

  · skip
    go_simp
    refine hK.out _ _ ?_ (hid (hH0.out.alloc hH0.out.size _)) ?_ (fun hH6 => ?_)
    rotate_left
    · ((try simp only [Act.put, List.setIfInBounds_toArray, List.set_cons_zero, List.set_cons_succ]); exact rfl)
    clear hK K
    refine Rg.one (i := 25) rfl ⟨by kernel_rfl, by rfl, fun K hK => ?_⟩
    obtain ⟨v7, cap, hrun, hlv, hc1, hc2, hby, hlt⟩ := conv_bytes (s.extract 7 15) (wz.alloc (.cells #[.int .i64 0, .int .i64 0, .int .i64 0, .int .i64 0, .int .i64 0, .int .i64 0, .int .u64 0, .bool false, .slice none 0 0] 25 (0, 0))) (wz.heap.size + 1) (by simp)
    rw [hx8] at hrun hc1 hc2
    refine wp_conv rfl rfl hrun ?_
    refine hK.out _ _ ?_ (hid (via hH6.out hlv)) ?_ (fun hH7 => ?_)
    rotate_left
    · ((try simp only [Act.put, List.setIfInBounds_toArray, List.set_cons_zero, List.set_cons_succ]); exact rfl)
    clear hK K
    refine Rg.one (i := 26) rfl ⟨by kernel_rfl, by rfl, fun K hK => ?_⟩
    go_simp
    refine (from8 hx8 hc1 hc2 (hby)).mono ?_
    rintro x w' ⟨rfl, rfl⟩
    rw [hnn]
    refine hK.out _ _ ?_ (hH7) ?_ (fun hH8 => ?_)
    rotate_left
    · ((try simp only [Act.put, List.setIfInBounds_toArray, List.set_cons_zero, List.set_cons_succ]); exact rfl)
    clear hK K
    refine Rg.tk (i := 30) rfl hp ?_
    refine ⟨?_, ?_, by kernel_rfl, by kernel_rfl, by kernel_rfl, Or.inl ⟨by rfl, ?_⟩, hH8, ?_, ?_⟩
    rotate_left 2
    · (intro w hSw; clear hSw; go_simp; try with_reducible rfl)
    · ((try simp only [Act.put, List.setIfInBounds_toArray, List.set_cons_zero, List.set_cons_succ]); exact rfl)
    refine Rg.one (i := 32) rfl ⟨by kernel_rfl, by rfl, fun K hK => ?_⟩
    have hT7 := there_below (there_new wz #[.int .i64 0, .int .i64 0, .int .i64 0, .int .i64 0, .int .i64 0, .int .i64 0, .int .u64 0, .bool false, .slice none 0 0] 25 9 (by decide)) hlv
    have hB7 : w1.heap.size ≤ wz.heap.size := by have := hH0.out.size; omega
    refine wp_store_mid 25 _ _ rfl (wz.heap.size) 0 (evF (parse0 x0 x1 x2 x3 x4 x5 x6 nn x15) none 0) rfl rfl hT7 hi9 (evF_one _ _ _) ?_
    have hBF := hid (below_sets hH8.out hB7 (evF (parse0 x0 x1 x2 x3 x4 x5 x6 nn x15) none 0).toList 0)
    have hRF := hid (World.rangeAt_setCells_same _ _ _ (evF (parse0 x0 x1 x2 x3 x4 x5 x6 nn x15) none 0).toList hT7)
    have hTF := hid (there_sets (evF (parse0 x0 x1 x2 x3 x4 x5 x6 nn x15) none 0).toList (Nat.le_refl 9) hT7)
    have hLF := there_lt hTF.out
    refine hK.out _ _ ?_ (hBF) ?_ (fun hHF => ?_)
    rotate_left
    · ((try simp only [Act.put, List.setIfInBounds_toArray, List.set_cons_zero, List.set_cons_succ]); exact rfl)
    clear hK K
    refine wpAnyH_done (by kernel_rfl) ?_ _
    refine hn.out _ _ ?_
    obtain ⟨B7, hB7e⟩ : ∃ B7, wz.heap.size = B7 := ⟨_, rfl⟩
    rw [hB7e] at hHF hRF hTF hLF hB7 ⊢
    obtain ⟨wf, hwf⟩ : ∃ wf, World.setCells v7 B7 0 (evF (parse0 x0 x1 x2 x3 x4 x5 x6 nn x15) none 0).toList = wf := ⟨_, rfl⟩
    rw [hwf] at hHF hRF hTF hLF ⊢
    have HB0 := hHF
    clear hn hp hT7 hBF hrun hby hlv hc1 hc2 hlt
    as_aux_lemma =>
      go_wp2_with fail
      go_loopw [8] (fun i wr => ∃ (k : Nat) (v : Value), k ≤ m ∧ i = .int .i64 (17 + 4 * (k : Int)) ∧ Below w1.heap.size w1 wr ∧ wr.rangeAt B7 0 [.int .i64 x0, .int .i64 (x1 * 256 + x2), .int .i64 x3, .int .i64 x4, .int .i64 x5, .int .i64 x6, .int .u64 (nn : Int), .bool (x15 == 1), v] ∧ wr.there B7 0 9 ∧ wr.ownsRow (B7 + 1) 3 1 v k (ints (vals (nums s) 17 k)) ∧ B7 < wr.heap.size) (fun i _ => 17 + 4 * m - (intOf i).toNat)
      case atStart => exact ⟨0, _, Nat.zero_le _, rfl, HB0.out, hRF.out, hTF.out, World.ownsRow_nil _ _ _ _, hLF⟩
      case round =>
        obtain ⟨k, v, hk, rfl, hB, hR, hT, hO, hL⟩ := hrel
        have HB := hid hB
        have HR := hid hR
        have HT := hid hT
        have HO := hid hO
        have HL := hid hL
        clear hB hR hT hO hL
        by_cases hlt : k < m
        · have c0 : (17 + 4 * (k : Int)) < 17 + 4 * (m : Int) := by omega
          have c1 : 0 ≤ 17 + 4 * (k : Int) := by omega
          have c2 : 17 + 4 * (k : Int) ≤ 17 + 4 * (k : Int) + 4 := by omega
          have c3 : 17 + 4 * (k : Int) + 4 ≤ (s.size : Int) := by omega
          have c4 : (17 + 4 * (k : Int)).toNat = 17 + 4 * k := by omega
          have c5 : (17 + 4 * (k : Int) + 4).toNat = 17 + 4 * k + 4 := by omega
          have c6 : IntKind.i64.wrap (17 + 4 * (k : Int) + 4) = 17 + 4 * (k : Int) + 4 := wraps_i64 _ (by omega) (by omega)
          have c7 : 0 ≤ 17 + 4 * (k : Int) + 4 := by omega
          have Hval := hid fun w => val_calls s (17 + 4 * k) (by omega) w
          obtain ⟨y, hy⟩ : ∃ y, Cod.val (((nums s).drop (17 + 4 * k)).take 4) = y := ⟨_, rfl⟩
          rw [hy] at Hval
          have Hy := hid hy
          clear hy
          go_wp2_with fail
          refine Rg.start2 (S := fun w' => Hid (Below w1.heap.size w1 w')) (T := fun w' => Hid (w'.rangeAt B7 0 [.int .i64 x0, .int .i64 (x1 * 256 + x2), .int .i64 x3, .int .i64 x4, .int .i64 x5, .int .i64 x6, .int .u64 (nn : Int), .bool (x15 == 1), v] ∧ w'.there B7 0 9 ∧ w'.ownsRow (B7 + 1) 3 1 v k (ints (vals (nums s) 17 k)) ∧ B7 < w'.heap.size)) (by kernel_rfl) (fun _ _ _ _ _ h => h) (hid HB.out.drew) (hid ⟨HR.out, HT.out, HO.out, HL.out⟩) ?_
          intro Q hp hn wz hH0 hT0
          refine Rg.tk (i := 0) rfl hp ?_
          refine ⟨?_, ?_, by kernel_rfl, by kernel_rfl, by kernel_rfl, Or.inl ⟨by rfl, ?_⟩, hH0, ?_, ?_⟩
          rotate_left 2
          · (intro w hSw; clear hSw; go_simp; try with_reducible rfl)
          · ((try simp only [Act.put, List.setIfInBounds_toArray, List.set_cons_zero, List.set_cons_succ]); exact rfl)
          refine Rg.tk (i := 2) rfl hp ?_
          refine ⟨?_, ?_, by kernel_rfl, by kernel_rfl, by kernel_rfl, Or.inl ⟨by rfl, ?_⟩, hH0, ?_, ?_⟩
          rotate_left 2
          · (intro w hSw; clear hSw; go_simp; try with_reducible rfl)
          · ((try simp only [Act.put, List.setIfInBounds_toArray, List.set_cons_zero, List.set_cons_succ]); exact rfl)
          refine Rg.tk (i := 3) rfl hp ?_
          refine ⟨?_, ?_, by kernel_rfl, by kernel_rfl, by kernel_rfl, Or.inl ⟨by rfl, ?_⟩, hH0, ?_, ?_⟩
          rotate_left 2
          · (intro w hSw; clear hSw; go_simp; try with_reducible rfl)
          · ((try simp only [Act.put, List.setIfInBounds_toArray, List.set_cons_zero, List.set_cons_succ]); exact rfl)
          refine Rg.tk (i := 4) rfl hp ?_
          refine ⟨?_, ?_, by kernel_rfl, by kernel_rfl, by kernel_rfl, Or.inl ⟨by rfl, ?_⟩, hH0, ?_, ?_⟩
          rotate_left 2
          · (intro w hSw; clear hSw; go_simp; try with_reducible rfl)
          · ((try simp only [Act.put, List.setIfInBounds_toArray, List.set_cons_zero, List.set_cons_succ]); exact rfl)
          refine Rg.tk (i := 5) rfl hp ?_
          refine ⟨?_, ?_, by kernel_rfl, by kernel_rfl, by kernel_rfl, Or.inl ⟨by rfl, ?_⟩, hH0, ?_, ?_⟩
          rotate_left 2
          · (intro w hSw; clear hSw; go_simp; try with_reducible rfl)
          · ((try simp only [Act.put, List.setIfInBounds_toArray, List.set_cons_zero, List.set_cons_succ]); exact rfl)
          refine Rg.tk (i := 6) rfl hp ?_
          refine ⟨?_, ?_, by kernel_rfl, by kernel_rfl, by kernel_rfl, Or.inl ⟨by rfl, ?_⟩, hH0, ?_, ?_⟩
          rotate_left 2
          · (intro w hSw; clear hSw; go_simp; try with_reducible rfl)
          · ((try simp only [Act.put, List.setIfInBounds_toArray, List.set_cons_zero, List.set_cons_succ]); exact rfl)
          refine Rg.two (i := 1) (j := 7) rfl rfl ⟨by kernel_rfl, by rfl, by rfl⟩ (fun K hK => ?_) (fun K hK => ?_)
          · skip
            have c8_1 : (wz).cell? ⟨B7, 8, none⟩ = some v := by have := (hT0.out).1 8 v rfl; rwa [Nat.zero_add] at this
            go_simp
            clear c8_1
            refine hK.out _ _ ?_ (hH0) ?_ (fun hH1 => ?_)
            rotate_left
            · ((try simp only [Act.put, List.setIfInBounds_toArray, List.set_cons_zero, List.set_cons_succ]); exact rfl)
            clear hK K
            refine Rg.one (i := 7) rfl ⟨by kernel_rfl, by rfl, fun K hK => ?_⟩
            go_simp
            refine (Hval.out _).mono ?_
            rintro x u2 ⟨rfl, hl2⟩
            refine hK.out _ _ ?_ (hid (via hH1.out hl2)) ?_ (fun hH2 => ?_)
            rotate_left
            · ((try simp only [Act.put, List.setIfInBounds_toArray, List.set_cons_zero, List.set_cons_succ]); exact rfl)
            clear hK K
            refine Rg.one (i := 8) rfl ⟨by kernel_rfl, by rfl, fun K hK => ?_⟩
            go_simp
            refine hK.out _ _ ?_ (hid (hH2.out.alloc hH2.out.size _)) ?_ (fun hH3 => ?_)
            rotate_left
            · ((try simp only [Act.put, List.setIfInBounds_toArray, List.set_cons_zero, List.set_cons_succ]); exact rfl)
            clear hK K
            refine Rg.one (i := 9) rfl ⟨by kernel_rfl, by rfl, fun K hK => ?_⟩
            have hT := tfacts_below (tfacts_below (hT0.out) hl2) (grow u2 (.cells #[.int .i64 y] 3 (0, 0)))
            refine wp_append_own _ _ _ 23 rfl (B7 + 1) 3 j0 (.int .i64 0) 1 8 Try.underlying23 j1 j2 j3 j4 rfl (by decide) v k (ints (vals (nums s) 17 k)) rfl hT.2.2.1 ⟨u2.heap.size, 0, none⟩ 1 1 [.int .i64 y] rfl rfl (fun j u hj => by rw [Addr.add_mid]; exact (range_new u2 #[.int .i64 y] 3) j u hj) (by intro u hu; simp at hu; subst hu; rfl) (by unfold maxLen; omega) (by omega) (by have := hT.2.2.2; omega) ?_
            intro v' wn hown hgrow _
            have hne : some B7 ≠ v.ownBlock := by intro hq; have := (hT.2.2.1.lt B7 hq.symm).1; omega
            have hRn := range_grown hgrow hne hT.1
            have hTn := there_grown hgrow hne hT.2.1
            have hbw := below_grown hH3.out hgrow (fun gg hg => by have := (hT.2.2.1.lt gg hg).1; omega)
            obtain ⟨A', c', hvs⟩ := owns_slice hown
            subst hvs
            have hown2 := hid hown
            have hlt2 : B7 < wn.heap.size := there_lt hTn
            clear hown hgrow
            refine hK.out _ _ ?_ (hid hbw) ?_ (fun hH4 => ?_)
            rotate_left
            · ((try simp only [Act.put, List.setIfInBounds_toArray, List.set_cons_zero, List.set_cons_succ]); exact rfl)
            clear hK K
            refine Rg.tk (i := 10) rfl hp ?_
            refine ⟨?_, ?_, by kernel_rfl, by kernel_rfl, by kernel_rfl, Or.inl ⟨by rfl, ?_⟩, hH4, ?_, ?_⟩
            rotate_left 2
            · (intro w hSw; clear hSw; go_simp; try with_reducible rfl)
            · ((try simp only [Act.put, List.setIfInBounds_toArray, List.set_cons_zero, List.set_cons_succ]); exact rfl)
            refine Rg.one (i := 11) rfl ⟨by kernel_rfl, by rfl, fun K hK => ?_⟩
            have hc8 : wn.cell? ⟨B7, 8, none⟩ = some v := by have := hRn 8 v rfl; rwa [Nat.zero_add] at this
            have hf8 : wn.frozen? ⟨B7, 8, none⟩ = false := by have := (hTn 8 (by omega)).2; rwa [Nat.zero_add] at this
            go_simp
            have hRF := hid (range_set8 (.slice A' (k + 1) c') hRn)
            have hTF := hid (there_set (v := (.slice A' (k + 1) c')) (i := 8) hTn)
            have hOF := hid (owns_set (v := (.slice A' (k + 1) c')) (i := 8) hown2.out (Nat.lt_succ_self B7))
            have hLF : Hid (B7 < (wn.setCell ⟨B7, 8, none⟩ (.slice A' (k + 1) c')).heap.size) := hid (there_lt hTF.out)
            refine hK.out _ _ ?_ (hid (hH4.out.setCell (show w1.heap.size ≤ (⟨B7, 8, none⟩ : Addr).block from hB7) (.slice A' (k + 1) c'))) ?_ (fun hHF => ?_)
            rotate_left
            · ((try simp only [Act.put, List.setIfInBounds_toArray, List.set_cons_zero, List.set_cons_succ]); exact rfl)
            clear hK K
            refine wpAnyH_done (by kernel_rfl) ?_ _
            refine hn.out _ _ ?_
            go_wp2_with fail
            go_roundw
            case rel => exact ⟨k + 1, _, by omega, by rw [show (17 : Int) + 4 * (k : Int) + 4 = 17 + 4 * ((k + 1 : Nat) : Int) from by omega], hHF.out, hRF.out, hTF.out, by rw [show vals (nums s) 17 (k + 1) = vals (nums s) 17 k ++ [Cod.val (((nums s).drop (17 + 4 * k)).take 4)] from rfl, Hy.out, ints_append]; exact hOF.out, hLF.out⟩
            case measure => simp [intOf]; omega
          · skip
            go_simp
            refine (Hval.out _).mono ?_
            rintro x u5 ⟨rfl, hl5⟩
            refine hK.out _ _ ?_ (hid (via hH0.out hl5)) ?_ (fun hH5 => ?_)
            rotate_left
            · ((try simp only [Act.put, List.setIfInBounds_toArray, List.set_cons_zero, List.set_cons_succ]); exact rfl)
            clear hK K
            refine Rg.two (i := 1) (j := 8) rfl rfl ⟨by kernel_rfl, by rfl, by rfl⟩ (fun K hK => ?_) (fun K hK => ?_)
            · skip
              have c8_6 : (u5).cell? ⟨B7, 8, none⟩ = some v := by have := (tfacts_below (hT0.out) hl5).1 8 v rfl; rwa [Nat.zero_add] at this
              go_simp
              clear c8_6
              refine hK.out _ _ ?_ (hH5) ?_ (fun hH6 => ?_)
              rotate_left
              · ((try simp only [Act.put, List.setIfInBounds_toArray, List.set_cons_zero, List.set_cons_succ]); exact rfl)
              clear hK K
              refine Rg.one (i := 8) rfl ⟨by kernel_rfl, by rfl, fun K hK => ?_⟩
              go_simp
              refine hK.out _ _ ?_ (hid (hH6.out.alloc hH6.out.size _)) ?_ (fun hH7 => ?_)
              rotate_left
              · ((try simp only [Act.put, List.setIfInBounds_toArray, List.set_cons_zero, List.set_cons_succ]); exact rfl)
              clear hK K
              refine Rg.one (i := 9) rfl ⟨by kernel_rfl, by rfl, fun K hK => ?_⟩
              have hT := tfacts_below (tfacts_below (hT0.out) hl5) (grow u5 (.cells #[.int .i64 y] 3 (0, 0)))
              refine wp_append_own _ _ _ 23 rfl (B7 + 1) 3 j0 (.int .i64 0) 1 8 Try.underlying23 j1 j2 j3 j4 rfl (by decide) v k (ints (vals (nums s) 17 k)) rfl hT.2.2.1 ⟨u5.heap.size, 0, none⟩ 1 1 [.int .i64 y] rfl rfl (fun j u hj => by rw [Addr.add_mid]; exact (range_new u5 #[.int .i64 y] 3) j u hj) (by intro u hu; simp at hu; subst hu; rfl) (by unfold maxLen; omega) (by omega) (by have := hT.2.2.2; omega) ?_
              intro v' wn hown hgrow _
              have hne : some B7 ≠ v.ownBlock := by intro hq; have := (hT.2.2.1.lt B7 hq.symm).1; omega
              have hRn := range_grown hgrow hne hT.1
              have hTn := there_grown hgrow hne hT.2.1
              have hbw := below_grown hH7.out hgrow (fun gg hg => by have := (hT.2.2.1.lt gg hg).1; omega)
              obtain ⟨A', c', hvs⟩ := owns_slice hown
              subst hvs
              have hown2 := hid hown
              have hlt2 : B7 < wn.heap.size := there_lt hTn
              clear hown hgrow
              refine hK.out _ _ ?_ (hid hbw) ?_ (fun hH8 => ?_)
              rotate_left
              · ((try simp only [Act.put, List.setIfInBounds_toArray, List.set_cons_zero, List.set_cons_succ]); exact rfl)
              clear hK K
              refine Rg.tk (i := 10) rfl hp ?_
              refine ⟨?_, ?_, by kernel_rfl, by kernel_rfl, by kernel_rfl, Or.inl ⟨by rfl, ?_⟩, hH8, ?_, ?_⟩
              rotate_left 2
              · (intro w hSw; clear hSw; go_simp; try with_reducible rfl)
              · ((try simp only [Act.put, List.setIfInBounds_toArray, List.set_cons_zero, List.set_cons_succ]); exact rfl)
              refine Rg.one (i := 11) rfl ⟨by kernel_rfl, by rfl, fun K hK => ?_⟩
              have hc8 : wn.cell? ⟨B7, 8, none⟩ = some v := by have := hRn 8 v rfl; rwa [Nat.zero_add] at this
              have hf8 : wn.frozen? ⟨B7, 8, none⟩ = false := by have := (hTn 8 (by omega)).2; rwa [Nat.zero_add] at this
              go_simp
              have hRF := hid (range_set8 (.slice A' (k + 1) c') hRn)
              have hTF := hid (there_set (v := (.slice A' (k + 1) c')) (i := 8) hTn)
              have hOF := hid (owns_set (v := (.slice A' (k + 1) c')) (i := 8) hown2.out (Nat.lt_succ_self B7))
              have hLF : Hid (B7 < (wn.setCell ⟨B7, 8, none⟩ (.slice A' (k + 1) c')).heap.size) := hid (there_lt hTF.out)
              refine hK.out _ _ ?_ (hid (hH8.out.setCell (show w1.heap.size ≤ (⟨B7, 8, none⟩ : Addr).block from hB7) (.slice A' (k + 1) c'))) ?_ (fun hHF => ?_)
              rotate_left
              · ((try simp only [Act.put, List.setIfInBounds_toArray, List.set_cons_zero, List.set_cons_succ]); exact rfl)
              clear hK K
              refine wpAnyH_done (by kernel_rfl) ?_ _
              refine hn.out _ _ ?_
              go_wp2_with fail
              go_roundw
              case rel => exact ⟨k + 1, _, by omega, by rw [show (17 : Int) + 4 * (k : Int) + 4 = 17 + 4 * ((k + 1 : Nat) : Int) from by omega], hHF.out, hRF.out, hTF.out, by rw [show vals (nums s) 17 (k + 1) = vals (nums s) 17 k ++ [Cod.val (((nums s).drop (17 + 4 * k)).take 4)] from rfl, Hy.out, ints_append]; exact hOF.out, hLF.out⟩
              case measure => simp [intOf]; omega
            · skip
              go_simp
              refine hK.out _ _ ?_ (hid (hH5.out.alloc hH5.out.size _)) ?_ (fun hH9 => ?_)
              rotate_left
              · ((try simp only [Act.put, List.setIfInBounds_toArray, List.set_cons_zero, List.set_cons_succ]); exact rfl)
              clear hK K
              refine Rg.one (i := 1) rfl ⟨by kernel_rfl, by rfl, fun K hK => ?_⟩
              have c8_10 : ((u5.alloc (.cells #[.int .i64 y] 3 (0, 0)))).cell? ⟨B7, 8, none⟩ = some v := by have := (tfacts_below (tfacts_below (hT0.out) hl5) (grow u5 (.cells #[.int .i64 y] 3 (0, 0)))).1 8 v rfl; rwa [Nat.zero_add] at this
              go_simp
              clear c8_10
              refine hK.out _ _ ?_ (hH9) ?_ (fun hH10 => ?_)
              rotate_left
              · ((try simp only [Act.put, List.setIfInBounds_toArray, List.set_cons_zero, List.set_cons_succ]); exact rfl)
              clear hK K
              refine Rg.one (i := 9) rfl ⟨by kernel_rfl, by rfl, fun K hK => ?_⟩
              have hT := tfacts_below (tfacts_below (hT0.out) hl5) (grow u5 (.cells #[.int .i64 y] 3 (0, 0)))
              refine wp_append_own _ _ _ 23 rfl (B7 + 1) 3 j0 (.int .i64 0) 1 8 Try.underlying23 j1 j2 j3 j4 rfl (by decide) v k (ints (vals (nums s) 17 k)) rfl hT.2.2.1 ⟨u5.heap.size, 0, none⟩ 1 1 [.int .i64 y] rfl rfl (fun j u hj => by rw [Addr.add_mid]; exact (range_new u5 #[.int .i64 y] 3) j u hj) (by intro u hu; simp at hu; subst hu; rfl) (by unfold maxLen; omega) (by omega) (by have := hT.2.2.2; omega) ?_
              intro v' wn hown hgrow _
              have hne : some B7 ≠ v.ownBlock := by intro hq; have := (hT.2.2.1.lt B7 hq.symm).1; omega
              have hRn := range_grown hgrow hne hT.1
              have hTn := there_grown hgrow hne hT.2.1
              have hbw := below_grown hH10.out hgrow (fun gg hg => by have := (hT.2.2.1.lt gg hg).1; omega)
              obtain ⟨A', c', hvs⟩ := owns_slice hown
              subst hvs
              have hown2 := hid hown
              have hlt2 : B7 < wn.heap.size := there_lt hTn
              clear hown hgrow
              refine hK.out _ _ ?_ (hid hbw) ?_ (fun hH11 => ?_)
              rotate_left
              · ((try simp only [Act.put, List.setIfInBounds_toArray, List.set_cons_zero, List.set_cons_succ]); exact rfl)
              clear hK K
              refine Rg.tk (i := 10) rfl hp ?_
              refine ⟨?_, ?_, by kernel_rfl, by kernel_rfl, by kernel_rfl, Or.inl ⟨by rfl, ?_⟩, hH11, ?_, ?_⟩
              rotate_left 2
              · (intro w hSw; clear hSw; go_simp; try with_reducible rfl)
              · ((try simp only [Act.put, List.setIfInBounds_toArray, List.set_cons_zero, List.set_cons_succ]); exact rfl)
              refine Rg.one (i := 11) rfl ⟨by kernel_rfl, by rfl, fun K hK => ?_⟩
              have hc8 : wn.cell? ⟨B7, 8, none⟩ = some v := by have := hRn 8 v rfl; rwa [Nat.zero_add] at this
              have hf8 : wn.frozen? ⟨B7, 8, none⟩ = false := by have := (hTn 8 (by omega)).2; rwa [Nat.zero_add] at this
              go_simp
              have hRF := hid (range_set8 (.slice A' (k + 1) c') hRn)
              have hTF := hid (there_set (v := (.slice A' (k + 1) c')) (i := 8) hTn)
              have hOF := hid (owns_set (v := (.slice A' (k + 1) c')) (i := 8) hown2.out (Nat.lt_succ_self B7))
              have hLF : Hid (B7 < (wn.setCell ⟨B7, 8, none⟩ (.slice A' (k + 1) c')).heap.size) := hid (there_lt hTF.out)
              refine hK.out _ _ ?_ (hid (hH11.out.setCell (show w1.heap.size ≤ (⟨B7, 8, none⟩ : Addr).block from hB7) (.slice A' (k + 1) c'))) ?_ (fun hHF => ?_)
              rotate_left
              · ((try simp only [Act.put, List.setIfInBounds_toArray, List.set_cons_zero, List.set_cons_succ]); exact rfl)
              clear hK K
              refine wpAnyH_done (by kernel_rfl) ?_ _
              refine hn.out _ _ ?_
              go_wp2_with fail
              go_roundw
              case rel => exact ⟨k + 1, _, by omega, by rw [show (17 : Int) + 4 * (k : Int) + 4 = 17 + 4 * ((k + 1 : Nat) : Int) from by omega], hHF.out, hRF.out, hTF.out, by rw [show vals (nums s) 17 (k + 1) = vals (nums s) 17 k ++ [Cod.val (((nums s).drop (17 + 4 * k)).take 4)] from rfl, Hy.out, ints_append]; exact hOF.out, hLF.out⟩
              case measure => simp [intOf]; omega
        · obtain rfl : k = m := by omega
          obtain ⟨A, c, rfl, hrow⟩ := owns_int HO.out (vals_len _ _ _)
          have HNe : Hid (∀ b o, A = some ⟨b, o, none⟩ → b ≠ w.heap.size) := by
            intro b o hA
            have := HW1.out.1
            have := (HO.out.lt b (by rw [hA]; rfl)).1
            omega
          have HFr : Hid (∀ b o, A = some ⟨b, o, none⟩ → w.heap.size ≤ b) := by
            intro b o hA
            have := HW1.out.1
            have := (HO.out.lt b (by rw [hA]; rfl)).1
            omega
          have HRe : Hid (wr.rangeAt B7 0 (evF e A c).toList) := by
            show World.rangeAt _ _ _ _
            rw [he.out]
            exact HR.out
          have HRow : Hid (RowI wr A e.vals) := by
            show RowI _ _ _
            rw [he.out]
            exact hrow
          have hvl2 : Hid (e.vals.length = k) := by show e.vals.length = k; rw [he.out]; exact vals_len _ _ _
          have Hput := hid fun w (hr : RowI w A e.vals) => put_calls e A c w hfit (by rw [hvl2.out]; omega) hr
          clear hrow HR HO
          have hbq : ((strOfNums (put e)).toList == (s.extract 0 (17 + 4 * k)).toList) = !bq := by
            rw [← beq_toListBytes]
            have := HBQ.out
            unfold bne at this
            rw [← this, Bool.not_not]
          have e1 : (17 + 4 * (k : Int)).toNat = 17 + 4 * k := by omega
          have e2 : 0 ≤ 17 + 4 * (k : Int) := by omega
          go_wp2_with fail
          refine Rg.start2 (S := fun w' => Hid (Below w1.heap.size w1 w' ∧ w'.rangeAt B7 0 (evF e A c).toList)) (T := fun w' => Hid (RowI w' A e.vals)) (by kernel_rfl) (fun _ _ _ _ _ h => h) (hid ⟨HB.out.drew, HRe.out⟩) (hid HRow.out) ?_
          intro Q hp hn wz hH0 hT0
          refine Rg.tk (i := 0) rfl hp ?_
          refine ⟨_, ?_, by kernel_rfl, by kernel_rfl, by kernel_rfl, yieldsIf_load_mid (by rfl) 25 _ rfl B7 0 rfl (evF e A c).toList _ (fun w hSw => hSw.out.2) Try.underlying25 rfl hi9, hH0, ?_, ?_⟩
          rotate_left
          · ((try simp only [Act.put, List.setIfInBounds_toArray, List.set_cons_zero, List.set_cons_succ]); exact rfl)
          refine Rg.tk (i := 2) rfl hp ?_
          refine ⟨?_, ?_, by kernel_rfl, by kernel_rfl, by kernel_rfl, Or.inl ⟨by rfl, ?_⟩, hH0, ?_, ?_⟩
          rotate_left 2
          · (intro w hSw; clear hSw; go_simp; try with_reducible rfl)
          · ((try simp only [Act.put, List.setIfInBounds_toArray, List.set_cons_zero, List.set_cons_succ]); exact rfl)
          refine Rg.tk (i := 3) rfl hp ?_
          refine ⟨?_, ?_, by kernel_rfl, by kernel_rfl, by kernel_rfl, Or.inl ⟨by rfl, ?_⟩, hH0, ?_, ?_⟩
          rotate_left 2
          · (intro w hSw; clear hSw; go_simp; try with_reducible rfl)
          · ((try simp only [Act.put, List.setIfInBounds_toArray, List.set_cons_zero, List.set_cons_succ]); exact rfl)
          refine Rg.tk (i := 4) rfl hp ?_
          refine ⟨?_, ?_, by kernel_rfl, by kernel_rfl, by kernel_rfl, Or.inl ⟨by rfl, ?_⟩, hH0, ?_, ?_⟩
          rotate_left 2
          · (intro w hSw; clear hSw; go_simp; try with_reducible rfl)
          · ((try simp only [Act.put, List.setIfInBounds_toArray, List.set_cons_zero, List.set_cons_succ]); exact rfl)
          refine Rg.one (i := 1) rfl ⟨by kernel_rfl, by rfl, fun K hK => ?_⟩
          go_simp
          refine (Hput.out _ hT0.out).mono ?_
          rintro x u1 ⟨rfl, hl1⟩
          have HRow1 := hid (hT0.out.below hl1)
          refine hK.out _ _ ?_ (hid ⟨via hH0.out.1 hl1, range_below hl1 hH0.out.2⟩) ?_ (fun hH1 => ?_)
          rotate_left
          · ((try simp only [Act.put, List.setIfInBounds_toArray, List.set_cons_zero, List.set_cons_succ]); exact rfl)
          clear hK K
          refine Rg.tk (i := 5) rfl hp ?_
          refine ⟨?_, ?_, by kernel_rfl, by kernel_rfl, by kernel_rfl, Or.inl ⟨by rfl, ?_⟩, hH1, ?_, ?_⟩
          rotate_left 2
          · (intro w hSw; clear hSw; go_simp; try with_reducible rfl)
          · ((try simp only [Act.put, List.setIfInBounds_toArray, List.set_cons_zero, List.set_cons_succ]); exact rfl)
          refine wpAnyH_done (by kernel_rfl) ?_ _
          refine hn.out _ _ ?_
          have HU : Hid (Below w.heap.size w u1 ∧ u1.there w.heap.size 0 9) := hid ⟨HW1.out.2.1.trans (hH1.out.1.mono (by have := HW1.out.1; omega)), there_below HW1.out.2.2 hH1.out.1⟩
          cases bq with
          | true =>
            go_wp2_with (refine wpList_store_mid rfl 25 _ _ rfl w.heap.size 0 (evF zero none 0) rfl rfl HU.out.2 hi9 (evF_one _ _ _) ?_)
            have hRz := World.rangeAt_setCells_same u1 w.heap.size 0 (evF zero none 0).toList HU.out.2
            have hBz := below_sets HU.out.1 (Nat.le_refl _) (evF zero none 0).toList 0
            generalize (u1.setCells w.heap.size 0 (evF zero none 0).toList) = wf2 at *
            refine bodyPost_ret (res_take _ _ w.heap.size (evF zero none 0) ⟨#[]⟩ 2 rfl rfl rfl hRz rfl) rfl ⟨fun _ => rfl, (fun h => by cases h), hBz⟩
          | false =>
            go_wp2_with fail
            refine Rg.start2 (S := fun w' => Hid (Below w.heap.size w w' ∧ w'.rangeAt B7 0 (evF e A c).toList ∧ w'.there w.heap.size 0 9)) (T := fun w' => Hid (RowI w' A e.vals)) (by kernel_rfl) (fun _ _ _ _ _ h => h) (hid ⟨HU.out.1.drew, hH1.out.2, HU.out.2⟩) (hid HRow1.out) ?_
            intro Q hp hn wz2 hH2 hT2
            refine Rg.tk (i := 0) rfl hp ?_
            refine ⟨_, ?_, by kernel_rfl, by kernel_rfl, by kernel_rfl, yieldsIf_load_mid (by rfl) 25 _ rfl B7 0 rfl (evF e A c).toList _ (fun w hSw => hSw.out.2.1) Try.underlying25 rfl hi9, hH2, ?_, ?_⟩
            rotate_left
            · ((try simp only [Act.put, List.setIfInBounds_toArray, List.set_cons_zero, List.set_cons_succ]); exact rfl)
            refine Rg.tk (i := 1) rfl hp ?_
            refine ⟨?_, ?_, by kernel_rfl, by kernel_rfl, by kernel_rfl, Or.inl ⟨by rfl, ?_⟩, hH2, ?_, ?_⟩
            rotate_left 2
            · (intro w hSw; clear hSw; go_simp; try with_reducible rfl)
            · ((try simp only [Act.put, List.setIfInBounds_toArray, List.set_cons_zero, List.set_cons_succ]); exact rfl)
            refine Rg.tk (i := 2) rfl hp ?_
            refine ⟨?_, ?_, by kernel_rfl, by kernel_rfl, by kernel_rfl, Or.inl ⟨by rfl, ?_⟩, hH2, ?_, ?_⟩
            rotate_left 2
            · (intro w hSw; clear hSw; go_simp; try with_reducible rfl)
            · ((try simp only [Act.put, List.setIfInBounds_toArray, List.set_cons_zero, List.set_cons_succ]); exact rfl)
            refine Rg.tk (i := 3) rfl hp ?_
            refine ⟨?_, ?_, by kernel_rfl, by kernel_rfl, by kernel_rfl, Or.inl ⟨by rfl, ?_⟩, hH2, ?_, ?_⟩
            rotate_left 2
            · (intro w hSw; clear hSw; go_simp; try with_reducible rfl)
            · ((try simp only [Act.put, List.setIfInBounds_toArray, List.set_cons_zero, List.set_cons_succ]); exact rfl)
            refine Rg.one (i := 4) rfl ⟨by kernel_rfl, by rfl, fun K hK => ?_⟩
            refine wp_store_mid 25 _ _ rfl w.heap.size 0 (evF e A c) rfl rfl hH2.out.2.2 hi9 (evF_one _ _ _) ?_
            have hB2 := below_sets hH2.out.1 (Nat.le_refl _) (evF e A c).toList 0
            have hR2 := World.rangeAt_setCells_same _ _ _ (evF e A c).toList hH2.out.2.2
            have hR7 := range_sets (C := w.heap.size) (show B7 ≠ w.heap.size by have := HW1.out.1; omega) (evF e A c).toList 0 hH2.out.2.1
            have hT3 := there_sets (evF e A c).toList (Nat.le_refl 9) hH2.out.2.2
            have hRw := row_sets (C := w.heap.size) hT2.out HNe.out (evF e A c).toList 0
            refine hK.out _ _ ?_ (hid ⟨hB2, hR7, hT3⟩) ?_ (fun hHF2 => ?_)
            rotate_left
            · ((try simp only [Act.put, List.setIfInBounds_toArray, List.set_cons_zero, List.set_cons_succ]); exact rfl)
            clear hK K
            refine Rg.tk (i := 5) rfl hp ?_
            refine ⟨?_, ?_, by kernel_rfl, by kernel_rfl, by kernel_rfl, Or.inl ⟨by rfl, ?_⟩, hHF2, ?_, ?_⟩
            rotate_left 2
            · (intro w hSw; clear hSw; go_simp; try with_reducible rfl)
            · ((try simp only [Act.put, List.setIfInBounds_toArray, List.set_cons_zero, List.set_cons_succ]); exact rfl)
            refine Rg.tk (i := 6) rfl hp ?_
            refine ⟨?_, ?_, by kernel_rfl, by kernel_rfl, by kernel_rfl, Or.inl ⟨by rfl, ?_⟩, hHF2, ?_, ?_⟩
            rotate_left 2
            · (intro w hSw; clear hSw; go_simp; try with_reducible rfl)
            · ((try simp only [Act.put, List.setIfInBounds_toArray, List.set_cons_zero, List.set_cons_succ]); exact rfl)
            refine wpAnyH_done (by kernel_rfl) ?_ _
            refine hn.out _ _ ?_
            generalize (wz2.setCells w.heap.size 0 (evF e A c).toList) = wf2 at *
            go_wp2_with fail
            refine bodyPost_ret (res_take _ _ w.heap.size (evF e A c) (s.extract (17 + 4 * k) s.size) 0 rfl rfl rfl hR2 rfl) rfl ⟨(fun h => by cases h), fun _ => ⟨A, c, rfl, hRw, HFr.out⟩, hB2⟩

end Go.Proofs.Ytcfjefngfmnmaaa.C22
