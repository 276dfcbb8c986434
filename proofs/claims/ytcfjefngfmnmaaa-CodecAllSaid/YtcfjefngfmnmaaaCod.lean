/- Plain: an event's bytes, and what bytes begin with; no program in sight. -/
import Derived.Test.YtcfjefngfmnmaaaSat
import Derived.Test.YtcfjefngfmnmaaaBits
namespace Go.Proofs.Ytcfjefngfmnmaaa.Cod
open Go.Proofs.Ytcfjefngfmnmaaa
set_option linter.unusedVariables false
set_option linter.unusedSimpArgs false
set_option linter.unnecessarySimpa false
structure Ev where
  kind : Int
  id : Int
  dep : Int
  scope : Int
  arg : Int
  step : Int
  n : Nat
  ok : Bool
  vals : List Int
def zero : Ev := ⟨0, 0, 0, 0, 0, 0, 0, false, []⟩
/-- The fields are numbers of their types. -/
structure Ev.Fits (e : Ev) : Prop where
  kind : -9223372036854775808 ≤ e.kind ∧ e.kind ≤ 9223372036854775807
  id : -9223372036854775808 ≤ e.id ∧ e.id ≤ 9223372036854775807
  dep : -9223372036854775808 ≤ e.dep ∧ e.dep ≤ 9223372036854775807
  scope : -9223372036854775808 ≤ e.scope ∧ e.scope ≤ 9223372036854775807
  arg : -9223372036854775808 ≤ e.arg ∧ e.arg ≤ 9223372036854775807
  step : -9223372036854775808 ≤ e.step ∧ e.step ≤ 9223372036854775807
  n : e.n ≤ 18446744073709551615
  vals : ∀ v ∈ e.vals, -9223372036854775808 ≤ v ∧ v ≤ 9223372036854775807
def short (v : Int) : Bool := decide (-2147483648 ≤ v ∧ v ≤ 2147483647)
def within (v m : Int) : Bool := decide (0 ≤ v ∧ v ≤ m)
def may (e : Ev) : Bool := e.vals.all short && (decide (1 ≤ e.kind ∧ e.kind ≤ 6) && (decide ((e.vals.length : Int) ≤ 8) && (within e.id 1000 && (within e.dep 3 && (within e.scope 9 && (within e.arg 99 && within e.step 3))))))
/-- A number as 64 bits. -/
def u64 (v : Int) : Nat := (v % 18446744073709551616).toNat
theorem u64_lt (v : Int) : u64 v ≤ 18446744073709551615 := by unfold u64; omega
def b8 (x : Nat) : List Int := [Bits.byt x 0, Bits.byt x 1, Bits.byt x 2, Bits.byt x 3, Bits.byt x 4, Bits.byt x 5, Bits.byt x 6, Bits.byt x 7]
def b4 (x : Nat) : List Int := [Bits.byt x 4, Bits.byt x 5, Bits.byt x 6, Bits.byt x 7]
def head (e : Ev) : List Int := [e.kind, e.id / 256, e.id % 256, e.dep, e.scope, e.arg, e.step]
def tail (vs : List Int) : List Int := vs.flatMap fun v => b4 (u64 v)
def flag (b : Bool) : Int := if b then 1 else 0
def bytes (e : Ev) : List Int := head e ++ b8 e.n ++ [flag e.ok, (e.vals.length : Int)] ++ tail e.vals
def put (e : Ev) : List Int := if may e then bytes e else []
theorem b4_len (x : Nat) : (b4 x).length = 4 := rfl
theorem b8_len (x : Nat) : (b8 x).length = 8 := rfl
theorem tail_len (vs : List Int) : (tail vs).length = 4 * vs.length := by
  unfold tail
  induction vs with
  | nil => rfl
  | cons v vs ih => rw [List.flatMap_cons, List.length_append, ih, b4_len, List.length_cons]; omega
theorem bytes_len (e : Ev) : (bytes e).length = 17 + 4 * e.vals.length := by
  unfold bytes
  rw [List.length_append, List.length_append, List.length_append, tail_len, b8_len]
  show 7 + 8 + 2 + _ = _
  omega
/-- Four bytes as a number. -/
def val (l : List Int) : Int := (Bits.num l + 2147483648) % 4294967296 - 2147483648
/-- The values behind byte number o: m of them. -/
def vals (s : List Int) (o : Nat) : Nat → List Int
  | 0 => []
  | m + 1 => vals s o m ++ [val ((s.drop (o + 4 * m)).take 4)]
theorem vals_len (s : List Int) (o m : Nat) : (vals s o m).length = m := by
  induction m with
  | zero => rfl
  | succ m ih => show (vals s o m ++ [_]).length = _; rw [List.length_append, ih]; rfl
def at' (s : List Int) (i : Nat) : Int := s.getD i 0
/-- What the first bytes say, the number of the values known. -/
def parse (s : List Int) (m : Nat) : Ev :=
  { kind := at' s 0, id := at' s 1 * 256 + at' s 2, dep := at' s 3, scope := at' s 4, arg := at' s 5, step := at' s 6, n := (Bits.num ((s.drop 7).take 8)).toNat, ok := at' s 15 == 1, vals := vals s 17 m }
/-- What bytes begin with, and what is left; or nothing. -/
def take (s : List Int) : Option (Ev × List Int) :=
  if s.length < 17 then none
  else if 8 < (at' s 16).toNat ∨ s.length < 17 + 4 * (at' s 16).toNat then none
  else if put (parse s (at' s 16).toNat) = s.take (17 + 4 * (at' s 16).toNat) then some (parse s (at' s 16).toNat, s.drop (17 + 4 * (at' s 16).toNat)) else none
/-- Bytes are from 0 to 255. -/
def Ok (s : List Int) : Prop := ∀ x ∈ s, 0 ≤ x ∧ x < 256
theorem Ok.take {s : List Int} (h : Ok s) (n : Nat) : Ok (s.take n) := fun x hx => h x (List.mem_of_mem_take hx)
theorem Ok.drop {s : List Int} (h : Ok s) (n : Nat) : Ok (s.drop n) := fun x hx => h x (List.mem_of_mem_drop hx)
theorem Ok.append {s t : List Int} (h : Ok s) (k : Ok t) : Ok (s ++ t) := fun x hx => (List.mem_append.1 hx).elim (h x) (k x)
theorem at_in {s : List Int} (h : Ok s) (i : Nat) : 0 ≤ at' s i ∧ at' s i < 256 := by
  unfold at'
  rw [List.getD_eq_getElem?_getD]
  by_cases hi : i < s.length
  · rw [List.getElem?_eq_getElem hi]; exact h _ (List.getElem_mem hi)
  · rw [List.getElem?_eq_none (by omega)]; show (0 : Int) ≤ 0 ∧ (0 : Int) < 256; omega
theorem b4_ok (x : Nat) : Ok (b4 x) := by
  intro y hy
  unfold b4 at hy
  have h := Bits.byt_in x
  rcases List.mem_cons.1 hy with rfl | hy
  · have := h 4; omega
  rcases List.mem_cons.1 hy with rfl | hy
  · have := h 5; omega
  rcases List.mem_cons.1 hy with rfl | hy
  · have := h 6; omega
  rcases List.mem_cons.1 hy with rfl | hy
  · have := h 7; omega
  · exact absurd hy List.not_mem_nil
theorem b8_ok (x : Nat) : Ok (b8 x) := by
  intro y hy
  unfold b8 at hy
  have h := Bits.byt_in x
  simp only [List.mem_cons, List.not_mem_nil, or_false] at hy
  rcases hy with rfl | rfl | rfl | rfl | rfl | rfl | rfl | rfl
  all_goals (first | (have := h 0; omega) | (have := h 1; omega) | (have := h 2; omega) | (have := h 3; omega) | (have := h 4; omega) | (have := h 5; omega) | (have := h 6; omega) | (have := h 7; omega))
theorem tail_ok (vs : List Int) : Ok (tail vs) := by
  intro x hx
  obtain ⟨v, _, hv⟩ := List.mem_flatMap.1 hx
  exact b4_ok _ x hv
structure May (e : Ev) : Prop where
  vals : ∀ v ∈ e.vals, -2147483648 ≤ v ∧ v ≤ 2147483647
  len : e.vals.length ≤ 8
  kind : 1 ≤ e.kind ∧ e.kind ≤ 6
  id : 0 ≤ e.id ∧ e.id ≤ 1000
  dep : 0 ≤ e.dep ∧ e.dep ≤ 3
  scope : 0 ≤ e.scope ∧ e.scope ≤ 9
  arg : 0 ≤ e.arg ∧ e.arg ≤ 99
  step : 0 ≤ e.step ∧ e.step ≤ 3
theorem may_iff (e : Ev) : may e = true ↔ May e := by
  unfold may within
  simp only [Bool.and_eq_true, decide_eq_true_eq, List.all_eq_true, short]
  constructor
  · rintro ⟨h1, h2, h3, h4, h5, h6, h7, h8⟩
    exact ⟨h1, by omega, h2, h4, h5, h6, h7, h8⟩
  · rintro ⟨h1, h2, h3, h4, h5, h6, h7, h8⟩
    exact ⟨h1, h3, by omega, h4, h5, h6, h7, h8⟩
theorem bytes_ok {e : Ev} (h : May e) : Ok (bytes e) := by
  have hl := h.len
  have h1 := h.kind; have h2 := h.id; have h3 := h.dep; have h4 := h.scope; have h5 := h.arg; have h6 := h.step
  refine Ok.append (Ok.append (Ok.append ?_ (b8_ok _)) ?_) (tail_ok _)
  · intro x hx
    unfold head at hx
    simp only [List.mem_cons, List.not_mem_nil, or_false] at hx
    rcases hx with rfl | rfl | rfl | rfl | rfl | rfl | rfl <;> omega
  · intro x hx
    simp only [List.mem_cons, List.not_mem_nil, or_false] at hx
    unfold flag at hx
    rcases hx with rfl | rfl
    · split <;> omega
    · omega
theorem put_ok (e : Ev) : Ok (put e) := by
  unfold put
  split
  · rename_i h; exact bytes_ok ((may_iff e).1 h)
  · intro x hx; exact absurd hx List.not_mem_nil
/-- What is read may be, and has the very bytes. -/
theorem take_very {s : List Int} {e : Ev} {r : List Int} (h : take s = some (e, r)) : may e = true ∧ put e ++ r = s := by
  unfold take at h
  split at h
  · exact absurd h (by simp)
  rename_i h17
  split at h
  · exact absurd h (by simp)
  rename_i h8
  split at h
  · rename_i heq
    injection h with h
    injection h with h1 h2
    subst h1 h2
    refine ⟨?_, by rw [heq, List.take_append_drop]⟩
    unfold put at heq
    split at heq
    · assumption
    · exfalso
      have := congrArg List.length heq
      rw [List.length_take] at this
      simp at this
      omega
  · exact absurd h (by simp)
theorem val_b4 {v : Int} (h0 : -2147483648 ≤ v) (h1 : v ≤ 2147483647) : val (b4 (u64 v)) = v := by
  unfold val b4 Bits.num Bits.byt u64
  simp only [List.foldl_cons, List.foldl_nil]
  omega
theorem num_b8 {x : Nat} (hx : x ≤ 18446744073709551615) : Bits.num (b8 x) = x := by
  unfold b8 Bits.num Bits.byt
  simp only [List.foldl_cons, List.foldl_nil]
  omega
theorem vals_append (s t : List Int) (o m : Nat) (h : o + 4 * m ≤ s.length) : vals (s ++ t) o m = vals s o m := by
  induction m with
  | zero => rfl
  | succ m ih =>
    show vals (s ++ t) o m ++ [_] = vals s o m ++ [_]
    rw [ih (by omega), List.drop_append_of_le_length (by omega), List.take_append_of_le_length (by rw [List.length_drop]; omega)]
theorem tail_drop (vs : List Int) : ∀ m, (tail vs).drop (4 * m) = tail (vs.drop m) := by
  induction vs with
  | nil => intro m; simp [tail]
  | cons v vs ih =>
    intro m
    rcases m with _ | m
    · rfl
    · have e : tail (v :: vs) = b4 (u64 v) ++ tail vs := by unfold tail; rw [List.flatMap_cons]
      rw [e, show 4 * (m + 1) = (b4 (u64 v)).length + 4 * m from by rw [b4_len]; omega, List.drop_append, List.drop_eq_nil_of_le (by omega), List.nil_append, Nat.add_sub_cancel_left, ih m]
      rfl
theorem vals_take (p : List Int) (vs : List Int) (h : ∀ v ∈ vs, -2147483648 ≤ v ∧ v ≤ 2147483647) : ∀ m, m ≤ vs.length → vals (p ++ tail vs) p.length m = vs.take m := by
  intro m
  induction m with
  | zero => intro _; simp [vals]
  | succ m ih =>
    intro hm
    show vals (p ++ tail vs) p.length m ++ [val (((p ++ tail vs).drop (p.length + 4 * m)).take 4)] = _
    rw [ih (by omega), List.drop_append, show vs.take (m + 1) = vs.take m ++ [vs[m]] from List.take_succ_eq_append_getElem (by omega)]
    have e2 : (p.drop (p.length + 4 * m)) = [] := List.drop_eq_nil_of_le (by omega)
    rw [e2, List.nil_append, show p.length + 4 * m - p.length = 4 * m from by omega, tail_drop, List.drop_eq_getElem_cons (by omega)]
    have e : tail (vs[m] :: vs.drop (m + 1)) = b4 (u64 vs[m]) ++ tail (vs.drop (m + 1)) := by unfold tail; rw [List.flatMap_cons]
    have hv := h vs[m] (List.getElem_mem _)
    rw [e, List.take_left' (b4_len _), val_b4 hv.1 hv.2]
theorem vals_tail (p : List Int) (vs : List Int) (h : ∀ v ∈ vs, -2147483648 ≤ v ∧ v ≤ 2147483647) : vals (p ++ tail vs) p.length vs.length = vs := by
  rw [vals_take p vs h _ (Nat.le_refl _), List.take_length]
/-- What may be is told there and back, whatever stands behind. -/
theorem take_put {e : Ev} (hm : may e = true) (hn : e.n ≤ 18446744073709551615) (s : List Int) : take (put e ++ s) = some (e, s) := by
  have h := (may_iff e).1 hm
  have hp : put e = bytes e := by unfold put; rw [if_pos hm]
  have hlen := bytes_len e
  have hpar : parse (bytes e ++ s) e.vals.length = e := by
    have hv : vals (bytes e ++ s) 17 e.vals.length = e.vals := by
      rw [vals_append _ _ _ _ (by omega)]
      have := vals_tail (head e ++ b8 e.n ++ [flag e.ok, (e.vals.length : Int)]) e.vals h.vals
      exact this
    unfold parse
    rw [hv]
    have hok : (at' (bytes e ++ s) 15 == 1) = e.ok := by
      show (flag e.ok == 1) = e.ok
      unfold flag
      cases e.ok <;> rfl
    have hid : at' (bytes e ++ s) 1 * 256 + at' (bytes e ++ s) 2 = e.id := by
      show e.id / 256 * 256 + e.id % 256 = e.id
      omega
    have hnn : (Bits.num (((bytes e ++ s).drop 7).take 8)).toNat = e.n := by
      show (Bits.num (b8 e.n)).toNat = e.n
      rw [num_b8 hn]
      omega
    rw [hok, hid, hnn]
    rfl
  have h16 : at' (bytes e ++ s) 16 = (e.vals.length : Int) := rfl
  have hl := h.len
  rw [hp]
  unfold take
  rw [h16, if_neg (by rw [List.length_append]; omega), if_neg (by rw [List.length_append]; omega), Int.toNat_natCast, hpar, hp, ← hlen, List.take_left, if_pos rfl, List.drop_left]
/-- No event's bytes are the begin of another one's. -/
theorem take_cut {e : Ev} (hm : may e = true) (hn : e.n ≤ 18446744073709551615) (k : Nat) (hk : k < (put e).length) (hfit : ∀ (e2 : Ev) r, take ((put e).take k) = some (e2, r) → e2.n ≤ 18446744073709551615) : take ((put e).take k) = none := by
  cases hq : take ((put e).take k) with
  | none => rfl
  | some x =>
    obtain ⟨e2, r⟩ := x
    exfalso
    obtain ⟨hm2, h2⟩ := take_very hq
    have h3 := take_put hm2 (hfit _ _ hq) (r ++ (put e).drop k)
    rw [← List.append_assoc, h2, List.take_append_drop] at h3
    have h4 := take_put hm hn []
    rw [List.append_nil, h3] at h4
    injection h4 with h4
    injection h4 with _ h5
    have := congrArg List.length h5
    rw [List.length_append, List.length_drop] at this
    simp at this
    omega
theorem parse_n {s : List Int} (h : Ok s) (m : Nat) : (parse s m).n ≤ 18446744073709551615 := by
  have h1 := Bits.num_in ((s.drop 7).take 8) (h.drop 7 |>.take 8) (by rw [List.length_take]; omega)
  show (Bits.num _).toNat ≤ _
  omega
theorem take_n {s : List Int} (h : Ok s) {e : Ev} {r : List Int} (ht : take s = some (e, r)) : e.n ≤ 18446744073709551615 := by
  unfold take at ht
  split at ht
  · exact absurd ht (by simp)
  split at ht
  · exact absurd ht (by simp)
  split at ht
  · injection ht with ht
    injection ht with h1 h2
    rw [← h1]
    exact parse_n h _
  · exact absurd ht (by simp)
end Go.Proofs.Ytcfjefngfmnmaaa.Cod
