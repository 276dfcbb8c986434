/- Events one behind the other: their bytes, and a slice of events that a call makes. -/
import Derived.Test.YtcfjefngfmnmaaaC22N
import Derived.Test.YtcfjefngfmnmaaaC22J
import Derived.Maps.AppendAt
namespace Go.Proofs.Ytcfjefngfmnmaaa.C22
open Go.RowKit Go.Proofs.Ytcfjefngfmnmaaa Go.Proofs.Ytcfjefngfmnmaaa.Cod
set_option linter.unusedVariables false
set_option linter.unusedSimpArgs false
set_option linter.unnecessarySimpa false
/-- The bytes of events, one behind the other. -/
def cat (l : List Ev) : List Int := l.flatMap put
def Good (l : List Ev) : Prop := ∀ e ∈ l, may e = true ∧ e.n ≤ 18446744073709551615
theorem cat_cons (e : Ev) (l : List Ev) : cat (e :: l) = put e ++ cat l := by unfold cat; rw [List.flatMap_cons]
theorem cat_append (l m : List Ev) : cat (l ++ m) = cat l ++ cat m := by unfold cat; rw [List.flatMap_append]
theorem cat_one (e : Ev) : cat [e] = put e := by rw [cat_cons]; exact List.append_nil _
theorem put_len {e : Ev} (h : may e = true) : (put e).length = 17 + 4 * e.vals.length := by unfold put; rw [if_pos h, bytes_len]
theorem cat_ok (l : List Ev) : Cod.Ok (cat l) := by
  intro x hx
  obtain ⟨e, _, he⟩ := List.mem_flatMap.1 hx
  exact put_ok e x he
theorem cat_len {l : List Ev} (h : Good l) : 17 * l.length ≤ (cat l).length := by
  induction l with
  | nil => exact Nat.le_refl _
  | cons e l ih =>
    have h1 := put_len (h e List.mem_cons_self).1
    have h2 := ih fun x hx => h x (List.mem_cons_of_mem _ hx)
    rw [cat_cons, List.length_append, List.length_cons]
    omega
theorem take_cat {e : Ev} {l : List Ev} (h : Good (e :: l)) (r : List Int) : Cod.take (cat (e :: l) ++ r) = some (e, cat l ++ r) := by
  have he := h e List.mem_cons_self
  rw [cat_cons, List.append_assoc]
  exact take_put he.1 he.2 _
/-- Where events' bytes begin with other events' bytes, these are the first ones. -/
theorem cat_pre {l : List Ev} : ∀ {m : List Ev} {r : List Int}, Good l → Good m → cat l ++ r = cat m → ∃ k, m = l ++ k ∧ r = cat k := by
  induction l with
  | nil => intro m r _ _ h; exact ⟨m, rfl, h⟩
  | cons e l ih =>
    intro m r hl hm h
    have h1 := take_cat hl r
    rw [h] at h1
    cases m with
    | nil =>
      have h0 : Cod.take (cat []) = none := by decide +kernel
      rw [h0] at h1
      cases h1
    | cons f m =>
      have h2 := take_cat hm []
      rw [List.append_nil, List.append_nil] at h2
      rw [h2] at h1
      injection h1 with h1
      injection h1 with h3 h4
      subst h3
      obtain ⟨k, rfl, rfl⟩ := ih (fun x hx => hl x (List.mem_cons_of_mem _ hx)) (fun x hx => hm x (List.mem_cons_of_mem _ hx)) h4.symm
      exact ⟨k, rfl, rfl⟩
theorem cat_inj {l m : List Ev} (hl : Good l) (hm : Good m) (h : cat l = cat m) : l = m := by
  obtain ⟨k, rfl, hk⟩ := cat_pre (r := []) hl hm (by rw [List.append_nil]; exact h)
  have hg : Good k := fun x hx => hm x (List.mem_append_right _ hx)
  have := cat_len hg
  rw [← hk] at this
  have : k = [] := List.eq_nil_of_length_eq_zero (by simp at this; omega)
  rw [this, List.append_nil]
/-- Events' bytes don't end in something that can't be read. -/
theorem cat_bad {l m : List Ev} {r : List Int} (hl : Good l) (hm : Good m) (h : cat l ++ r = cat m) (hr : r ≠ []) (ht : Cod.take r = none) : False := by
  obtain ⟨k, rfl, rfl⟩ := cat_pre hl hm h
  cases k with
  | nil => exact hr rfl
  | cons e k =>
    have hg : Good (e :: k) := fun x hx => hm x (List.mem_append_right _ hx)
    have h2 := take_cat hg []
    rw [List.append_nil, List.append_nil, ht] at h2
    cases h2
/-- An event, and where its values lie. -/
structure Held where
  e : Ev
  V : Option Addr
  c : Nat
def hcells (hs : List Held) : List Value := hs.flatMap fun h => (evF h.e h.V h.c).toList
theorem hcells_len (hs : List Held) : (hcells hs).length = hs.length * 9 := by
  unfold hcells
  induction hs with
  | nil => rfl
  | cons h hs ih =>
    have h9 : (evF h.e h.V h.c).toList.length = 9 := rfl
    rw [List.flatMap_cons, List.length_append, ih, h9]
    show 9 + hs.length * 9 = (hs.length + 1) * 9
    omega
theorem hcells_snoc (hs : List Held) (h : Held) : hcells (hs ++ [h]) = hcells hs ++ (evF h.e h.V h.c).toList := by unfold hcells; rw [List.flatMap_append]; simp
theorem hcells_at (hs : List Held) (i : Nat) (hi : i < hs.length) (j : Nat) (v : Value) (hj : (evF hs[i].e hs[i].V hs[i].c).toList[j]? = some v) : (hcells hs)[i * 9 + j]? = some v := by
  have h1 : hs = hs.take i ++ hs[i] :: hs.drop (i + 1) := by rw [← List.drop_eq_getElem_cons hi, List.take_append_drop]
  have h2 : hcells hs = hcells (hs.take i) ++ ((evF hs[i].e hs[i].V hs[i].c).toList ++ hcells (hs.drop (i + 1))) := by
    conv => lhs; rw [h1]
    unfold hcells
    rw [List.flatMap_append, List.flatMap_cons]
  have hl : (hcells (hs.take i)).length = i * 9 := by rw [hcells_len, List.length_take, Nat.min_eq_left (by omega)]
  have hj9 : j < (evF hs[i].e hs[i].V hs[i].c).toList.length := (List.getElem?_eq_some_iff.1 hj).1
  rw [h2, List.getElem?_append_right (by omega), hl, Nat.add_sub_cancel_left, List.getElem?_append_left hj9]
  exact hj
/-- A slice of the call's own holds events; their values lie in other blocks. -/
def Evs (w : World) (base : Nat) (v : Value) (hs : List Held) : Prop :=
  w.ownsRow base 25 9 v hs.length (hcells hs) ∧ ∀ h ∈ hs, RowI w h.V h.e.vals ∧ (h.e.vals = [] ∨ ∀ b o, h.V = some ⟨b, o, none⟩ → v.ownBlock ≠ some b)
theorem Evs.nil (w : World) (base : Nat) : Evs w base (.slice none 0 0) [] := ⟨World.ownsRow_nil _ _ _ _, fun h hh => absurd hh List.not_mem_nil⟩
theorem Evs.below {w w' : World} {base : Nat} {v : Value} {hs : List Held} (h : Evs w base v hs) (hb : Below w.heap.size w w') : Evs w' base v hs :=
  ⟨owns_below h.1 hb, fun x hx => ⟨(h.2 x hx).1.below hb, (h.2 x hx).2⟩⟩
theorem Evs.lt {w : World} {base : Nat} {v : Value} {hs : List Held} (h : Evs w base v hs) : ∀ k, v.ownBlock = some k → base ≤ k ∧ k < w.heap.size := h.1.lt
theorem rowI_grown {w w' : World} {V : Option Addr} {l : List Int} {row : Option Nat} (h : RowI w V l) (hg : w.grownBy w' row) (hne : l = [] ∨ ∀ b o, V = some ⟨b, o, none⟩ → row ≠ some b) : RowI w' V l := by
  rcases h with rfl | ⟨b, o, rfl, h⟩
  · exact .inl rfl
  · rcases hne with rfl | hne
    · exact .inl rfl
    · exact .inr ⟨b, o, rfl, fun i hi => hg.cell (h i hi) (fun e => hne b o rfl e.symm)⟩
theorem rowI_lt {w : World} {V : Option Addr} {l : List Int} (h : RowI w V l) (hl : l ≠ []) : ∀ b o, V = some ⟨b, o, none⟩ → b < w.heap.size := by
  intro b o hV
  rcases h with h | ⟨b', o', hV', h⟩
  · exact absurd h hl
  · rw [hV] at hV'
    injection hV' with hV'
    injection hV' with h1 h2 _
    subst h1 h2
    have := h 0 (by cases l with | nil => exact absurd rfl hl | cons => simp)
    exact World.block_lt_of_cell? w _ this
theorem Evs.snoc {w w' : World} {base : Nat} {v v' : Value} {hs : List Held} (h : Evs w base v hs) (x : Held) (hx : RowI w x.V x.e.vals) (hne : x.e.vals = [] ∨ ∀ b o, x.V = some ⟨b, o, none⟩ → v.ownBlock ≠ some b)
    (hown : w'.ownsRow base 25 9 v' (hs.length + 1) (hcells hs ++ (evF x.e x.V x.c).toList)) (hg : w.grownBy w' v.ownBlock) (hat : v'.ownBlock = v.ownBlock ∨ v'.ownBlock = some w.heap.size) : Evs w' base v' (hs ++ [x]) := by
  have one : ∀ y : Held, RowI w y.V y.e.vals → (y.e.vals = [] ∨ ∀ b o, y.V = some ⟨b, o, none⟩ → v.ownBlock ≠ some b) → RowI w' y.V y.e.vals ∧ (y.e.vals = [] ∨ ∀ b o, y.V = some ⟨b, o, none⟩ → v'.ownBlock ≠ some b) := by
    intro y hy hyn
    refine ⟨rowI_grown hy hg hyn, ?_⟩
    by_cases hl : y.e.vals = []
    · exact .inl hl
    · right
      intro b o hV hb
      rcases hyn with hyn | hyn
      · exact hl hyn
      · rcases hat with hat | hat
        · rw [hat] at hb; exact hyn b o hV hb
        · rw [hat] at hb
          injection hb with hb
          have := rowI_lt hy hl b o hV
          omega
  refine ⟨by rw [hcells_snoc, List.length_append]; exact hown, fun y hy => ?_⟩
  rcases List.mem_append.1 hy with hy | hy
  · exact one y (h.2 y hy).1 (h.2 y hy).2
  · rw [List.mem_singleton] at hy
    subst hy
    exact one y hx hne
theorem Evs.row {w : World} {base : Nat} {v : Value} {hs : List Held} (h : Evs w base v hs) : ∃ A c, v = .slice A (hs.map (·.e)).length c ∧ RowE w A (hs.map (·.e)) := by
  have hc := h.1
  rw [List.length_map]
  rcases h.1.2 with ⟨rfl, h0⟩ | ⟨g, cap, cur, rfl, _⟩
  · have : hs = [] := List.eq_nil_of_length_eq_zero h0
    subst this
    exact ⟨none, 0, rfl, .inl rfl⟩
  · refine ⟨some ⟨g, 0, none⟩, cap, rfl, .inr ⟨g, 0, rfl, fun i hi => ?_⟩⟩
    rw [List.length_map] at hi
    have hx := h.2 hs[i] (List.getElem_mem hi)
    have he : (hs.map (·.e)).getD i zero = hs[i].e := by rw [List.getD_eq_getElem?_getD, List.getElem?_map, List.getElem?_eq_getElem hi]; rfl
    rw [he]
    refine ⟨hs[i].V, hs[i].c, fun j z hj => ?_, hx.1⟩
    have h1 := hc.cells rfl (i * 9 + j) z (hcells_at hs i hi j z hj)
    rw [Addr.add_mid] at h1
    rw [Nat.zero_add]
    rw [Nat.zero_add] at h1
    exact h1
theorem infoE : ∃ i, Try.prog.info? 25 = some i ∧ i.zero = some (.agg zeroF) ∧ i.size = 9 ∧ i.bytes = 88 := by
  have h : (Try.prog.info? 25).map (fun i => (i.zero, i.size, i.bytes)) = some (some (.agg zeroF), 9, 88) := by kernel_rfl
  cases hq : Try.prog.info? 25 with
  | none => rw [hq] at h; exact absurd h (by simp)
  | some i => rw [hq] at h; simp at h; exact ⟨i, rfl, h.1, h.2.1, h.2.2⟩
/-- What reading all of some bytes comes to. -/
def AllPost (s : List Int) (w : World) (x : Ending) (w' : World) : Prop :=
  ((∃ L A c, x = .returned (.tuple #[.slice A (List.length L) c, .int .i64 0]) ∧ RowE w' A L ∧ Good L ∧ cat L = s) ∨ (x = .returned (.tuple #[.slice none 0 0, .int .i64 2]) ∧ ∃ L r, Good L ∧ cat L ++ r = s ∧ r ≠ [] ∧ Cod.take r = none)) ∧ Below w.heap.size w w'
end Go.Proofs.Ytcfjefngfmnmaaa.C22
