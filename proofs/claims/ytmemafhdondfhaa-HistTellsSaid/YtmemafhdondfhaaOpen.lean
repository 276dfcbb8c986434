/- What the cells of an argument hold, read off its type: whole numbers, bools, strings and slices, in structs and arrays of these; and what a slice's elements hold. For any program. -/
import Derived.ChangeArms
import Derived.OpenShut
import Derived.Deep.Slices
import Derived.SizedLaws
namespace Go.Proofs.Ytmemafhdondfhaa.Opn
open Go Go.ChangeShapes
set_option linter.unusedVariables false
variable {H : Type} {enc : TypeId × Value → H} {P : Program} {w : World} {base : Nat} {sp : Nat → Bool} {held : Bool}

/-- A cell's kind. -/
inductive Lf where
  | int (k : IntKind)
  | bool
  | str
  | slc (e : TypeId)
/-- The cells cs can be read as a value of type t. -/
def Rdb (enc : TypeId × Value → H) (P : Program) (w : World) (base : Nat) (sp : Nat → Bool) (held : Bool) (t : TypeId) (cs : List Value) : Prop := ∃ fuel x, DataW.trod enc P w base sp held fuel t cs = some x
/-- What is known of a cell of a kind. -/
def Lf.ok (enc : TypeId × Value → H) (P : Program) (w : World) (base : Nat) (sp : Nat → Bool) (held : Bool) : Lf → Value → Prop
  | .int k, v => ∃ n, v = .int k n ∧ (Lit.int k n).wf = true
  | .bool, v => ∃ b, v = .bool b
  | .str, v => ∃ s : ByteArray, v = .string s ∧ s.size ≤ maxLen
  | .slc e, v => ∃ a l c, v = .slice a l c ∧ ((a = none ∧ l = 0 ∧ c = 0) ∨ ∃ ad, a = some ad ∧ base ≤ ad.block ∧ l ≤ c ∧ c ≤ maxLen ∧ ∀ i, i < l → ∃ cells, w.cells? base (ad.add (i * P.cellsOf e)) (P.cellsOf e) = some cells ∧ Rdb enc P w base sp held e cells)

def fieldLeaves (P : Program) (rec : TypeId → Option (List Lf)) : List Field → Nat → Option (List Lf)
  | [], _ => some []
  | f :: fs, off => if f.offset = off then (rec f.type).bind fun l => if l.length = P.cellsOf f.type then (fieldLeaves P rec fs (off + l.length)).map (l ++ ·) else none else none
def arrLeaves (l : List Lf) : Nat → List Lf
  | 0 => []
  | n + 1 => l ++ arrLeaves l n
/-- The kinds of a type's cells, one by one. -/
def leaves (P : Program) : Nat → TypeId → Option (List Lf)
  | 0, _ => none
  | d + 1, t =>
    match P.underlying t with
    | some .bool => some [.bool]
    | some (.int k) => some [.int k]
    | some .string => some [.str]
    | some (.slice e) => some [.slc e]
    | some (.struct fs) => (fieldLeaves P (leaves P d) fs.toList 0).bind fun l => if l.length = P.cellsOf t then some l else none
    | some (.array n e) => (leaves P d e).bind fun l => if l.length = P.cellsOf e ∧ n * l.length = P.cellsOf t then some (arrLeaves l n) else none
    | _ => none

/-- The cells hold what their kinds say. -/
def AllOk (enc : TypeId × Value → H) (P : Program) (w : World) (base : Nat) (sp : Nat → Bool) (held : Bool) : List Lf → List Value → Prop
  | [], cs => cs = []
  | l :: ls, cs => ∃ c cs', cs = c :: cs' ∧ l.ok enc P w base sp held c ∧ AllOk enc P w base sp held ls cs'
theorem AllOk.append {l1 l2 : List Lf} {c1 c2 : List Value} (h1 : AllOk enc P w base sp held l1 c1) (h2 : AllOk enc P w base sp held l2 c2) : AllOk enc P w base sp held (l1 ++ l2) (c1 ++ c2) := by
  induction l1 generalizing c1 with
  | nil => simp only [AllOk] at h1; subst h1; simpa using h2
  | cons l ls ih =>
    obtain ⟨c, cs', rfl, hc, hr⟩ := h1
    exact ⟨c, cs' ++ c2, rfl, hc, ih hr⟩
theorem AllOk.len {l : List Lf} {c : List Value} (h : AllOk enc P w base sp held l c) : c.length = l.length := by
  induction l generalizing c with
  | nil => simp only [AllOk] at h; subst h; rfl
  | cons l ls ih =>
    obtain ⟨c, cs', rfl, _, hr⟩ := h
    simp [ih hr]

theorem fields_sound {rec : TypeId → Option (List Lf)} (hrec : ∀ t ls cs, rec t = some ls → Rdb enc P w base sp held t cs → AllOk enc P w base sp held ls cs) :
    ∀ (fs : List Field) (off : Nat) (ls : List Lf) (cs : List Value), fieldLeaves P rec fs off = some ls → cs.length = off + ls.length → (∀ f ∈ fs, Rdb enc P w base sp held f.type ((cs.drop f.offset).take (P.cellsOf f.type))) → AllOk enc P w base sp held ls (cs.drop off) := by
  intro fs
  induction fs with
  | nil =>
    intro off ls cs h hl _
    simp only [fieldLeaves, Option.some.injEq] at h
    subst h
    simp only [AllOk]
    exact List.drop_of_length_le (by simp at hl; omega)
  | cons f fs ih =>
    intro off ls cs h hl hf
    simp only [fieldLeaves] at h
    split at h
    · rename_i ho
      simp only [Option.bind_eq_some_iff] at h
      obtain ⟨l, hl1, h⟩ := h
      split at h
      · rename_i hlen
        simp only [Option.map_eq_some_iff] at h
        obtain ⟨l2, hl2, rfl⟩ := h
        have h1 := hrec _ _ _ hl1 (hf f (List.mem_cons_self))
        have h2 := ih (off + l.length) l2 cs hl2 (by simp at hl; omega) (fun g hg => hf g (List.mem_cons_of_mem _ hg))
        have e : cs.drop off = (cs.drop f.offset).take (P.cellsOf f.type) ++ cs.drop (off + l.length) := by
          rw [ho, ← hlen, ← List.drop_drop, List.take_append_drop]
        rw [e]
        exact h1.append h2
      · cases h
    · cases h

theorem arr_sound {l : List Lf} {sz : Nat} (hsz : l.length = sz) : ∀ (n : Nat) (cs : List Value), cs.length = n * sz → (∀ i, i < n → AllOk enc P w base sp held l ((cs.drop (i * sz)).take sz)) → AllOk enc P w base sp held (arrLeaves l n) cs := by
  intro n
  induction n with
  | zero =>
    intro cs hl _
    simp only [arrLeaves, AllOk]
    exact List.eq_nil_of_length_eq_zero (by omega)
  | succ n ih =>
    intro cs hl h
    have e : cs = (cs.drop (0 * sz)).take sz ++ cs.drop sz := by rw [Nat.zero_mul, List.drop_zero, List.take_append_drop]
    rw [e]
    refine (h 0 (by omega)).append (ih _ ?_ fun i hi => ?_)
    · rw [List.length_drop, hl, Nat.succ_mul]; omega
    · have := h (i + 1) (by omega)
      rw [List.drop_drop]
      rwa [show sz + i * sz = (i + 1) * sz from by rw [Nat.succ_mul]; omega]

theorem leaves_sound (d : Nat) : ∀ (t : TypeId) (ls : List Lf) (cs : List Value), leaves P d t = some ls → Rdb enc P w base sp held t cs → AllOk enc P w base sp held ls cs := by
  induction d with
  | zero => intro t ls cs h; simp [leaves] at h
  | succ d ih =>
    intro t ls cs h hr
    obtain ⟨fuel, x, hx⟩ := hr
    unfold leaves at h
    split at h
    · rename_i hu
      obtain ⟨b, rfl, _⟩ := DataW.trod_bool hu hx
      injection h with h; subst h
      exact ⟨_, [], rfl, ⟨b, rfl⟩, rfl⟩
    · rename_i k hu
      obtain ⟨n, rfl, _, wn⟩ := DataW.trod_int hu hx
      injection h with h; subst h
      exact ⟨_, [], rfl, ⟨n, rfl, wn⟩, rfl⟩
    · rename_i hu
      obtain ⟨s, rfl, _, ws⟩ := DataW.trod_string hu hx
      injection h with h; subst h
      exact ⟨_, [], rfl, ⟨s, rfl, ws⟩, rfl⟩
    · rename_i e hu
      injection h with h; subst h
      rcases Deep.open_slice hu hx with ⟨rfl, _⟩ | ⟨a, l, c, m, n, D, Pl, rfl, hb, hl, hm, em, _, hel⟩
      · exact ⟨_, [], rfl, ⟨none, 0, 0, rfl, .inl ⟨rfl, rfl, rfl⟩⟩, rfl⟩
      · refine ⟨_, [], rfl, ⟨some a, l, c, rfl, .inr ⟨a, rfl, hb, hl, hm, fun i hi => ?_⟩⟩, rfl⟩
        obtain ⟨cs', h1, h2⟩ := hel i (by rw [em]; split <;> omega)
        exact ⟨cs', h1, n, _, h2⟩
    · rename_i fs hu
      simp only [Option.bind_eq_some_iff] at h
      obtain ⟨l, h1, h⟩ := h
      split at h
      · rename_i hl
        injection h with h; subst h
        obtain ⟨xs, n, _, _, hlen, hxl, hf⟩ := DataW.trod_struct hu hx
        have := fields_sound (fun t ls cs => ih t ls cs) fs.toList 0 l cs h1 (by omega) (fun f hf2 => by
          obtain ⟨i, hi, rfl⟩ := List.mem_iff_getElem.1 hf2
          have hi' : i < fs.size := by simpa using hi
          have := hf i fs[i] (by simp [hi'])
          refine ⟨n, xs[i]'(by omega), ?_⟩
          rw [Array.getElem_toList]
          rw [this, List.getElem?_eq_getElem])
        simpa using this
      · cases h
    · rename_i n e hu
      simp only [Option.bind_eq_some_iff] at h
      obtain ⟨l, h1, h⟩ := h
      split at h
      · rename_i hl
        injection h with h; subst h
        obtain ⟨xs, m, _, _, hlen, hxl, hf⟩ := DataW.trod_array hu hx
        refine arr_sound (sz := P.cellsOf e) hl.1 n cs (by rw [hlen, ← hl.2, hl.1]) fun i hi => ih _ _ _ h1 ⟨m, xs[i]'(by omega), ?_⟩
        rw [hf i hi, List.getElem?_eq_getElem]
      · cases h
    · cases h

/-- A value of more than one cell, or of none, is an aggregate. -/
theorem agg_of_cells {v : Value} {cs : List Value} (h : v.cells.toList = cs) (hn : cs.length ≠ 1) : v = .agg cs.toArray := by
  subst h
  cases v <;> first | rfl | (exfalso; exact hn rfl) | skip
/-- The argument's cells. -/
theorem arg_ok {t : TypeId} {v : Value} {d : DataW H} {p : List MemPlace} {ls : List Lf} (n : Nat) (hl : leaves P n t = some ls) (h : DataW.Trod enc P w base sp held t v d p) : AllOk enc P w base sp held ls v.cells.toList := by
  obtain ⟨fuel, hf⟩ := h
  exact leaves_sound n t ls _ hl ⟨fuel, _, hf⟩
/-- The elements of a slice, each by its cells. -/
theorem slc_cells {e : TypeId} {v : Value} {ls : List Lf} (n : Nat) (hl : leaves P n e = some ls) (hls : ls.length = P.cellsOf e) (h : (Lf.slc e).ok enc P w base sp held v) :
    ∃ a l c, v = .slice a l c ∧ l ≤ maxLen ∧ ∃ vs : List (List Value), vs.length = l ∧ (∀ x ∈ vs, AllOk enc P w base sp held ls x) ∧ (l = 0 ∨ ∃ ad, a = some ad ∧ ∀ (i j : Nat) (x : List Value) (u : Value), vs[i]? = some x → x[j]? = some u → w.cell? ((ad.add (i * ls.length)).add j) = some u) := by
  obtain ⟨a, l, c, rfl, h⟩ := h
  refine ⟨a, l, c, rfl, ?_⟩
  rcases h with ⟨rfl, rfl, rfl⟩ | ⟨ad, rfl, hb, hlc, hcm, hel⟩
  · exact ⟨by unfold maxLen; omega, [], rfl, by simp, .inl rfl⟩
  · refine ⟨by omega, ?_⟩
    have key : ∀ m, m ≤ l → ∃ vs : List (List Value), vs.length = m ∧ (∀ x ∈ vs, AllOk enc P w base sp held ls x) ∧ ∀ (i j : Nat) (x : List Value) (u : Value), vs[i]? = some x → x[j]? = some u → w.cell? ((ad.add (i * ls.length)).add j) = some u := by
      intro m
      induction m with
      | zero => intro _; exact ⟨[], rfl, by simp, by simp⟩
      | succ m ih =>
        intro hm
        obtain ⟨vs, e1, e2, e3⟩ := ih (by omega)
        obtain ⟨cells, h1, h2⟩ := hel m (by omega)
        refine ⟨vs ++ [cells], by simp [e1], ?_, ?_⟩
        · intro x hx
          rcases List.mem_append.1 hx with hx | hx
          · exact e2 x hx
          · rw [List.mem_singleton] at hx; subst hx
            exact leaves_sound n e ls _ hl h2
        · intro i j x u hi hj
          by_cases him : i < m
          · rw [List.getElem?_append_left (by omega)] at hi
            exact e3 i j x u hi hj
          · have : i = m := by
              have := (List.getElem?_eq_some_iff.1 hi).1
              simp at this; omega
            subst this
            rw [List.getElem?_append_right (by omega), e1] at hi
            simp at hi
            subst hi
            have hc := h1
            unfold World.cells? at hc
            split at hc
            · have hjl : j < cells.length := (List.getElem?_eq_some_iff.1 hj).1
              have hlen := mapM_some_length hc
              simp at hlen
              have hr : (List.range (P.cellsOf e))[j]? = some j := List.getElem?_range (by omega)
              have := mapM_some_get hc j j hr
              rw [hj, ← hls] at this
              exact this
            · cases hc
    obtain ⟨vs, e1, e2, e3⟩ := key l (Nat.le_refl _)
    exact ⟨vs, e1, e2, .inr ⟨ad, rfl, e3⟩⟩
/-- A list of readable things, as a list of what they are. -/
theorem list_of {α : Type} (f : α → List Value) (Q : α → Prop) : ∀ (vs : List (List Value)), (∀ x ∈ vs, ∃ d, x = f d ∧ Q d) → ∃ ds : List α, vs = ds.map f ∧ ∀ d ∈ ds, Q d := by
  intro vs
  induction vs with
  | nil => intro _; exact ⟨[], rfl, by simp⟩
  | cons x vs ih =>
    intro h
    obtain ⟨d, hd, hq⟩ := h x (List.mem_cons_self)
    obtain ⟨ds, hds, hqs⟩ := ih fun y hy => h y (List.mem_cons_of_mem _ hy)
    refine ⟨d :: ds, by rw [hd, hds]; rfl, fun y hy => ?_⟩
    rcases List.mem_cons.1 hy with rfl | hy
    · exact hq
    · exact hqs y hy
/-- An address at which a cell lies has no spot. -/
theorem spot_none {a : Addr} {u : Value} (h : w.cell? a = some u) : a = ⟨a.block, a.off, none⟩ := by
  cases a with
  | mk b o s =>
    cases s with
    | none => rfl
    | some s =>
      unfold World.cell? at h
      split at h <;> simp at h
/-- The elements' cells, at a block and an offset. -/
theorem slc_at {sz : Nat} {ad : Addr} {vs : List (List Value)} (hsz : ∀ x ∈ vs, x.length = sz) (h0 : 0 < sz) (hne : vs ≠ []) (h : ∀ (i j : Nat) (x : List Value) (u : Value), vs[i]? = some x → x[j]? = some u → w.cell? ((ad.add (i * sz)).add j) = some u) :
    ∃ b o, ad = ⟨b, o, none⟩ ∧ ∀ (i j : Nat) (x : List Value) (u : Value), vs[i]? = some x → x[j]? = some u → w.cell? ⟨b, o + i * sz + j, none⟩ = some u := by
  obtain ⟨x, vs', rfl⟩ := List.exists_cons_of_ne_nil hne
  have hx := hsz x (List.mem_cons_self)
  have hne2 : x ≠ [] := by
    intro e
    have h2 : x.length = 0 := by rw [e]; rfl
    omega
  obtain ⟨u, x', rfl⟩ := List.exists_cons_of_ne_nil hne2
  have h1 := h 0 0 (u :: x') u rfl rfl
  have e0 : (ad.add (0 * sz)).add 0 = ad := by simp [Addr.add]
  rw [e0] at h1
  have es := spot_none h1
  refine ⟨ad.block, ad.off, es, fun i j y v hi hj => ?_⟩
  have := h i j y v hi hj
  rw [es] at this
  have e : ((⟨ad.block, ad.off, none⟩ : Addr).add (i * sz)).add j = ⟨ad.block, ad.off + i * sz + j, none⟩ := by
    generalize i * sz = m
    unfold Addr.add
    by_cases hi0 : m = 0
    · subst hi0
      by_cases hj0 : j = 0
      · subst hj0; simp
      · simp [hj0]
    · by_cases hj0 : j = 0
      · subst hj0; simp [hi0]
      · simp [hi0, hj0]
  rw [e] at this
  exact this
/-- The reach: a slice's bytes. -/
theorem sized_any {t e : TypeId} {a : Option Addr} {len c : Nat} {d : DataW H} {ps : List MemPlace} {ts : List TypeId} {ds : List (DataW H)} {j : Nat}
    (hsz : (DataW.weightsEach P ts ds).all (· ≤ reachBytes) = true) (ht : ts[j]? = some t) (hd : ds[j]? = some d) (hu : P.underlying t = some (.slice e)) {B : Nat} (hB : P.bytesOf e = B)
    (h : DataW.Trod enc P w base sp held t (.slice a len c) d ps) : len * B ≤ 140737488351232 := by
  obtain ⟨fuel, hf⟩ := h
  rcases Deep.open_slice hu hf with ⟨hcs, _⟩ | ⟨x, l, c', m, n, D, Pl, hcs, _, hl, _, hm, hx, _⟩
  · simp [Value.cells] at hcs
    obtain ⟨rfl, rfl, rfl⟩ := hcs
    simp
  · simp [Value.cells] at hcs
    obtain ⟨rfl, rfl, rfl⟩ := hcs
    obtain ⟨hx, _⟩ := Prod.mk.inj hx
    subst hx
    have z := sized_slice hsz ht hd hu
    rw [hB] at z
    simp only [List.length_map, List.length_range] at z
    exact Nat.le_trans (Nat.mul_le_mul_right _ (Nat.le_add_right _ _)) z
theorem slc_ok {t e : TypeId} {d : DataW H} {p : List MemPlace} {a : Option Addr} {l c : Nat} (hu : P.underlying t = some (.slice e)) (h : DataW.Trod enc P w base sp held t (.slice a l c) d p) : (Lf.slc e).ok enc P w base sp held (.slice a l c) := by
  have := arg_ok (ls := [.slc e]) 1 (by unfold leaves; rw [hu]) h
  obtain ⟨x, xs, hx, hk, _⟩ := this
  simp [Value.cells] at hx
  obtain ⟨rfl, _⟩ := hx
  exact hk
end Go.Proofs.Ytmemafhdondfhaa.Opn
