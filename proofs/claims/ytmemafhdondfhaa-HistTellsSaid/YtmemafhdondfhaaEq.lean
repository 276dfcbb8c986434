/- '==' of two arrays or structs of whole numbers and bools, as one Bool: are all cells the same? For any program. -/
import Derived.Test.YtmemafhdondfhaaOpen
import Derived.DeepKeys
namespace Go.Proofs.Ytmemafhdondfhaa.Opn
open Go Go.ChangeShapes
set_option linter.unusedVariables false
variable {P : Program}
/-- Cells of these kinds, as literals. -/
def LitOk : List Lf → List Value → List Lit → Prop
  | [], cs, xs => cs = [] ∧ xs = []
  | l :: ls, cs, xs => ∃ c cs' x xs', cs = c :: cs' ∧ xs = x :: xs' ∧ (match l with | .int k => ∃ n, c = .int k n ∧ x = .int k n ∧ (Lit.int k n).wf = true | .bool => ∃ b, c = .bool b ∧ x = .bool b | _ => False) ∧ LitOk ls cs' xs'
theorem LitOk.append_iff {l1 l2 : List Lf} {cs : List Value} {xs : List Lit} (h : LitOk (l1 ++ l2) cs xs) : ∃ x1 x2, xs = x1 ++ x2 ∧ LitOk l1 (cs.take l1.length) x1 ∧ LitOk l2 (cs.drop l1.length) x2 := by
  induction l1 generalizing cs xs with
  | nil => exact ⟨[], xs, rfl, ⟨by simp, rfl⟩, by simpa using h⟩
  | cons l ls ih =>
    obtain ⟨c, cs', x, xs', rfl, rfl, hm, hr⟩ := h
    obtain ⟨x1, x2, rfl, h1, h2⟩ := ih hr
    refine ⟨x :: x1, x2, rfl, ⟨c, cs'.take ls.length, x, x1, by simp, rfl, hm, h1⟩, by simpa using h2⟩
theorem LitOk.len {l : List Lf} {cs : List Value} {xs : List Lit} (h : LitOk l cs xs) : cs.length = l.length := by
  induction l generalizing cs xs with
  | nil => rw [h.1]; rfl
  | cons l ls ih =>
    obtain ⟨c, cs', x, xs', rfl, rfl, _, hr⟩ := h
    simp [ih hr]

theorem fields_lits {d : Nat} :
    ∀ (fs : List Field) (off : Nat) (ls : List Lf) (cs : List Value) (xs : List Lit), (∀ f ∈ fs, ∀ ls cs xs, leaves P d f.type = some ls → LitOk ls cs xs → P.keyLits d f.type cs = some xs) → fieldLeaves P (leaves P d) fs off = some ls → LitOk ls (cs.drop off) xs →
      ∃ ys, (fs.mapM fun f => P.keyLits d f.type ((cs.drop f.offset).take (P.cellsOf f.type))) = some ys ∧ ys.flatten = xs := by
  intro fs
  induction fs with
  | nil =>
    intro off ls cs xs _ h hl
    simp only [fieldLeaves, Option.some.injEq] at h
    subst h
    exact ⟨[], rfl, by rw [hl.2]; rfl⟩
  | cons f fs ih =>
    intro off ls cs xs hrec h hl
    simp only [fieldLeaves] at h
    split at h
    · rename_i ho
      simp only [Option.bind_eq_some_iff] at h
      obtain ⟨l, hl1, h⟩ := h
      split at h
      · rename_i hlen
        simp only [Option.map_eq_some_iff] at h
        obtain ⟨l2, hl2, rfl⟩ := h
        obtain ⟨x1, x2, rfl, h1, h2⟩ := hl.append_iff
        rw [List.drop_drop] at h2
        obtain ⟨ys, hy, he⟩ := ih (off + l.length) l2 cs x2 (fun g hg => hrec g (List.mem_cons_of_mem _ hg)) hl2 h2
        have hk := hrec f (List.mem_cons_self) _ _ _ hl1 h1
        refine ⟨x1 :: ys, ?_, by rw [List.flatten_cons, he]⟩
        rw [List.mapM_cons, ho, ← hlen, hk]
        simp only [Option.pure_def, Option.bind_eq_bind, Option.bind_some]
        rw [hy]
        rfl
      · cases h
    · cases h
theorem arr_lits {d : Nat} {e : TypeId} {l : List Lf} (hrec : ∀ cs xs, LitOk l cs xs → P.keyLits d e cs = some xs) (hsz : l.length = P.cellsOf e) :
    ∀ (n j : Nat) (cs : List Value) (xs : List Lit), LitOk (arrLeaves l n) (cs.drop (j * P.cellsOf e)) xs →
      ∃ ys, ((List.range' j n).mapM fun i => P.keyLits d e ((cs.drop (i * P.cellsOf e)).take (P.cellsOf e))) = some ys ∧ ys.flatten = xs := by
  intro n
  induction n with
  | zero => intro j cs xs h; exact ⟨[], rfl, by rw [h.2]; rfl⟩
  | succ n ih =>
    intro j cs xs h
    obtain ⟨x1, x2, rfl, h1, h2⟩ := h.append_iff
    rw [List.drop_drop, hsz, ← Nat.succ_mul] at h2
    obtain ⟨ys, hy, he⟩ := ih (j + 1) cs x2 h2
    rw [hsz] at h1
    refine ⟨x1 :: ys, ?_, by rw [List.flatten_cons, he]⟩
    rw [List.range'_succ, List.mapM_cons, hrec _ _ h1]
    simp only [Option.pure_def, Option.bind_eq_bind, Option.bind_some]
    rw [hy]
    rfl
theorem keyLits_of (d : Nat) : ∀ (t : TypeId) (ls : List Lf) (cs : List Value) (xs : List Lit), P.keyTypeAt d t = true → leaves P d t = some ls → LitOk ls cs xs → P.keyLits d t cs = some xs := by
  induction d with
  | zero => intro t ls cs xs _ h; simp [leaves] at h
  | succ d ih =>
    intro t ls cs xs hk h hl
    unfold leaves at h
    unfold Program.keyTypeAt at hk
    unfold Program.keyLits
    split at h
    · rename_i hu
      injection h with h; subst h
      obtain ⟨c, cs', x, xs', rfl, rfl, ⟨b, rfl, rfl⟩, rfl, rfl⟩ := hl
      simp [hu]
    · rename_i k hu
      injection h with h; subst h
      obtain ⟨c, cs', x, xs', rfl, rfl, ⟨n, rfl, rfl, wn⟩, rfl, rfl⟩ := hl
      simp [hu, wn]
    · rename_i hu
      injection h with h; subst h
      obtain ⟨c, cs', x, xs', rfl, rfl, hf, _⟩ := hl
      exact hf.elim
    · rename_i e hu
      injection h with h; subst h
      obtain ⟨c, cs', x, xs', rfl, rfl, hf, _⟩ := hl
      exact hf.elim
    · rename_i fs hu
      rw [hu] at hk
      simp only [Bool.and_eq_true] at hk
      obtain ⟨⟨hk1, _⟩, _⟩ := hk
      simp only [Option.bind_eq_some_iff] at h
      obtain ⟨l, h1, h⟩ := h
      split at h
      · rename_i hlen
        injection h with h; subst h
        have hall : ∀ f ∈ fs.toList, (f.name != "_") = true ∧ P.keyTypeAt d f.type = true := by
          intro f hf
          have := Array.all_eq_true'.1 hk1 f (by simpa using hf)
          simpa [Bool.and_eq_true] using this
        obtain ⟨ys, hy, he⟩ := fields_lits fs.toList 0 l cs xs (fun f hf ls cs xs h1 h2 => ih _ _ _ _ (hall f hf).2 h1 h2) h1 (by simpa using hl)
        have hn : fs.all (fun x => x.name != "_") = true := by
          rw [Array.all_eq_true']
          intro f hf
          exact (hall f (by simpa using hf)).1
        simp only [hu]
        rw [if_pos ⟨by rw [hl.len, hlen], hn⟩, hy]
        simp [he]
      · cases h
    · rename_i n e hu
      rw [hu] at hk
      simp only [Option.bind_eq_some_iff] at h
      obtain ⟨l, h1, h⟩ := h
      split at h
      · rename_i hlen
        injection h with h; subst h
        obtain ⟨ys, hy, he⟩ := arr_lits (d := d) (e := e) (fun cs xs h2 => ih _ _ _ _ hk h1 h2) hlen.1 n 0 cs xs (by simpa using hl)
        have hal : ∀ n, (arrLeaves l n).length = n * l.length := by
          intro n
          induction n with
          | zero => simp [arrLeaves]
          | succ n ih => simp only [arrLeaves, List.length_append, ih, Nat.succ_mul]; omega
        simp only [hu]
        rw [if_pos (by rw [hl.len, hal, hlen.2]), List.range_eq_range', hy]
        simp [he]
      · cases h
    · cases h
/-- The comparison, as one Bool. -/
theorem eq_run {t : TypeId} {ls : List Lf} {xs ys : Array Value} {la lb : List Lit} (d m D : Nat) (hD : D = d + m) (hk : P.keyTypeAt m t = true) (hl : leaves P m t = some ls) (hw : (match P.underlying t with | some (.struct _) | some (.array _ _) => true | _ => false) = true) (hc : ls.length = P.cellsOf t)
    (hx : LitOk ls xs.toList la) (hy : LitOk ls ys.toList lb) (b : Bool) (hb : b = true ↔ la = lb) (w : World) : (Op.equalIn D t (.agg xs) (.agg ys)).run P w = .ok b w := by
  subst hD
  have hf : ∀ (zs : Array Value) (lz : List Lit), LitOk ls zs.toList lz → (Value.agg zs).formed P t = true := by
    intro zs lz hz
    unfold Value.formed
    have hsz : zs.size = P.cellsOf t := by rw [← hc, ← hz.len]; simp
    split at hw
    · rename_i h; simp [h, hsz]
    · rename_i h; simp [h, hsz]
    · cases hw
  obtain ⟨r, h1, h2⟩ := run_equalIn_deep d m t hk w m m (.agg xs) (.agg ys) la lb (hf _ _ hx) (hf _ _ hy) (keyLits_of m t ls _ _ hk hl hx) (keyLits_of m t ls _ _ hk hl hy)
  rw [h1]
  congr 1
  rw [Bool.eq_iff_iff, h2, hb]
end Go.Proofs.Ytmemafhdondfhaa.Opn
