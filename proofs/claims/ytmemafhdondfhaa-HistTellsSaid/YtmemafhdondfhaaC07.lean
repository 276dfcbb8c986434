/- What the method 'at' of the package hist does to the block that holds the state. -/
import Derived.Test.YtmemafhdondfhaaC01
import Derived.Test.YtmemafhdondfhaaWin
import Derived.RegionTactic
import Derived.ChangeAlike
import Derived.Deep.QuietTactic
import Derived.BigQuiet
import Derived.Deep.RegionWith
import Derived.Deep.MidRow
namespace Go.Proofs.Ytmemafhdondfhaa.C06
open Go.RowKit Go.Proofs.Ytmemafhdondfhaa Go.Proofs.Ytmemafhdondfhaa.Win
set_option linter.unusedVariables false
set_option linter.unusedSimpArgs false
set_option linter.unnecessarySimpa false
attribute [local go_sem] C01.max2_mx C01.min2_mn C01.max_two C01.min_two
theorem hid {p : Prop} (h : p) : Hid p := h
/-- Block B holds the state W. -/
def At (w : World) (B : Nat) (W : Win) : Prop := ∀ i, i < 8 * 66 + 3 → w.cell? ⟨B, i, none⟩ = some (.int .u64 (W.cell 66 i)) ∧ w.frozen? ⟨B, i, none⟩ = false
/-- Nothing that was there has turned but block B. -/
structure Only (B : Nat) (w w' : World) : Prop where
  os : w'.os = w.os
  tape : w'.tape = w.tape
  output : w'.output = w.output
  size : w.heap.size ≤ w'.heap.size
  block : ∀ k, k < w.heap.size → k ≠ B → w'.heap[k]? = w.heap[k]?
theorem Only.refl (B : Nat) (w : World) : Only B w w := ⟨rfl, rfl, rfl, Nat.le_refl _, fun _ _ _ => rfl⟩
theorem Only.set {B : Nat} {w w' : World} (h : Only B w w') (i : Nat) (v : Value) : Only B w (w'.setCell ⟨B, i, none⟩ v) :=
  ⟨h.os, h.tape, h.output, by simpa [World.setCell] using h.size, fun k hk hb => (Below.heap_setCell _ _ _ _ hb).trans (h.block k hk hb)⟩
theorem Only.drewN {B : Nat} {w w' : World} (h : Only B w w') (n : Nat) : Only B w (w'.drewN n) := ⟨h.os, h.tape, h.output, h.size, h.block⟩
theorem Only.drew {B : Nat} {w w' : World} (h : Only B w w') : Only B w w'.drew := ⟨h.os, h.tape, h.output, h.size, h.block⟩
theorem Only.trans {B : Nat} {a b c : World} (h : Only B a b) (k : Only B b c) : Only B a c :=
  ⟨k.os.trans h.os, k.tape.trans h.tape, k.output.trans h.output, Nat.le_trans h.size k.size, fun i hi hb => (k.block i (Nat.lt_of_lt_of_le hi h.size) hb).trans (h.block i hi hb)⟩
theorem Only.alloc {B : Nat} {w w' : World} (h : Only B w w') (o : Obj) : Only B w (w'.alloc o) :=
  ⟨h.os, h.tape, h.output, by have := h.size; simp; omega, fun k hk hb => (Below.heap_alloc _ _ _ (Nat.lt_of_lt_of_le hk h.size)).trans (h.block k hk hb)⟩
/-- The cells of block B, as a function. -/
def AtF (w : World) (B : Nat) (f : Nat → Int) : Prop := ∀ i, i < 8 * 66 + 3 → w.cell? ⟨B, i, none⟩ = some (.int .u64 (f i)) ∧ w.frozen? ⟨B, i, none⟩ = false
theorem AtF.set {w : World} {B : Nat} {f : Nat → Int} (h : AtF w B f) (j : Nat) (v : Int) : AtF (w.setCell ⟨B, j, none⟩ (.int .u64 v)) B (upd f j v) := by
  intro i hi
  refine ⟨?_, by rw [World.frozen?_setCell]; exact (h i hi).2⟩
  by_cases hij : i = j
  · subst hij
    rw [upd_same]
    exact World.cell?_setCell_same _ _ _ (h i hi).1
  · rw [upd_ne _ _ hij, World.cell?_setCell_other _ _ _ _ (fun e => hij (by injection e with _ e _; exact e.symm))]
    exact (h i hi).1
theorem AtF.drewN {w : World} {B : Nat} {f : Nat → Int} (h : AtF w B f) (n : Nat) : AtF (w.drewN n) B f := h
theorem AtF.drew {w : World} {B : Nat} {f : Nat → Int} (h : AtF w B f) : AtF w.drew B f := h
theorem AtF.eq {w : World} {B : Nat} {f g : Nat → Int} (h : AtF w B f) (he : ∀ i, i < 8 * 66 + 3 → f i = g i) : AtF w B g := fun i hi => by rw [← he i hi]; exact h i hi
theorem AtF.at {w : World} {B : Nat} {f : Nat → Int} {W : Win} (h : AtF w B f) (he : ∀ i, i < 8 * 66 + 3 → f i = W.cell 66 i) : At w B W := fun i hi => by rw [← he i hi]; exact h i hi
theorem At.to {w : World} {B : Nat} {W : Win} (h : At w B W) : AtF w B (W.cell 66) := h
/-- A bucket of the time b, empty. -/
def bk (b : Int) : List Value := .int .u64 b :: List.replicate 65 (.int .u64 0)
theorem bk_len (b : Int) : (bk b).length = 66 := by unfold bk; rw [List.length_cons, List.length_replicate]
theorem bk_zero (w : World) : (zeroValue 60).run Try.prog w = .ok (.agg (bk 0).toArray) w := by kernel_rfl
theorem bk_set (b : Int) : (bk 0).toArray.setIfInBounds 0 (.int .u64 b) = (bk b).toArray := by unfold bk; simp
theorem AtF.sets {w : World} {B : Nat} {f : Nat → Int} (h : AtF w B f) (o : Nat) (b : Int) (ho : o + 66 ≤ 531) : AtF (w.setCells B o (bk b)) B (fun i => if o ≤ i ∧ i < o + 66 then (if i = o then b else 0) else f i) := by
  intro i hi
  refine ⟨?_, by rw [World.frozen?_setCells]; exact (h i hi).2⟩
  by_cases hin : o ≤ i ∧ i < o + 66
  · obtain ⟨j, rfl⟩ := Nat.exists_eq_add_of_le hin.1
    have := World.cell?_setCells_in B (bk b) o w (fun j hj => by rw [bk_len] at hj; rw [(h (o + j) (by omega)).1]; rfl) j (by rw [bk_len]; omega)
    show _ = some (Value.int .u64 (if o ≤ o + j ∧ o + j < o + 66 then (if o + j = o then b else 0) else f (o + j)))
    rw [this, if_pos hin]
    unfold bk
    rcases j with _ | j
    · rw [if_pos (by omega)]; rfl
    · rw [if_neg (by omega), List.getElem_cons_succ, List.getElem_replicate]
  · show _ = some (Value.int .u64 (if o ≤ i ∧ i < o + 66 then (if i = o then b else 0) else f i))
    rw [World.cell?_setCells_out _ _ _ _ _ (fun _ _ => by rw [bk_len]; show i < o ∨ o + 66 ≤ i; omega), if_neg hin]
    exact (h i hi).1
theorem Only.sets {B : Nat} {w w' : World} (h : Only B w w') : ∀ (vs : List Value) (o : Nat), Only B w (w'.setCells B o vs) := by
  intro vs
  induction vs generalizing w' with
  | nil => intro o; exact h
  | cons v vs ih => intro o; exact ih (h.set o v) (o + 1)
set_option maxHeartbeats 1000000 in
theorem at_new (B j : Nat) (W : Win) (t m : Int) (w : World) (h : At w B W) (n1 : 1 ≤ W.n) (w1 : 1 ≤ W.width) (m0 : 0 ≤ m) (m1 : m ≤ 18446744073709551615) (b0 : 0 ≤ m / W.width) (b1 : m / W.width ≤ 18446744073709551615) (hj8 : j < 8) (hm : Sat.mx W.now t = m) (hj : m / W.width % W.n = (j : Int))
    (hne : (W.a j != m / W.width) = true) :
    Calls Try.prog 27 #[.pointer (some ⟨B, 0, none⟩), .int .u64 t] w fun e w' => e = .returned (.pointer (some ⟨B, j * 66, none⟩)) ∧ Only B w w' ∧ AtF w' B (fun i => if j * 66 ≤ i ∧ i < j * 66 + 66 then (if i = j * 66 then m / W.width else 0) else if i = 8 * 66 + 2 then m else W.cell 66 i) := by
  have cn := (h (8 * 66) (by omega)).1
  have cw := (h (8 * 66 + 1) (by omega)).1
  have cm := (h (8 * 66 + 2) (by omega)).1
  have fm := (h (8 * 66 + 2) (by omega)).2
  rw [cell_n] at cn
  rw [cell_w] at cw
  rw [cell_t] at cm
  have ca := (h (j * 66) (by omega)).1
  rw [cell_a _ _ _ (by omega) hj8] at ca
  have H := hid h.to
  have Hj8 := hid hj8
  obtain ⟨ZA, hZA⟩ : ∃ ZA : Array Value, Hid (ZA = (bk 0).toArray) := ⟨_, hid rfl⟩
  obtain ⟨BA, hBA⟩ : ∃ BA : Array Value, Hid (BA = (bk (m / W.width)).toArray) := ⟨_, hid rfl⟩
  have hz : ∀ w, (zeroValue 60).run Try.prog w = .ok (.agg ZA) w := by rw [hZA.out]; exact bk_zero
  have hze : (ZA = #[]) = False := by rw [hZA.out]; unfold bk; simp
  have hset : ZA.setIfInBounds 0 (.int .u64 (m / W.width)) = BA := by rw [hZA.out, hBA.out]; exact bk_set _
  have hl : BA.size = 66 := by rw [hBA.out, List.size_toArray, bk_len]
  have hst : ∀ n1, Sem.run Try.prog (storeCells ⟨B, j * 66, none⟩ BA.toList) ((w.setCell ⟨B, 530, none⟩ (.int .u64 m)).drewN n1) = .ok () (((w.setCell ⟨B, 530, none⟩ (.int .u64 m)).drewN n1).setCells B (j * 66) (bk (m / W.width))) := by
    intro n1
    have hA : AtF ((w.setCell ⟨B, 530, none⟩ (.int .u64 m)).drewN n1) B (upd (W.cell 66) 530 m) := (H.out.set 530 m)
    have := run_storeCells_cells (P := Try.prog) B (j * 66) (bk (m / W.width)) 0 ((w.setCell ⟨B, 530, none⟩ (.int .u64 m)).drewN n1) (fun i hi => by
      rw [bk_len] at hi
      rw [Nat.add_zero, (hA (j * 66 + i) (by omega)).1]; rfl) (fun i hi => by
      rw [bk_len] at hi
      rw [Nat.add_zero]; exact (hA (j * 66 + i) (by omega)).2) (by
      intro v hv
      unfold bk at hv
      rcases List.mem_cons.1 hv with rfl | hv
      · rfl
      · rw [(List.mem_replicate.1 hv).2]; rfl)
    rw [show BA.toList = bk (m / W.width) from by rw [hBA.out]]
    exact this
  clear h
  go_enter Try.func27, Try.ntmps27
  go_wp2_with fail
  go_quiet (fail)
  go_wp2_with fail
  go_quiet (fail)
  go_wp2_with fail
  go_ret
  refine ⟨rfl, ?_, ?_⟩
  · exact (((Only.refl B w).set _ _).drewN _).sets _ _
  · refine AtF.eq (((H.out.set 530 m).drewN _).sets (j * 66) (m / W.width) (by have := Hj8.out; omega)) ?_
    have hj8 := Hj8.out
    intro i hi
    unfold upd
    (repeat' split) <;> first | rfl | omega
set_option maxHeartbeats 1000000 in
theorem at_old (B j : Nat) (W : Win) (t m : Int) (w : World) (h : At w B W) (n1 : 1 ≤ W.n) (w1 : 1 ≤ W.width) (m0 : 0 ≤ m) (m1 : m ≤ 18446744073709551615) (b0 : 0 ≤ m / W.width) (b1 : m / W.width ≤ 18446744073709551615) (hj8 : j < 8) (hm : Sat.mx W.now t = m) (hj : m / W.width % W.n = (j : Int))
    (hne : (W.a j != m / W.width) = false) :
    Calls Try.prog 27 #[.pointer (some ⟨B, 0, none⟩), .int .u64 t] w fun e w' => e = .returned (.pointer (some ⟨B, j * 66, none⟩)) ∧ Only B w w' ∧ AtF w' B (fun i => if i = 8 * 66 + 2 then m else W.cell 66 i) := by
  have cn := (h (8 * 66) (by omega)).1
  have cw := (h (8 * 66 + 1) (by omega)).1
  have cm := (h (8 * 66 + 2) (by omega)).1
  have fm := (h (8 * 66 + 2) (by omega)).2
  rw [cell_n] at cn
  rw [cell_w] at cw
  rw [cell_t] at cm
  have ca := (h (j * 66) (by omega)).1
  rw [cell_a _ _ _ (by omega) hj8] at ca
  have H := hid h.to
  have Hj8 := hid hj8
  clear h
  go_enter Try.func27, Try.ntmps27
  go_wp2_with fail
  go_quiet (fail)
  go_wp2_with fail
  go_quiet (fail)
  go_wp2_with fail
  go_ret
  refine ⟨rfl, ?_, ?_⟩
  · repeat (with_reducible first | exact Only.refl _ _ | refine Only.set ?_ _ _ | refine Only.drewN ?_ _)
  · apply AtF.eq
    · repeat (with_reducible first | exact H.out | apply AtF.set | apply AtF.drewN)
    · have hj8 := Hj8.out
      intro i hi
      unfold upd
      (repeat' split) <;> first | rfl | omega
theorem at_calls (B : Nat) (W : Win) (t : Int) (w : World) (h : At w B W) (ok : Ok W) (t0 : 0 ≤ t) (t1 : t ≤ 18446744073709551615) :
    Calls Try.prog 27 #[.pointer (some ⟨B, 0, none⟩), .int .u64 t] w fun e w' => e = .returned (.pointer (some ⟨B, W.slot t * 66, none⟩)) ∧ At w' B (W.tick t) ∧ Only B w w' := by
  have s1 := ok.slot t
  by_cases hne : W.a (W.slot t) = W.bkt t
  · refine (at_old B (W.slot t) W t (W.time t) w h ok.n1 ok.w1 (ok.time t0 t1).1 (ok.time t0 t1).2 (ok.bkt t0 t1).1 (ok.bkt t0 t1).2 s1.1 rfl s1.2.2.symm (by rw [bne_eq_false_iff_eq]; exact hne)).mono ?_
    rintro e w' ⟨he, ho, hat⟩
    exact ⟨he, hat.at fun i hi => (cell_tick_old W 66 t hne i hi).symm, ho⟩
  · refine (at_new B (W.slot t) W t (W.time t) w h ok.n1 ok.w1 (ok.time t0 t1).1 (ok.time t0 t1).2 (ok.bkt t0 t1).1 (ok.bkt t0 t1).2 s1.1 rfl s1.2.2.symm (by rw [bne_iff_ne]; exact hne)).mono ?_
    rintro e w' ⟨he, ho, hat⟩
    exact ⟨he, hat.at fun i hi => (cell_tick_new W 66 (by omega) t s1.1 hne i hi).symm, ho⟩
theorem Only.below {B K : Nat} {w w' : World} (h : Only B w w') (hB : K ≤ B) (hK : K ≤ w.heap.size) : Below K w w' := ⟨h.os, h.tape, h.output, h.size, fun k hk => h.block k (by omega) (by omega)⟩
end Go.Proofs.Ytmemafhdondfhaa.C06
