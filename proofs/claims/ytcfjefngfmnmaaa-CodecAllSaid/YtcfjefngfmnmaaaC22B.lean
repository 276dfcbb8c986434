/- What val of the package codec returns. -/
import Derived.Test.YtcfjefngfmnmaaaC22A
import Derived.Laws.IdiomStrings
namespace Go.Proofs.Ytcfjefngfmnmaaa.C22
open Go.RowKit Go.Proofs.Ytcfjefngfmnmaaa Go.Proofs.Ytcfjefngfmnmaaa.Cod
set_option linter.unusedVariables false
set_option linter.unusedSimpArgs false
set_option linter.unnecessarySimpa false
/-- A string's bytes as numbers. -/
def nums (s : ByteArray) : List Int := s.data.toList.map fun b => (b.toNat : Int)
theorem nums_len (s : ByteArray) : (nums s).length = s.size := by unfold nums; rw [List.length_map, Array.length_toList]; rfl
theorem nums_ok (s : ByteArray) : Cod.Ok (nums s) := by
  intro x hx
  obtain ⟨b, _, rfl⟩ := List.mem_map.1 hx
  have := b.toNat_lt
  omega
theorem num4 (b0 b1 b2 b3 : UInt8) : Bits.num (Bits.last8 [0, 0, 0, 0, (b0.toNat : Int), (b1.toNat : Int), (b2.toNat : Int), (b3.toNat : Int)]) = Bits.num [(b0.toNat : Int), (b1.toNat : Int), (b2.toNat : Int), (b3.toNat : Int)] := by
  unfold Bits.last8 Bits.num
  simp
theorem num4_in (b0 b1 b2 b3 : UInt8) : 0 ≤ Bits.num [(b0.toNat : Int), (b1.toNat : Int), (b2.toNat : Int), (b3.toNat : Int)] ∧ Bits.num [(b0.toNat : Int), (b1.toNat : Int), (b2.toNat : Int), (b3.toNat : Int)] ≤ 4294967295 := by
  have h0 := b0.toNat_lt
  have h1 := b1.toNat_lt
  have h2 := b2.toNat_lt
  have h3 := b3.toNat_lt
  unfold Bits.num
  simp only [List.foldl_cons, List.foldl_nil]
  omega
theorem bytesAt8 {w : World} {B : Nat} {l : List Int} (h : w.rangeAt B 0 (cells l)) : C02.BytesAt w (some ⟨B, 0, none⟩) l := by
  refine .inr ⟨B, 0, rfl, fun i hi => ?_⟩
  apply h
  unfold cells
  rw [List.getElem?_map, List.getElem?_eq_getElem hi, List.getD_eq_getElem?_getD, List.getElem?_eq_getElem hi]
  rfl
theorem copy4 (b0 b1 b2 b3 : UInt8) (w : World) (B : Nat) (h : ∀ j, j < 8 → (w.cell? ⟨B, j, none⟩).isSome = true ∧ w.frozen? ⟨B, j, none⟩ = false) :
    Sem.run Try.prog (Builtin.copy_ #[49, 9] 3 #[.slice (some ⟨B, 4, none⟩) 4 4, .string ⟨#[b0, b1, b2, b3]⟩]) w = .ok (.int .i64 4) (w.setCells B 4 (cells [(b0.toNat : Int), (b1.toNat : Int), (b2.toNat : Int), (b3.toNat : Int)])) := by
  have hst := run_storeCells_cells (P := Try.prog) B 4 (cells [(b0.toNat : Int), (b1.toNat : Int), (b2.toNat : Int), (b3.toNat : Int)]) 0 w (fun j hj => (h (4 + j) (by unfold cells at hj; simp at hj; omega)).1) (fun j hj => (h (4 + j) (by unfold cells at hj; simp at hj; omega)).2) (cells_one _)
  unfold cells at hst ⊢
  unfold Builtin.copy_
  simp [Sem.run_bind, run_underlying Try.underlying49, Builtin.lenOf, Builtin.firstCells]
  have e4 : (⟨#[b0, b1, b2, b3]⟩ : ByteArray).size.min 4 = 4 := rfl
  have e5 : List.take 4 [Value.int IntKind.u8 (b0.toNat : Int), Value.int IntKind.u8 (b1.toNat : Int), Value.int IntKind.u8 (b2.toNat : Int), Value.int IntKind.u8 (b3.toNat : Int)] = List.map (fun x => Value.int .u8 x) [(b0.toNat : Int), (b1.toNat : Int), (b2.toNat : Int), (b3.toNat : Int)] := rfl
  have hst2 : Sem.run Try.prog (storeCells ⟨B, 4, none⟩ (List.map (fun x => Value.int .u8 x) [(b0.toNat : Int), (b1.toNat : Int), (b2.toNat : Int), (b3.toNat : Int)])) w = .ok () (w.setCells B 4 (List.map (fun x => Value.int .u8 x) [(b0.toNat : Int), (b1.toNat : Int), (b2.toNat : Int), (b3.toNat : Int)])) := hst
  rw [e4, e5, hst2]
  rfl
theorem set4_range (x0 x1 x2 x3 : Int) (w : World) (B : Nat) (h : w.rangeAt B 0 (cells [0, 0, 0, 0, 0, 0, 0, 0])) : (w.setCells B 4 (cells [x0, x1, x2, x3])).rangeAt B 0 (cells [0, 0, 0, 0, x0, x1, x2, x3]) := by
  have hz : ∀ i, i < 8 → w.cell? ⟨B, i, none⟩ = some (.int .u8 0) := fun i hi => by
    have := h i (.int .u8 0) (by
      have h8 : i = 0 ∨ i = 1 ∨ i = 2 ∨ i = 3 ∨ i = 4 ∨ i = 5 ∨ i = 6 ∨ i = 7 := by omega
      rcases h8 with rfl | rfl | rfl | rfl | rfl | rfl | rfl | rfl <;> rfl)
    rwa [Nat.zero_add] at this
  have hin := World.cell?_setCells_in B (cells [x0, x1, x2, x3]) 4 w (fun i hi => by
    have hi4 : i < 4 := hi
    rw [hz (4 + i) (by omega)]; rfl)
  have hout : ∀ i, i < 4 → (w.setCells B 4 (cells [x0, x1, x2, x3])).cell? ⟨B, i, none⟩ = some (.int .u8 0) := fun i hi => by
    rw [World.cell?_setCells_out _ _ _ _ _ (fun _ _ => .inl hi)]
    exact hz i (by omega)
  have i0 := hin 0 (show 0 < 4 by omega)
  have i1 := hin 1 (show 1 < 4 by omega)
  have i2 := hin 2 (show 2 < 4 by omega)
  have i3 := hin 3 (show 3 < 4 by omega)
  have o0 := hout 0 (by omega)
  have o1 := hout 1 (by omega)
  have o2 := hout 2 (by omega)
  have o3 := hout 3 (by omega)
  generalize (w.setCells B 4 (cells [x0, x1, x2, x3])) = u at *
  clear hin hout hz h
  intro j v hj
  have hl := (List.getElem?_eq_some_iff.1 hj).1
  have h8 : j = 0 ∨ j = 1 ∨ j = 2 ∨ j = 3 ∨ j = 4 ∨ j = 5 ∨ j = 6 ∨ j = 7 := by simp [cells] at hl; omega
  rcases h8 with rfl | rfl | rfl | rfl | rfl | rfl | rfl | rfl
  all_goals
    simp only [cells, List.map_cons, List.map_nil, List.getElem?_cons_zero, List.getElem?_cons_succ, Option.some.injEq] at hj
    subst hj
    simpa [cells] using (by assumption)
theorem below_sets {B C : Nat} {w w' : World} (h : Below B w w') (hC : B ≤ C) : ∀ (vs : List Value) (o : Nat), Below B w (w'.setCells C o vs) := by
  intro vs
  induction vs generalizing w' with
  | nil => intro o; exact h
  | cons v vs ih => intro o; exact ih (h.setCell hC v) (o + 1)
set_option maxHeartbeats 2000000 in
theorem val_calls4 (b0 b1 b2 b3 : UInt8) (w : World) :
    Calls Try.prog 22 #[.string ⟨#[b0, b1, b2, b3]⟩] w fun x w' => x = .returned (.int .i64 (Cod.val [(b0.toNat : Int), (b1.toNat : Int), (b2.toNat : Int), (b3.toNat : Int)])) ∧ Below w.heap.size w w' := by
  have hn := num4_in b0 b1 b2 b3
  obtain ⟨n0, n1⟩ := hn
  have hm := num4 b0 b1 b2 b3
  have hr0 := range_new w (cells [0, 0, 0, 0, 0, 0, 0, 0]).toArray 54
  have hcp := copy4 b0 b1 b2 b3 (w.alloc (.cells (cells [0, 0, 0, 0, 0, 0, 0, 0]).toArray 54 (0, 0))) w.heap.size (fun j hj => by
    refine ⟨?_, frozen_of_row _ _ _ _ _ (heap_alloc_new _ _)⟩
    have := hr0 j (.int .u8 0) (by match j, hj with | 0, _ => rfl | 1, _ => rfl | 2, _ => rfl | 3, _ => rfl | 4, _ => rfl | 5, _ => rfl | 6, _ => rfl | 7, _ => rfl)
    rw [Nat.zero_add] at this
    rw [this]; rfl)
  have hr1 := set4_range (b0.toNat : Int) (b1.toNat : Int) (b2.toNat : Int) (b3.toNat : Int) _ _ hr0
  have Hb := hid (below_sets (grow w (.cells (cells [0, 0, 0, 0, 0, 0, 0, 0]).toArray 54 (0, 0))) (Nat.le_refl _) (cells [(b0.toNat : Int), (b1.toNat : Int), (b2.toNat : Int), (b3.toNat : Int)]) 4)
  obtain ⟨ZA, hZA⟩ : ∃ Z : Array Value, Hid (Z = (cells [0, 0, 0, 0, 0, 0, 0, 0]).toArray) := ⟨_, hid rfl⟩
  have hz : ∀ w, (zeroValue 54).run Try.prog w = .ok (.agg ZA) w := by
    intro w
    rw [hZA.out]
    kernel_rfl
  rw [← hZA.out] at hcp hr1 Hb
  have Hr1 := hid hr1
  have Hfr := hid (fun (u : World) (h : u.rangeAt w.heap.size 0 (cells [0, 0, 0, 0, (b0.toNat : Int), (b1.toNat : Int), (b2.toNat : Int), (b3.toNat : Int)])) => C02.from_calls [0, 0, 0, 0, (b0.toNat : Int), (b1.toNat : Int), (b2.toNat : Int), (b3.toNat : Int)] (some ⟨w.heap.size, 0, none⟩) 8 u (Nat.le_refl 8) (by decide) (by
    have h0 := b0.toNat_lt
    have h1 := b1.toNat_lt
    have h2 := b2.toNat_lt
    have h3 := b3.toNat_lt
    intro x hx
    simp at hx
    omega) (bytesAt8 h) (fun h => by cases h))
  rw [hm] at Hfr
  have hnar := hid fun w => C02.narrow_calls (Bits.num [(b0.toNat : Int), (b1.toNat : Int), (b2.toNat : Int), (b3.toNat : Int)]) (by omega) (by omega) w
  have hval : Hid (C02.narrow (Bits.num [(b0.toNat : Int), (b1.toNat : Int), (b2.toNat : Int), (b3.toNat : Int)]) = Cod.val [(b0.toNat : Int), (b1.toNat : Int), (b2.toNat : Int), (b3.toNat : Int)]) := by
    show _ = _
    unfold C02.narrow Cod.val
    rw [IntKind.wrap_i32]
  have hnin := C02.narrow_in (Bits.num [(b0.toNat : Int), (b1.toNat : Int), (b2.toNat : Int), (b3.toNat : Int)])
  obtain ⟨q0, q1⟩ := hnin
  clear hr0 hr1 hm
  generalize Bits.num [(b0.toNat : Int), (b1.toNat : Int), (b2.toNat : Int), (b3.toNat : Int)] = N at *
  go_enter Try.func22, Try.ntmps22
  go_wp2_with fail
  refine (Hfr.out _ Hr1.out).mono ?_
  rintro x w' ⟨rfl, rfl⟩
  go_wp2_with fail
  refine (hnar.out _).mono ?_
  rintro x w' ⟨rfl, rfl⟩
  go_wp2_with fail
  go_ret
  exact ⟨ret_int hval.out, Hb.out⟩
end Go.Proofs.Ytcfjefngfmnmaaa.C22
