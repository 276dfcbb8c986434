/- The examples' function of chapter 8 answers true. -/
import Derived.Test.YtnednhdbghkcnaaC08D
namespace Go.Proofs.Ytnednhdbghkcnaa.C08
open Go.RowKit Go.Proofs.Ytnednhdbghkcnaa
set_option linter.unusedVariables false
set_option linter.unusedSimpArgs false
set_option linter.unnecessarySimpa false
attribute [local go_sem] C01.max2_mx C01.min2_mn C01.max_two C01.min_two
theorem range_far {w : World} {b : Nat} {cs : List Value} (h : w.rangeAt b 0 cs) (p : Addr) (v : Value) (hne : p.block ≠ b) : (w.setCell p v).rangeAt b 0 cs := fun j u hj => by
  rw [World.cell?_setCell_other _ _ _ _ (fun e => hne (by rw [e]))]
  exact h j u hj
theorem range_new {w : World} {B : Nat} (C : Array Value) (t : TypeId) (hB : B = w.heap.size) : (w.alloc (.cells C t (0, 0))).rangeAt B 0 C.toList := by
  subst hB
  intro j v hj
  have hh : (w.alloc (.cells C t (0, 0))).heap[w.heap.size]? = some (.cells C t (0, 0)) := heap_alloc_new _ _
  rw [Nat.zero_add, cell_of_row _ _ _ _ _ _ hh]
  simpa using hj
/-- Configurations are compared. -/
theorem wf_u {n : Int} (h : U n) : (Lit.int .u64 n).wf = true := WalkArith.wf_u64 (by omega)
theorem wf_i {n : Int} (h : I n) : (Lit.int .i64 n).wf = true := WalkArith.wf_i64 (by omega)
/-- All fields are what their kinds say. -/
def Ok (F : Nat → Int) : Prop := I (F 0) ∧ I (F 1) ∧ I (F 2) ∧ I (F 3) ∧ I (F 4) ∧ I (F 5) ∧ U (F 6) ∧ U (F 7) ∧ I (F 8) ∧ I (F 9) ∧ U (F 10) ∧ I (F 11) ∧ U (F 12) ∧ U (F 13) ∧ I (F 14) ∧ I (F 15)
theorem lits {F : Nat → Int} (h : Ok F) : Opn.LitOk [.int .i64, .int .i64, .int .i64, .int .i64, .int .i64, .int .i64, .int .u64, .int .u64, .int .i64, .int .i64, .int .u64, .int .i64, .int .u64, .int .u64, .int .i64, .int .i64] [.int .i64 (F 0), .int .i64 (F 1), .int .i64 (F 2), .int .i64 (F 3), .int .i64 (F 4), .int .i64 (F 5), .int .u64 (F 6), .int .u64 (F 7), .int .i64 (F 8), .int .i64 (F 9), .int .u64 (F 10), .int .i64 (F 11), .int .u64 (F 12), .int .u64 (F 13), .int .i64 (F 14), .int .i64 (F 15)] [.int .i64 (F 0), .int .i64 (F 1), .int .i64 (F 2), .int .i64 (F 3), .int .i64 (F 4), .int .i64 (F 5), .int .u64 (F 6), .int .u64 (F 7), .int .i64 (F 8), .int .i64 (F 9), .int .u64 (F 10), .int .i64 (F 11), .int .u64 (F 12), .int .u64 (F 13), .int .i64 (F 14), .int .i64 (F 15)] := by
  obtain ⟨h0, h1, h2, h3, h4, h5, h6, h7, h8, h9, h10, h11, h12, h13, h14, h15⟩ := h
  exact ⟨_, _, _, _, rfl, rfl, ⟨_, rfl, rfl, wf_i h0⟩, ⟨_, _, _, _, rfl, rfl, ⟨_, rfl, rfl, wf_i h1⟩, ⟨_, _, _, _, rfl, rfl, ⟨_, rfl, rfl, wf_i h2⟩, ⟨_, _, _, _, rfl, rfl, ⟨_, rfl, rfl, wf_i h3⟩, ⟨_, _, _, _, rfl, rfl, ⟨_, rfl, rfl, wf_i h4⟩, ⟨_, _, _, _, rfl, rfl, ⟨_, rfl, rfl, wf_i h5⟩, ⟨_, _, _, _, rfl, rfl, ⟨_, rfl, rfl, wf_u h6⟩, ⟨_, _, _, _, rfl, rfl, ⟨_, rfl, rfl, wf_u h7⟩, ⟨_, _, _, _, rfl, rfl, ⟨_, rfl, rfl, wf_i h8⟩, ⟨_, _, _, _, rfl, rfl, ⟨_, rfl, rfl, wf_i h9⟩, ⟨_, _, _, _, rfl, rfl, ⟨_, rfl, rfl, wf_u h10⟩, ⟨_, _, _, _, rfl, rfl, ⟨_, rfl, rfl, wf_i h11⟩, ⟨_, _, _, _, rfl, rfl, ⟨_, rfl, rfl, wf_u h12⟩, ⟨_, _, _, _, rfl, rfl, ⟨_, rfl, rfl, wf_u h13⟩, ⟨_, _, _, _, rfl, rfl, ⟨_, rfl, rfl, wf_i h14⟩, ⟨_, _, _, _, rfl, rfl, ⟨_, rfl, rfl, wf_i h15⟩, ⟨rfl, rfl⟩⟩⟩⟩⟩⟩⟩⟩⟩⟩⟩⟩⟩⟩⟩⟩⟩
theorem eq_conf {F G : Nat → Int} (hF : Ok F) (hG : Ok G) (r : Bool) (hr : r = true ↔ F 0 = G 0 ∧ F 1 = G 1 ∧ F 2 = G 2 ∧ F 3 = G 3 ∧ F 4 = G 4 ∧ F 5 = G 5 ∧ F 6 = G 6 ∧ F 7 = G 7 ∧ F 8 = G 8 ∧ F 9 = G 9 ∧ F 10 = G 10 ∧ F 11 = G 11 ∧ F 12 = G 12 ∧ F 13 = G 13 ∧ F 14 = G 14 ∧ F 15 = G 15) (w : World) :
    Sem.run Try.prog (Op.equalIn 10000 24 (.agg #[.int .i64 (F 0), .int .i64 (F 1), .int .i64 (F 2), .int .i64 (F 3), .int .i64 (F 4), .int .i64 (F 5), .int .u64 (F 6), .int .u64 (F 7), .int .i64 (F 8), .int .i64 (F 9), .int .u64 (F 10), .int .i64 (F 11), .int .u64 (F 12), .int .u64 (F 13), .int .i64 (F 14), .int .i64 (F 15)]) (.agg #[.int .i64 (G 0), .int .i64 (G 1), .int .i64 (G 2), .int .i64 (G 3), .int .i64 (G 4), .int .i64 (G 5), .int .u64 (G 6), .int .u64 (G 7), .int .i64 (G 8), .int .i64 (G 9), .int .u64 (G 10), .int .i64 (G 11), .int .u64 (G 12), .int .u64 (G 13), .int .i64 (G 14), .int .i64 (G 15)])) w = .ok r w :=
  Opn.eq_run (ls := [.int .i64, .int .i64, .int .i64, .int .i64, .int .i64, .int .i64, .int .u64, .int .u64, .int .i64, .int .i64, .int .u64, .int .i64, .int .u64, .int .u64, .int .i64, .int .i64]) 9994 6 10000 (by rfl) (by kernel_rfl) (by kernel_rfl) (by kernel_rfl) (by kernel_rfl) (lits hF) (lits hG) r (by rw [hr]; simp) w
def P0 : Nat → Int := fun i => match i with | 0 => 1 | 1 => 2 | 2 => 1 | 3 => 0 | 4 => 1 | 5 => 2 | 6 => 10 | 7 => 5 | 8 => 4 | 9 => 50 | 10 => 20 | 11 => 2 | 12 => 10 | 13 => 0 | 14 => 0 | _ => 0
def P1 : Nat → Int := fun i => match i with | 0 => 1 | 1 => 0 | 2 => 1 | 3 => 0 | 4 => 1 | 5 => 2 | 6 => 10 | 7 => 5 | 8 => 4 | 9 => 50 | 10 => 20 | 11 => 2 | 12 => 10 | 13 => 0 | 14 => 0 | _ => 0
theorem nums0 : chk P0 = 0 ∧ chk P1 = 2 ∧ bnd P0 = 21 := by decide +kernel
theorem inP0 (j : Nat) : I (P0 j) := by unfold P0; split <;> omega
theorem inP1 (j : Nat) : I (P1 j) := by unfold P1; split <;> omega
theorem put_in {F : Nat → Int} (h : ∀ j, I (F j)) (j : Nat) : I (put F j) := by
  unfold put
  split <;> first | exact h _ | (unfold wrap64; omega)
theorem okP0 : Ok P0 := by unfold Ok; decide
theorem pool_calls (w : World) : Calls Try.prog 18 #[] w fun e w' => e = .returned (.agg #[.int .i64 1, .int .i64 2, .int .i64 1, .int .i64 0, .int .i64 1, .int .i64 2, .int .u64 10, .int .u64 5, .int .i64 4, .int .i64 50, .int .u64 20, .int .i64 2, .int .u64 10, .int .u64 0, .int .i64 0, .int .i64 0]) ∧ Below w.heap.size w w' := by
  go_enter Try.func18, Try.ntmps18
  go_wp2_with fail
  refine bodyPost_ret (v := .agg #[.int .i64 1, .int .i64 2, .int .i64 1, .int .i64 0, .int .i64 1, .int .i64 2, .int .u64 10, .int .u64 5, .int .i64 4, .int .i64 50, .int .u64 20, .int .i64 2, .int .u64 10, .int .u64 0, .int .i64 0, .int .i64 0]) (by simp [results, Try.results18, go_sem]) rfl ⟨rfl, ?_⟩
  repeat (first | exact Below.refl _ _ | refine Below.setCell ?_ (by first | exact Nat.le_refl _ | simp) _ | refine Below.alloc ?_ (by simp) _)
theorem check0 (w : World) : Calls Try.prog 10 #[.agg #[.int .i64 1, .int .i64 2, .int .i64 1, .int .i64 0, .int .i64 1, .int .i64 2, .int .u64 10, .int .u64 5, .int .i64 4, .int .i64 50, .int .u64 20, .int .i64 2, .int .u64 10, .int .u64 0, .int .i64 0, .int .i64 0]] w fun e w' => e = .returned (.tuple #[.int .i64 0, .int .i64 0]) ∧ Below w.heap.size w w' := by
  have := check_calls P0 (put_in inP0) w
  rw [nums0.1] at this
  exact this
theorem check1 (w : World) : Calls Try.prog 10 #[.agg #[.int .i64 1, .int .i64 0, .int .i64 1, .int .i64 0, .int .i64 1, .int .i64 2, .int .u64 10, .int .u64 5, .int .i64 4, .int .i64 50, .int .u64 20, .int .i64 2, .int .u64 10, .int .u64 0, .int .i64 0, .int .i64 0]] w fun e w' => e = .returned (.tuple #[.int .i64 2, .int .i64 1]) ∧ Below w.heap.size w w' := by
  have := check_calls P1 (put_in inP1) w
  rw [nums0.2.1] at this
  exact this
theorem put0 (w : World) : Calls Try.prog 12 #[.agg #[.int .i64 1, .int .i64 2, .int .i64 1, .int .i64 0, .int .i64 1, .int .i64 2, .int .u64 10, .int .u64 5, .int .i64 4, .int .i64 50, .int .u64 20, .int .i64 2, .int .u64 10, .int .u64 0, .int .i64 0, .int .i64 0]] w fun e w' => e = .returned (.agg #[.int .i64 1, .int .i64 2, .int .i64 1, .int .i64 0, .int .i64 1, .int .i64 2, .int .i64 10, .int .i64 5, .int .i64 4, .int .i64 50, .int .i64 20, .int .i64 2, .int .i64 10, .int .i64 0, .int .i64 0, .int .i64 0]) ∧ Below w.heap.size w w' := by
  have := put_calls P0 w
  rw [show wrap64 (P0 6) = 10 from by show wrap64 10 = 10; unfold wrap64; rfl, show wrap64 (P0 7) = 5 from by show wrap64 5 = 5; unfold wrap64; rfl, show wrap64 (P0 10) = 20 from by show wrap64 20 = 20; unfold wrap64; rfl, show wrap64 (P0 12) = 10 from by show wrap64 10 = 10; unfold wrap64; rfl, show wrap64 (P0 13) = 0 from by show wrap64 0 = 0; unfold wrap64; rfl] at this
  exact this
theorem ofn0 : chk (ofn P0) = 0 := by decide +kernel
theorem take0 (w : World) : Calls Try.prog 16 #[.agg #[.int .i64 1, .int .i64 2, .int .i64 1, .int .i64 0, .int .i64 1, .int .i64 2, .int .i64 10, .int .i64 5, .int .i64 4, .int .i64 50, .int .i64 20, .int .i64 2, .int .i64 10, .int .i64 0, .int .i64 0, .int .i64 0]] w fun e w' => e = .returned (.tuple #[.agg #[.int .i64 1, .int .i64 2, .int .i64 1, .int .i64 0, .int .i64 1, .int .i64 2, .int .u64 10, .int .u64 5, .int .i64 4, .int .i64 50, .int .u64 20, .int .i64 2, .int .u64 10, .int .u64 0, .int .i64 0, .int .i64 0], .int .i64 0, .int .i64 0]) ∧ Below w.heap.size w w' := by
  refine (take_calls P0 inP0 w).mono fun e w' h => ⟨?_, h.2⟩
  rcases h.1 with ⟨_, h1⟩ | ⟨h1, _⟩
  · exact h1
  · rw [ofn0] at h1; exact absurd h1 (by omega)
theorem bound0 (w : World) : Calls Try.prog 14 #[.agg #[.int .i64 1, .int .i64 2, .int .i64 1, .int .i64 0, .int .i64 1, .int .i64 2, .int .u64 10, .int .u64 5, .int .i64 4, .int .i64 50, .int .u64 20, .int .i64 2, .int .u64 10, .int .u64 0, .int .i64 0, .int .i64 0]] w fun e w' => e = .returned (.int .u64 21) ∧ Below w.heap.size w w' := by
  have := bound_calls P0 (inP0 5) (by decide) (by decide) (by decide) w
  rw [nums0.2.2] at this
  exact this
set_option maxRecDepth 20000 in
set_option maxHeartbeats 4000000 in
theorem awake_core (w : World) (DL : List Value) (hD : Hid (DL = [.int .i64 1, .int .i64 2, .int .i64 1, .int .i64 0, .int .i64 1, .int .i64 2, .int .u64 10, .int .u64 5, .int .i64 4, .int .i64 50, .int .u64 20, .int .i64 2, .int .u64 10, .int .u64 0, .int .i64 0, .int .i64 0]))
    (hP : Hid (∀ w, Calls Try.prog 18 #[] w fun e w' => e = .returned (.agg DL.toArray) ∧ Below w.heap.size w w'))
    (hB : Hid (∀ w, Calls Try.prog 14 #[.agg DL.toArray] w fun e w' => e = .returned (.int .u64 21) ∧ Below w.heap.size w w'))
    (heq : ∀ w, Sem.run Try.prog (Op.equalIn 10000 24 (.agg DL.toArray) (.agg DL.toArray)) w = .ok true w) :
    Calls Try.prog 9 #[] w fun e w' => e = .returned (.bool true) ∧ Below w.heap.size w w' := by
  have i16 : (Try.prog.info? 24).map (·.size) = some 16 := by kernel_rfl
  have hiD : (Try.prog.info? 24).map (·.size) = some DL.length := by rw [i16, hD.out]; rfl
  clear i16
  go_enter Try.func9, Try.ntmps9
  go_wp2_with fail
  refine (pool_calls _).mono ?_
  rintro e w1 ⟨rfl, hl1⟩
  go_wp2_with fail
  refine (check0 _).mono ?_
  rintro e w2 ⟨rfl, hl2⟩
  have b2 := hid (via (hl1.alloc hl1.size _) hl2)
  have hc : w2.cell? ⟨w1.heap.size, 0, none⟩ = some (.int .i64 1) ∧ w2.cell? ⟨w1.heap.size, 1, none⟩ = some (.int .i64 2) ∧ w2.cell? ⟨w1.heap.size, 2, none⟩ = some (.int .i64 1) ∧ w2.cell? ⟨w1.heap.size, 3, none⟩ = some (.int .i64 0) ∧ w2.cell? ⟨w1.heap.size, 4, none⟩ = some (.int .i64 1) ∧ w2.cell? ⟨w1.heap.size, 5, none⟩ = some (.int .i64 2) ∧ w2.cell? ⟨w1.heap.size, 6, none⟩ = some (.int .u64 10) ∧ w2.cell? ⟨w1.heap.size, 7, none⟩ = some (.int .u64 5) ∧ w2.cell? ⟨w1.heap.size, 8, none⟩ = some (.int .i64 4) ∧ w2.cell? ⟨w1.heap.size, 9, none⟩ = some (.int .i64 50) ∧ w2.cell? ⟨w1.heap.size, 10, none⟩ = some (.int .u64 20) ∧ w2.cell? ⟨w1.heap.size, 11, none⟩ = some (.int .i64 2) ∧ w2.cell? ⟨w1.heap.size, 12, none⟩ = some (.int .u64 10) ∧ w2.cell? ⟨w1.heap.size, 13, none⟩ = some (.int .u64 0) ∧ w2.cell? ⟨w1.heap.size, 14, none⟩ = some (.int .i64 0) ∧ w2.cell? ⟨w1.heap.size, 15, none⟩ = some (.int .i64 0) := by
    (repeat' apply And.intro) <;> exact cell_of hl2 (by simp [go_sem])
  have hf2 : ∀ i, w2.frozen? ⟨w1.heap.size, i, none⟩ = false := fun i => (hl2.frozen (by simp)).trans (by simp [go_sem])
  have hlt : w1.heap.size < w2.heap.size := World.block_lt_of_cell? w2 _ hc.1
  have H1 := hid hl1.size
  clear hl1 hl2
  obtain ⟨c0, c1, c2, c3, c4, c5, c6, c7, c8, c9, c10, c11, c12, c13, c14, c15⟩ := hc
  have Hlt := hid hlt
  clear hlt
  as_aux_lemma =>
    go_wp2_with fail
    refine (put0 _).mono ?_
    rintro e w3 ⟨rfl, hl3⟩
    go_wp2_with fail
    refine (take0 _).mono ?_
    rintro e w4 ⟨rfl, hl4⟩
    have l34 := via hl3 hl4
    have b4 := hid (via b2.out l34)
    have c0 := fun o => cell_of (grow' w4 o) (cell_of l34 c0)
    have c1 := fun o => cell_of (grow' w4 o) (cell_of l34 c1)
    have c2 := fun o => cell_of (grow' w4 o) (cell_of l34 c2)
    have c3 := fun o => cell_of (grow' w4 o) (cell_of l34 c3)
    have c4 := fun o => cell_of (grow' w4 o) (cell_of l34 c4)
    have c5 := fun o => cell_of (grow' w4 o) (cell_of l34 c5)
    have c6 := fun o => cell_of (grow' w4 o) (cell_of l34 c6)
    have c7 := fun o => cell_of (grow' w4 o) (cell_of l34 c7)
    have c8 := fun o => cell_of (grow' w4 o) (cell_of l34 c8)
    have c9 := fun o => cell_of (grow' w4 o) (cell_of l34 c9)
    have c10 := fun o => cell_of (grow' w4 o) (cell_of l34 c10)
    have c11 := fun o => cell_of (grow' w4 o) (cell_of l34 c11)
    have c12 := fun o => cell_of (grow' w4 o) (cell_of l34 c12)
    have c13 := fun o => cell_of (grow' w4 o) (cell_of l34 c13)
    have c14 := fun o => cell_of (grow' w4 o) (cell_of l34 c14)
    have c15 := fun o => cell_of (grow' w4 o) (cell_of l34 c15)
    have hf4 : ∀ o i, (w4.alloc o).frozen? ⟨w1.heap.size, i, none⟩ = false := fun o i => ((grow' w4 o).frozen (Nat.lt_of_lt_of_le Hlt.out l34.size)).trans ((l34.frozen Hlt.out).trans (hf2 i))
    have hne := hid (Nat.ne_of_lt (Nat.lt_of_lt_of_le Hlt.out l34.size))
    clear hf2 hl3 hl4 l34
    as_aux_lemma =>
      go_wp2_with fail
      refine (check1 _).mono ?_
      rintro e w5 ⟨rfl, hl5⟩
      have hS5 : Hid (Below w.heap.size w w5 ∧ w5.rangeAt w4.heap.size 0 DL) := by
        refine hid ⟨via ((b4.out.alloc b4.out.size _).setCell H1.out _) hl5, ?_⟩
        rw [hD.out]
        exact range_below hl5 (range_far (range_new _ _ rfl) _ _ hne.out)
      clear hl5 c0 c1 c2 c3 c4 c5 c6 c7 c8 c9 c10 c11 c12 c13 c14 c15 hf4
      have keepS := hid (fun (w6 w7 : World) (hS : Hid (Below w.heap.size w w6 ∧ w6.rangeAt w4.heap.size 0 DL)) (hl : Below w6.heap.size w6 w7) =>
        (show Hid (Below w.heap.size w w7 ∧ w7.rangeAt w4.heap.size 0 DL) from hid ⟨via hS.out.1 hl, range_below hl hS.out.2⟩))
      have hS0 := keepS.out _ _ hS5 (quiet _)
      as_aux_lemma =>
        go_wp2_with fail
        refine wp_region_held_drew (S := fun w' => Hid (Below w.heap.size w w' ∧ w'.rangeAt w4.heap.size 0 DL)) (by kernel_rfl) ?_ (fun hH0 => ?_)
        · exact hS0
        refine Reg.tk (i := 0) (oi := ?_) ?_ ?_
        rotate_left
        · (simp only [List.getElem?_toArray, List.getElem?_cons_succ, List.getElem?_cons_zero]; exact rfl)
        refine ⟨?_, by kernel_rfl, by kernel_rfl, by kernel_rfl, fun _ _ _ h => h, Or.inl ⟨by rfl, ?_⟩, hH0, ?_⟩
        rotate_left
        · (intro w hSw; clear hSw; go_simp; try with_reducible rfl)
        try simp only [Act.put, List.setIfInBounds_toArray, List.set_cons_zero, List.set_cons_succ]
        refine Reg.tk (i := 1) (oi := ?_) ?_ ?_
        rotate_left
        · (simp only [List.getElem?_toArray, List.getElem?_cons_succ, List.getElem?_cons_zero]; exact rfl)
        refine ⟨?_, by kernel_rfl, by kernel_rfl, by kernel_rfl, fun _ _ _ h => h, Or.inl ⟨by rfl, ?_⟩, hH0, ?_⟩
        rotate_left
        · (intro w hSw; clear hSw; go_simp; try with_reducible rfl)
        try simp only [Act.put, List.setIfInBounds_toArray, List.set_cons_zero, List.set_cons_succ]
        refine Reg.tk (i := 2) (oi := ?_) ?_ ?_
        rotate_left
        · (simp only [List.getElem?_toArray, List.getElem?_cons_succ, List.getElem?_cons_zero]; exact rfl)
        refine ⟨?_, by kernel_rfl, by kernel_rfl, by kernel_rfl, fun _ _ _ h => h, Or.inl ⟨by rfl, ?_⟩, hH0, ?_⟩
        rotate_left
        · (intro w hSw; clear hSw; go_simp; try with_reducible rfl)
        try simp only [Act.put, List.setIfInBounds_toArray, List.set_cons_zero, List.set_cons_succ]
        refine Reg.tk (i := 3) (oi := ?_) ?_ ?_
        rotate_left
        · (simp only [List.getElem?_toArray, List.getElem?_cons_succ, List.getElem?_cons_zero]; exact rfl)
        refine ⟨?_, by kernel_rfl, by kernel_rfl, by kernel_rfl, fun _ _ _ h => h, Or.inl ⟨by rfl, ?_⟩, hH0, ?_⟩
        rotate_left
        · (intro w hSw; clear hSw; go_simp; try with_reducible rfl)
        try simp only [Act.put, List.setIfInBounds_toArray, List.set_cons_zero, List.set_cons_succ]
        refine Reg.tk (i := 4) (oi := ?_) ?_ ?_
        rotate_left
        · (simp only [List.getElem?_toArray, List.getElem?_cons_succ, List.getElem?_cons_zero]; exact rfl)
        refine ⟨?_, by kernel_rfl, by kernel_rfl, by kernel_rfl, fun _ _ _ h => h, Or.inl ⟨by rfl, ?_⟩, hH0, ?_⟩
        rotate_left
        · (intro w hSw; clear hSw; go_simp; try with_reducible rfl)
        try simp only [Act.put, List.setIfInBounds_toArray, List.set_cons_zero, List.set_cons_succ]
        refine Reg.tk (i := 5) (oi := ?_) ?_ ?_
        rotate_left
        · (simp only [List.getElem?_toArray, List.getElem?_cons_succ, List.getElem?_cons_zero]; exact rfl)
        refine ⟨?_, by kernel_rfl, by kernel_rfl, by kernel_rfl, fun _ _ _ h => h, Or.inl ⟨by rfl, ?_⟩, hH0, ?_⟩
        rotate_left
        · (intro w hSw; clear hSw; go_simp; try with_reducible rfl)
        try simp only [Act.put, List.setIfInBounds_toArray, List.set_cons_zero, List.set_cons_succ]
        refine Reg.tk (i := 6) (oi := ?_) ?_ ?_
        rotate_left
        · (simp only [List.getElem?_toArray, List.getElem?_cons_succ, List.getElem?_cons_zero]; exact rfl)
        refine ⟨?_, by kernel_rfl, by kernel_rfl, by kernel_rfl, fun _ _ _ h => h, Or.inl ⟨by rfl, ?_⟩, hH0, ?_⟩
        rotate_left
        · (intro w hSw; clear hSw; go_simp; try with_reducible rfl)
        try simp only [Act.put, List.setIfInBounds_toArray, List.set_cons_zero, List.set_cons_succ]
        refine Reg.tk (i := 7) (oi := ?_) ?_ ?_
        rotate_left
        · (simp only [List.getElem?_toArray, List.getElem?_cons_succ, List.getElem?_cons_zero]; exact rfl)
        refine ⟨?_, by kernel_rfl, by kernel_rfl, by kernel_rfl, fun _ _ _ h => h, Or.inl ⟨by rfl, ?_⟩, hH0, ?_⟩
        rotate_left
        · (intro w hSw; clear hSw; go_simp; try with_reducible rfl)
        try simp only [Act.put, List.setIfInBounds_toArray, List.set_cons_zero, List.set_cons_succ]
        refine Reg.tk (i := 8) (oi := ?_) ?_ ?_
        rotate_left
        · (simp only [List.getElem?_toArray, List.getElem?_cons_succ, List.getElem?_cons_zero]; exact rfl)
        refine ⟨?_, by kernel_rfl, by kernel_rfl, by kernel_rfl, fun _ _ _ h => h, Or.inl ⟨by rfl, ?_⟩, hH0, ?_⟩
        rotate_left
        · (intro w hSw; clear hSw; go_simp; try with_reducible rfl)
        try simp only [Act.put, List.setIfInBounds_toArray, List.set_cons_zero, List.set_cons_succ]
        refine Reg.tk (i := 9) (oi := ?_) ?_ ?_
        rotate_left
        · (simp only [List.getElem?_toArray, List.getElem?_cons_succ, List.getElem?_cons_zero]; exact rfl)
        refine ⟨?_, by kernel_rfl, by kernel_rfl, by kernel_rfl, fun _ _ _ h => h, Or.inl ⟨by rfl, ?_⟩, hH0, ?_⟩
        rotate_left
        · (intro w hSw; clear hSw; go_simp; try with_reducible rfl)
        try simp only [Act.put, List.setIfInBounds_toArray, List.set_cons_zero, List.set_cons_succ]
        refine Reg.tk (i := 10) (oi := ?_) ?_ ?_
        rotate_left
        · (simp only [List.getElem?_toArray, List.getElem?_cons_succ, List.getElem?_cons_zero]; exact rfl)
        refine ⟨?_, by kernel_rfl, by kernel_rfl, by kernel_rfl, fun _ _ _ h => h, Or.inl ⟨by rfl, ?_⟩, hH0, ?_⟩
        rotate_left
        · (intro w hSw; clear hSw; go_simp; try with_reducible rfl)
        try simp only [Act.put, List.setIfInBounds_toArray, List.set_cons_zero, List.set_cons_succ]
        refine Reg.tk (i := 11) (oi := ?_) ?_ ?_
        rotate_left
        · (simp only [List.getElem?_toArray, List.getElem?_cons_succ, List.getElem?_cons_zero]; exact rfl)
        refine ⟨?_, by kernel_rfl, by kernel_rfl, by kernel_rfl, fun _ _ _ h => h, Or.inl ⟨by rfl, ?_⟩, hH0, ?_⟩
        rotate_left
        · (intro w hSw; clear hSw; go_simp; try with_reducible rfl)
        try simp only [Act.put, List.setIfInBounds_toArray, List.set_cons_zero, List.set_cons_succ]
        refine Reg.tk (i := 12) (oi := ?_) ?_ ?_
        rotate_left
        · (simp only [List.getElem?_toArray, List.getElem?_cons_succ, List.getElem?_cons_zero]; exact rfl)
        refine ⟨?_, by kernel_rfl, by kernel_rfl, by kernel_rfl, fun _ _ _ h => h, Or.inl ⟨by rfl, ?_⟩, hH0, ?_⟩
        rotate_left
        · (intro w hSw; clear hSw; go_simp; try with_reducible rfl)
        try simp only [Act.put, List.setIfInBounds_toArray, List.set_cons_zero, List.set_cons_succ]
        refine Reg.tk (i := 13) (oi := ?_) ?_ ?_
        rotate_left
        · (simp only [List.getElem?_toArray, List.getElem?_cons_succ, List.getElem?_cons_zero]; exact rfl)
        refine ⟨?_, by kernel_rfl, by kernel_rfl, by kernel_rfl, fun _ _ _ h => h, Or.inl ⟨by rfl, ?_⟩, hH0, ?_⟩
        rotate_left
        · (intro w hSw; clear hSw; go_simp; try with_reducible rfl)
        try simp only [Act.put, List.setIfInBounds_toArray, List.set_cons_zero, List.set_cons_succ]
        refine Reg.tk (i := 14) (oi := ?_) ?_ ?_
        rotate_left
        · (simp only [List.getElem?_toArray, List.getElem?_cons_succ, List.getElem?_cons_zero]; exact rfl)
        refine ⟨?_, by kernel_rfl, by kernel_rfl, by kernel_rfl, fun _ _ _ h => h, Or.inl ⟨by rfl, ?_⟩, hH0, ?_⟩
        rotate_left
        · (intro w hSw; clear hSw; go_simp; try with_reducible rfl)
        try simp only [Act.put, List.setIfInBounds_toArray, List.set_cons_zero, List.set_cons_succ]
        refine Reg.tk (i := 15) (oi := ?_) ?_ ?_
        rotate_left
        · (simp only [List.getElem?_toArray, List.getElem?_cons_succ, List.getElem?_cons_zero]; exact rfl)
        refine ⟨_, by kernel_rfl, by kernel_rfl, by kernel_rfl, fun _ _ _ h => h, yieldsIf_load_mid (by rfl) 24 _ rfl w4.heap.size 0 rfl DL _ (fun w hSw => hSw.out.2) Try.underlying24 rfl hiD, hH0, ?_⟩
        try simp only [Act.put, List.setIfInBounds_toArray, List.set_cons_zero, List.set_cons_succ]
        refine Reg.one (i := 16) (oi := ?_) ?_ ?_
        rotate_left
        · (simp only [List.getElem?_toArray, List.getElem?_cons_succ, List.getElem?_cons_zero]; exact rfl)
        refine ⟨by kernel_rfl, fun K hK => ?_⟩
        go_simp
        refine (hP.out _).mono ?_
        rintro e v0 ⟨rfl, hl0⟩
        refine hK.out _ _ (keepS.out _ _ hH0 hl0) (fun hH1 => ?_)
        clear hK K hH0 hl0
        try simp only [Act.put, List.setIfInBounds_toArray, List.set_cons_zero, List.set_cons_succ]
        as_aux_lemma =>
          refine Reg.tk (i := 17) (oi := ?_) ?_ ?_
          rotate_left
          · (simp only [List.getElem?_toArray, List.getElem?_cons_succ, List.getElem?_cons_zero]; exact rfl)
          refine ⟨?_, by kernel_rfl, by kernel_rfl, by kernel_rfl, fun _ _ _ h => h, Or.inl ⟨by rfl, ?_⟩, hH1, ?_⟩
          rotate_left
          · (intro w hSw; clear hSw; go_simp; try with_reducible rfl)
          try simp only [Act.put, List.setIfInBounds_toArray, List.set_cons_zero, List.set_cons_succ]
          refine Reg.tk (i := 18) (oi := ?_) ?_ ?_
          rotate_left
          · (simp only [List.getElem?_toArray, List.getElem?_cons_succ, List.getElem?_cons_zero]; exact rfl)
          refine ⟨?_, by kernel_rfl, by kernel_rfl, by kernel_rfl, fun _ _ _ h => h, Or.inl ⟨by rfl, ?_⟩, hH1, ?_⟩
          rotate_left
          · (intro w hSw; clear hSw; go_simp; try with_reducible rfl)
          try simp only [Act.put, List.setIfInBounds_toArray, List.set_cons_zero, List.set_cons_succ]
          refine Reg.tk (i := 19) (oi := ?_) ?_ ?_
          rotate_left
          · (simp only [List.getElem?_toArray, List.getElem?_cons_succ, List.getElem?_cons_zero]; exact rfl)
          refine ⟨?_, by kernel_rfl, by kernel_rfl, by kernel_rfl, fun _ _ _ h => h, Or.inl ⟨by rfl, ?_⟩, hH1, ?_⟩
          rotate_left
          · (intro w hSw; clear hSw; go_simp; try with_reducible rfl)
          try simp only [Act.put, List.setIfInBounds_toArray, List.set_cons_zero, List.set_cons_succ]
          refine Reg.tk (i := 20) (oi := ?_) ?_ ?_
          rotate_left
          · (simp only [List.getElem?_toArray, List.getElem?_cons_succ, List.getElem?_cons_zero]; exact rfl)
          refine ⟨?_, by kernel_rfl, by kernel_rfl, by kernel_rfl, fun _ _ _ h => h, Or.inl ⟨by rfl, ?_⟩, hH1, ?_⟩
          rotate_left
          · (intro w hSw; clear hSw; go_simp; try with_reducible rfl)
          try simp only [Act.put, List.setIfInBounds_toArray, List.set_cons_zero, List.set_cons_succ]
          refine Reg.tk (i := 21) (oi := ?_) ?_ ?_
          rotate_left
          · (simp only [List.getElem?_toArray, List.getElem?_cons_succ, List.getElem?_cons_zero]; exact rfl)
          refine ⟨?_, by kernel_rfl, by kernel_rfl, by kernel_rfl, fun _ _ _ h => h, Or.inl ⟨by rfl, ?_⟩, hH1, ?_⟩
          rotate_left
          · (intro w hSw; clear hSw; go_simp; try with_reducible rfl)
          try simp only [Act.put, List.setIfInBounds_toArray, List.set_cons_zero, List.set_cons_succ]
          refine Reg.tk (i := 22) (oi := ?_) ?_ ?_
          rotate_left
          · (simp only [List.getElem?_toArray, List.getElem?_cons_succ, List.getElem?_cons_zero]; exact rfl)
          refine ⟨?_, by kernel_rfl, by kernel_rfl, by kernel_rfl, fun _ _ _ h => h, Or.inl ⟨by rfl, ?_⟩, hH1, ?_⟩
          rotate_left
          · (intro w hSw; clear hSw; go_simp; try with_reducible rfl)
          try simp only [Act.put, List.setIfInBounds_toArray, List.set_cons_zero, List.set_cons_succ]
          refine Reg.tk (i := 23) (oi := ?_) ?_ ?_
          rotate_left
          · (simp only [List.getElem?_toArray, List.getElem?_cons_succ, List.getElem?_cons_zero]; exact rfl)
          refine ⟨?_, by kernel_rfl, by kernel_rfl, by kernel_rfl, fun _ _ _ h => h, Or.inl ⟨by rfl, ?_⟩, hH1, ?_⟩
          rotate_left
          · (intro w hSw; clear hSw; go_simp; try with_reducible rfl)
          try simp only [Act.put, List.setIfInBounds_toArray, List.set_cons_zero, List.set_cons_succ]
          refine Reg.tk (i := 24) (oi := ?_) ?_ ?_
          rotate_left
          · (simp only [List.getElem?_toArray, List.getElem?_cons_succ, List.getElem?_cons_zero]; exact rfl)
          refine ⟨?_, by kernel_rfl, by kernel_rfl, by kernel_rfl, fun _ _ _ h => h, Or.inl ⟨by rfl, ?_⟩, hH1, ?_⟩
          rotate_left
          · (intro w hSw; clear hSw; go_simp; try with_reducible rfl)
          try simp only [Act.put, List.setIfInBounds_toArray, List.set_cons_zero, List.set_cons_succ]
          refine Reg.tk (i := 25) (oi := ?_) ?_ ?_
          rotate_left
          · (simp only [List.getElem?_toArray, List.getElem?_cons_succ, List.getElem?_cons_zero]; exact rfl)
          refine ⟨?_, by kernel_rfl, by kernel_rfl, by kernel_rfl, fun _ _ _ h => h, Or.inl ⟨by rfl, ?_⟩, hH1, ?_⟩
          rotate_left
          · (intro w hSw; clear hSw; go_simp; try with_reducible rfl)
          try simp only [Act.put, List.setIfInBounds_toArray, List.set_cons_zero, List.set_cons_succ]
          refine Reg.tk (i := 26) (oi := ?_) ?_ ?_
          rotate_left
          · (simp only [List.getElem?_toArray, List.getElem?_cons_succ, List.getElem?_cons_zero]; exact rfl)
          refine ⟨?_, by kernel_rfl, by kernel_rfl, by kernel_rfl, fun _ _ _ h => h, Or.inl ⟨by rfl, ?_⟩, hH1, ?_⟩
          rotate_left
          · (intro w hSw; clear hSw; go_simp; try with_reducible rfl)
          try simp only [Act.put, List.setIfInBounds_toArray, List.set_cons_zero, List.set_cons_succ]
          refine Reg.tk (i := 27) (oi := ?_) ?_ ?_
          rotate_left
          · (simp only [List.getElem?_toArray, List.getElem?_cons_succ, List.getElem?_cons_zero]; exact rfl)
          refine ⟨?_, by kernel_rfl, by kernel_rfl, by kernel_rfl, fun _ _ _ h => h, Or.inl ⟨by rfl, ?_⟩, hH1, ?_⟩
          rotate_left
          · (intro w hSw; clear hSw; go_simp; try with_reducible rfl)
          try simp only [Act.put, List.setIfInBounds_toArray, List.set_cons_zero, List.set_cons_succ]
          refine Reg.one (i := 28) (oi := ?_) ?_ ?_
          rotate_left
          · (simp only [List.getElem?_toArray, List.getElem?_cons_succ, List.getElem?_cons_zero]; exact rfl)
          refine ⟨by kernel_rfl, fun K hK => ?_⟩
          go_simp
          refine (hP.out _).mono ?_
          rintro e v1 ⟨rfl, hl1⟩
          refine hK.out _ _ (keepS.out _ _ hH1 hl1) (fun hH2 => ?_)
          clear hK K hH1 hl1
          try simp only [Act.put, List.setIfInBounds_toArray, List.set_cons_zero, List.set_cons_succ]
          refine Reg.one (i := 29) (oi := ?_) ?_ ?_
          rotate_left
          · (simp only [List.getElem?_toArray, List.getElem?_cons_succ, List.getElem?_cons_zero]; exact rfl)
          refine ⟨by kernel_rfl, fun K hK => ?_⟩
          go_simp
          refine (hB.out _).mono ?_
          rintro e v2 ⟨rfl, hl2⟩
          refine hK.out _ _ (keepS.out _ _ hH2 hl2) (fun hH3 => ?_)
          clear hK K hH2 hl2
          try simp only [Act.put, List.setIfInBounds_toArray, List.set_cons_zero, List.set_cons_succ]
          refine Reg.tk (i := 30) (oi := ?_) ?_ ?_
          rotate_left
          · (simp only [List.getElem?_toArray, List.getElem?_cons_succ, List.getElem?_cons_zero]; exact rfl)
          refine ⟨?_, by kernel_rfl, by kernel_rfl, by kernel_rfl, fun _ _ _ h => h, Or.inl ⟨by rfl, ?_⟩, hH3, ?_⟩
          rotate_left
          · (intro w hSw; clear hSw; go_simp; try with_reducible rfl)
          try simp only [Act.put, List.setIfInBounds_toArray, List.set_cons_zero, List.set_cons_succ]
          refine Reg.tk (i := 31) (oi := ?_) ?_ ?_
          rotate_left
          · (simp only [List.getElem?_toArray, List.getElem?_cons_succ, List.getElem?_cons_zero]; exact rfl)
          refine ⟨?_, by kernel_rfl, by kernel_rfl, by kernel_rfl, fun _ _ _ h => h, Or.inl ⟨by rfl, ?_⟩, hH3, ?_⟩
          rotate_left
          · (intro w hSw; clear hSw; go_simp; try with_reducible rfl)
          try simp only [Act.put, List.setIfInBounds_toArray, List.set_cons_zero, List.set_cons_succ]
          refine Reg.tk (i := 32) (oi := ?_) ?_ ?_
          rotate_left
          · (simp only [List.getElem?_toArray, List.getElem?_cons_succ, List.getElem?_cons_zero]; exact rfl)
          refine ⟨?_, by kernel_rfl, by kernel_rfl, by kernel_rfl, fun _ _ _ h => h, Or.inl ⟨by rfl, ?_⟩, hH3, ?_⟩
          rotate_left
          · (intro w hSw; clear hSw; go_simp; try with_reducible rfl)
          try simp only [Act.put, List.setIfInBounds_toArray, List.set_cons_zero, List.set_cons_succ]
          refine wpAnyH_done (by kernel_rfl) ?_ _
          go_wp2_with fail
          go_ret
          exact ⟨rfl, hH3.out.1⟩
theorem awake_calls (w : World) : Calls Try.prog 9 #[] w fun e w' => e = .returned (.bool true) ∧ Below w.heap.size w w' :=
  awake_core w _ (hid rfl) (hid pool_calls) (hid bound0) (eq_conf okP0 okP0 true (by simp))
end Go.Proofs.Ytnednhdbghkcnaa.C08
