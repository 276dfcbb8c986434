/- The walk of the law WindowLasts. -/
import Derived.Test.YtaepffcnhieckaaC06F
import Derived.Test.YtaepffcnhieckaaC06E
import Derived.Test.YtaepffcnhieckaaC06H
import Derived.Test.YtaepffcnhieckaaReg
namespace Go.Proofs.Ytaepffcnhieckaa.C06
open Go.RowKit Go.Proofs.Ytaepffcnhieckaa Go.Proofs.Ytaepffcnhieckaa.Win
set_option linter.unusedVariables false
set_option linter.unusedSimpArgs false
set_option linter.unnecessarySimpa false
attribute [local go_sem] C01.max2_mx C01.min2_mn C01.max_two C01.min_two
theorem range_new {w : World} {B : Nat} (C : Array Value) (t : TypeId) (hB : B = w.heap.size) : (w.alloc (.cells C t (0, 0))).rangeAt B 0 C.toList := by
  subst hB
  intro j v hj
  have hh : (w.alloc (.cells C t (0, 0))).heap[w.heap.size]? = some (.cells C t (0, 0)) := heap_alloc_new _ _
  rw [Nat.zero_add, cell_of_row _ _ _ _ _ _ hh]
  simpa using hj
set_option maxRecDepth 20000 in
set_option maxHeartbeats 8000000 in
theorem lasts_core (b0 b1 wd t m d E : Int) (k : Nat) (w : World) (b00 : 0 ≤ b0) (b01 : b0 ≤ 255) (hm : b0 % 8 = m) (m0 : 0 ≤ m) (m1 : m ≤ 7) (b10 : 0 ≤ b1) (b11 : b1 ≤ 255) (hk : b1 % 5 = k) (k1 : k < 5)
    (wd0 : 0 ≤ wd) (wd1 : wd ≤ 65535) (t0 : 0 ≤ t) (t1 : t ≤ 4294967295) (hd : t / (1 + wd) = d) (d0 : 0 ≤ d) (d1 : d ≤ 4294967295) (hE : (d + (1 + m)) * (1 + wd) = E) (E0 : 1 ≤ E) (E1 : E ≤ 1099511627776)
    (h1 : Hid (((fresh (1 + m) (1 + wd)).add t k 7).told t k = 7)) (h2 : Hid (((fresh (1 + m) (1 + wd)).add t k 7).told (E - 1) k = 7)) (h3 : Hid (∀ i, ((fresh (1 + m) (1 + wd)).add t k 7).told E i = 0)) :
    Calls Try.prog 3 #[.agg #[.int .u8 b0, .int .u8 b1], .int .u16 wd, .int .u32 t] w fun e w' => e = .returned (.bool true) ∧ Below w.heap.size w w' := by
  have eqz0 := eq5 (a0 := 0) (a1 := 0) (a2 := 0) (a3 := 0) (a4 := 0) (b0 := 0) (b1 := 0) (b2 := 0) (b3 := 0) (b4 := 0) (by omega) (by omega) true (by simp)
  have ne : ¬ (1 + wd = 0) := by omega
  go_enter Try.func3, Try.ntmps3
  go_wp2_with fail
  refine (awake_calls _).mono ?_
  rintro e w1 ⟨rfl, hb⟩
  have hg : w1.heap[w.heap.size]? = some (.cells #[.int .u8 b0, .int .u8 b1] 22 (0, 0)) := (hb.block w.heap.size (by simp)).trans (heap_alloc_new _ _)
  have c0 := cell_of_row w1 w.heap.size 0 _ _ _ hg
  have c1 := cell_of_row w1 w.heap.size 1 _ _ _ hg
  simp at c0 c1
  have Hb := hid (((Below.refl w.heap.size w).alloc (Nat.le_refl _) _).trans (hb.mono (by simp)))
  clear hb hg
  go_wp2_with fail
  refine (new_has w (1 + m) (1 + wd) w1 Hb.out (by omega) (by omega) (by omega) (by omega)).mono ?_
  rintro e w2 ⟨rfl, ha2, -, -⟩
  have A2 := hid ha2
  clear ha2 c0 c1
  go_wp2_with fail
  refine (new_has w (1 + m) (1 + wd) w2 A2.out.below (by omega) (by omega) (by omega) (by omega)).mono ?_
  rintro e w3 ⟨rfl, hb3, hl, -⟩
  have A3 := hid (A2.out.quiet hl)
  have B3 := hid hb3
  clear hb3 hl
  go_wp2_with fail
  refine (new_has w (1 + m) (1 + wd) w3 B3.out.below (by omega) (by omega) (by omega) (by omega)).mono ?_
  rintro e w4 ⟨rfl, hc4, hl, -⟩
  have A4 := hid (A3.out.quiet hl)
  have B4 := hid (B3.out.quiet hl)
  have C4 := hid hc4
  have nab : Hid (w1.heap.size ≠ w2.heap.size) := by show _ ≠ _; have := A2.out.lt; omega
  have nac : Hid (w1.heap.size ≠ w3.heap.size) := by show _ ≠ _; have := A3.out.lt; omega
  have nbc : Hid (w2.heap.size ≠ w3.heap.size) := by show _ ≠ _; have := B3.out.lt; omega
  clear hc4 hl
  go_wp2_with fail
  refine (add_has A4.out t 7 k (by omega) (by omega) (by omega) (by omega) (by omega)).mono ?_
  rintro e w5 ⟨rfl, ha, ho⟩
  have A5 := hid ha
  have B5 := hid (B4.out.other ho nab.out.symm A4.out.ge)
  have C5 := hid (C4.out.other ho nac.out.symm A4.out.ge)
  clear ha ho
  go_wp2_with fail
  refine (add_has B5.out t 7 k (by omega) (by omega) (by omega) (by omega) (by omega)).mono ?_
  rintro e w6 ⟨rfl, ha, ho⟩
  have B6 := hid ha
  have A6 := hid (A5.out.other ho nab.out B5.out.ge)
  have C6 := hid (C5.out.other ho nbc.out.symm B5.out.ge)
  clear ha ho
  go_wp2_with fail
  refine (add_has C6.out t 7 k (by omega) (by omega) (by omega) (by omega) (by omega)).mono ?_
  rintro e w7 ⟨rfl, ha, ho⟩
  have C7 := hid ha
  have A7 := hid (A6.out.other ho nac.out C6.out.ge)
  have B7 := hid (B6.out.other ho nbc.out C6.out.ge)
  clear ha ho
  have i1 := idx5 (fun i => ((fresh (1 + m) (1 + wd)).add t k 7).told t i) k k1
  have i2 := idx5 (fun i => ((fresh (1 + m) (1 + wd)).add t k 7).told (E - 1) i) k k1
  simp only [h1.out] at i1
  simp only [h2.out] at i2
  have z7 := hid (zeros_new w7 30)
  have sa := hid (Nat.lt_of_lt_of_le A7.out.lt (Nat.le_refl _))
  have sb := hid (Nat.lt_of_lt_of_le B7.out.lt (Nat.le_refl _))
  have sc := hid (Nat.lt_of_lt_of_le C7.out.lt (Nat.le_refl _))
  have A8 := hid fun n => (A7.out.alloc (.cells #[.int .u64 0, .int .u64 0, .int .u64 0, .int .u64 0, .int .u64 0] 30)).drewN n
  have B8 := hid fun n => (B7.out.alloc (.cells #[.int .u64 0, .int .u64 0, .int .u64 0, .int .u64 0, .int .u64 0] 30)).drewN n
  have C8 := hid fun n => (C7.out.alloc (.cells #[.int .u64 0, .int .u64 0, .int .u64 0, .int .u64 0, .int .u64 0] 30)).drewN n
  have E2 : 0 ≤ E - 1 := by omega
  have wt : Hid (IntKind.u64.wrap t = t) := by show _ = _; exact Sat.u64_in (by omega) (by omega)
  have we : Hid (IntKind.u64.wrap (E - 1) = E - 1) := by show _ = _; exact Sat.u64_in (by omega) (by omega)
  obtain ⟨ZL, hZL⟩ : ∃ ZL : List Value, Hid (ZL = [.int .u64 0, .int .u64 0, .int .u64 0, .int .u64 0, .int .u64 0]) := ⟨_, hid rfl⟩
  have eqz : ∀ w, Sem.run Try.prog (Op.equalIn 10000 30 (.agg #[.int .u64 0, .int .u64 0, .int .u64 0, .int .u64 0, .int .u64 0]) (.agg ZL.toArray)) w = .ok true w := by
    rw [hZL.out]
    exact eqz0
  have i5 : (Try.prog.info? 30).map (·.size) = some 5 := by kernel_rfl
  have hiZ : (Try.prog.info? 30).map (·.size) = some ZL.length := by rw [i5, hZL.out]; rfl
  have kA : Hid (w.heap.size ≤ w1.heap.size ∧ w7.heap.size ≠ w1.heap.size) := hid ⟨A4.out.ge, by have := sa.out; omega⟩
  have kB : Hid (w.heap.size ≤ w2.heap.size ∧ w7.heap.size ≠ w2.heap.size) := hid ⟨B4.out.ge, by have := sb.out; omega⟩
  have kC : Hid (w.heap.size ≤ w3.heap.size ∧ w7.heap.size ≠ w3.heap.size) := hid ⟨C4.out.ge, by have := sc.out; omega⟩
  have keepS := hid (fun (B : Nat) (u1 u2 : World) (hS : Hid (Below w.heap.size w u1 ∧ u1.rangeAt w7.heap.size 0 ZL)) (ho : Only B u1 u2) (hB : w.heap.size ≤ B ∧ w7.heap.size ≠ B) =>
    (show Hid (Below w.heap.size w u2 ∧ u2.rangeAt w7.heap.size 0 ZL) from hid ⟨ho.toBelow hS.out.1 hB.1, fun j v hj => ho.cell (hS.out.2 j v hj) hB.2⟩))
  have hS0 : (fun wz : World => Hid (Below w.heap.size w wz ∧ wz.rangeAt w7.heap.size 0 ZL)) (w7.alloc (.cells #[.int .u64 0, .int .u64 0, .int .u64 0, .int .u64 0, .int .u64 0] 30 (0, 0))).drew := by
    refine hid ⟨(A7.out.below.alloc A7.out.below.size _).drew, ?_⟩
    rw [hZL.out]
    exact range_new _ _ rfl
  clear ne hE hd hm hk i5 eqz0
  as_aux_lemma =>
    go_wp2_with fail
    refine wp_region_held_drew (S := fun w' => Hid (Below w.heap.size w w' ∧ w'.rangeAt w7.heap.size 0 ZL)) (by kernel_rfl) ?_ (fun hH0 => ?_)
    · exact hS0
    refine Reg.tk (i := 0) (oi := ?_) ?_ ?_
    rotate_left
    · (simp only [List.getElem?_toArray, List.getElem?_cons_succ, List.getElem?_cons_zero]; exact rfl)
    refine ⟨?_, by kernel_rfl, by kernel_rfl, by kernel_rfl, fun _ _ _ h => h, Or.inl ⟨by rfl, ?_⟩, hH0, ?_⟩
    rotate_left
    · (intro w hSw; clear hSw; go_simp; try with_reducible rfl)
    try simp only [Act.put, List.setIfInBounds_toArray, List.set_cons_zero, List.set_cons_succ]
    refine Reg.tk (i := 1) (oi := ?_) ?_ ?_
    rotate_left
    · (simp only [List.getElem?_toArray, List.getElem?_cons_succ, List.getElem?_cons_zero]; exact rfl)
    refine ⟨?_, by kernel_rfl, by kernel_rfl, by kernel_rfl, fun _ _ _ h => h, Or.inl ⟨by rfl, ?_⟩, hH0, ?_⟩
    rotate_left
    · (intro w hSw; clear hSw; go_simp; try with_reducible rfl)
    try simp only [Act.put, List.setIfInBounds_toArray, List.set_cons_zero, List.set_cons_succ]
    refine Reg.tk (i := 2) (oi := ?_) ?_ ?_
    rotate_left
    · (simp only [List.getElem?_toArray, List.getElem?_cons_succ, List.getElem?_cons_zero]; exact rfl)
    refine ⟨?_, by kernel_rfl, by kernel_rfl, by kernel_rfl, fun _ _ _ h => h, Or.inl ⟨by rfl, ?_⟩, hH0, ?_⟩
    rotate_left
    · (intro w hSw; clear hSw; go_simp; try with_reducible rfl)
    try simp only [Act.put, List.setIfInBounds_toArray, List.set_cons_zero, List.set_cons_succ]
    refine Reg.tk (i := 3) (oi := ?_) ?_ ?_
    rotate_left
    · (simp only [List.getElem?_toArray, List.getElem?_cons_succ, List.getElem?_cons_zero]; exact rfl)
    refine ⟨?_, by kernel_rfl, by kernel_rfl, by kernel_rfl, fun _ _ _ h => h, Or.inl ⟨by rfl, ?_⟩, hH0, ?_⟩
    rotate_left
    · (intro w hSw; clear hSw; go_simp; try with_reducible rfl)
    try simp only [Act.put, List.setIfInBounds_toArray, List.set_cons_zero, List.set_cons_succ]
    refine Reg.tk (i := 4) (oi := ?_) ?_ ?_
    rotate_left
    · (simp only [List.getElem?_toArray, List.getElem?_cons_succ, List.getElem?_cons_zero]; exact rfl)
    refine ⟨?_, by kernel_rfl, by kernel_rfl, by kernel_rfl, fun _ _ _ h => h, Or.inl ⟨by rfl, ?_⟩, hH0, ?_⟩
    rotate_left
    · (intro w hSw; clear hSw; go_simp; try with_reducible rfl)
    try simp only [Act.put, List.setIfInBounds_toArray, List.set_cons_zero, List.set_cons_succ]
    refine Reg.tk (i := 6) (oi := ?_) ?_ ?_
    rotate_left
    · (simp only [List.getElem?_toArray, List.getElem?_cons_succ, List.getElem?_cons_zero]; exact rfl)
    refine ⟨?_, by kernel_rfl, by kernel_rfl, by kernel_rfl, fun _ _ _ h => h, Or.inl ⟨by rfl, ?_⟩, hH0, ?_⟩
    rotate_left
    · (intro w hSw; clear hSw; go_simp; try with_reducible rfl)
    try simp only [Act.put, List.setIfInBounds_toArray, List.set_cons_zero, List.set_cons_succ]
    refine Reg.one (i := 5) (oi := ?_) ?_ ?_
    rotate_left
    · (simp only [List.getElem?_toArray, List.getElem?_cons_succ, List.getElem?_cons_zero]; exact rfl)
    refine ⟨by kernel_rfl, fun K hK => ?_⟩
    go_simp
    rw [wt.out]; refine (counts_has (A8.out 1) t (by omega) (by omega)).mono ?_; rintro e v0 ⟨rfl, g0, hl0⟩; have B9 := hid ((B8.out 1).other hl0 nab.out.symm A4.out.ge); have C9 := hid ((C8.out 1).other hl0 nac.out.symm A4.out.ge); clear g0
    refine hK.out _ _ (keepS.out _ _ _ hH0 hl0 (by first | exact kA.out | exact kB.out | exact kC.out)) (fun hH1 => ?_)
    clear hK K hH0 hl0
    try simp only [Act.put, List.setIfInBounds_toArray, List.set_cons_zero, List.set_cons_succ]
    as_aux_lemma =>
      refine Reg.tk (i := 7) (oi := ?_) ?_ ?_
      rotate_left
      · (simp only [List.getElem?_toArray, List.getElem?_cons_succ, List.getElem?_cons_zero]; exact rfl)
      refine ⟨?_, by kernel_rfl, by kernel_rfl, by kernel_rfl, fun _ _ _ h => h, Or.inl ⟨by rfl, ?_⟩, hH1, ?_⟩
      rotate_left
      · (intro w hSw; clear hSw; go_simp; try with_reducible rfl)
      try simp only [Act.put, List.setIfInBounds_toArray, List.set_cons_zero, List.set_cons_succ]
      refine Reg.tk (i := 8) (oi := ?_) ?_ ?_
      rotate_left
      · (simp only [List.getElem?_toArray, List.getElem?_cons_succ, List.getElem?_cons_zero]; exact rfl)
      refine ⟨?_, by kernel_rfl, by kernel_rfl, by kernel_rfl, fun _ _ _ h => h, Or.inl ⟨by rfl, ?_⟩, hH1, ?_⟩
      rotate_left
      · (intro w hSw; clear hSw; go_simp; try with_reducible rfl)
      try simp only [Act.put, List.setIfInBounds_toArray, List.set_cons_zero, List.set_cons_succ]
      refine Reg.tk (i := 9) (oi := ?_) ?_ ?_
      rotate_left
      · (simp only [List.getElem?_toArray, List.getElem?_cons_succ, List.getElem?_cons_zero]; exact rfl)
      refine ⟨?_, by kernel_rfl, by kernel_rfl, by kernel_rfl, fun _ _ _ h => h, Or.inl ⟨by rfl, ?_⟩, hH1, ?_⟩
      rotate_left
      · (intro w hSw; clear hSw; go_simp; try with_reducible rfl)
      try simp only [Act.put, List.setIfInBounds_toArray, List.set_cons_zero, List.set_cons_succ]
      refine Reg.tk (i := 10) (oi := ?_) ?_ ?_
      rotate_left
      · (simp only [List.getElem?_toArray, List.getElem?_cons_succ, List.getElem?_cons_zero]; exact rfl)
      refine ⟨?_, by kernel_rfl, by kernel_rfl, by kernel_rfl, fun _ _ _ h => h, Or.inl ⟨by rfl, ?_⟩, hH1, ?_⟩
      rotate_left
      · (intro w hSw; clear hSw; go_simp; try with_reducible rfl)
      try simp only [Act.put, List.setIfInBounds_toArray, List.set_cons_zero, List.set_cons_succ]
      refine Reg.tk (i := 11) (oi := ?_) ?_ ?_
      rotate_left
      · (simp only [List.getElem?_toArray, List.getElem?_cons_succ, List.getElem?_cons_zero]; exact rfl)
      refine ⟨?_, by kernel_rfl, by kernel_rfl, by kernel_rfl, fun _ _ _ h => h, Or.inl ⟨by rfl, ?_⟩, hH1, ?_⟩
      rotate_left
      · (intro w hSw; clear hSw; go_simp; try with_reducible rfl)
      try simp only [Act.put, List.setIfInBounds_toArray, List.set_cons_zero, List.set_cons_succ]
      refine Reg.tk (i := 12) (oi := ?_) ?_ ?_
      rotate_left
      · (simp only [List.getElem?_toArray, List.getElem?_cons_succ, List.getElem?_cons_zero]; exact rfl)
      refine ⟨?_, by kernel_rfl, by kernel_rfl, by kernel_rfl, fun _ _ _ h => h, Or.inl ⟨by rfl, ?_⟩, hH1, ?_⟩
      rotate_left
      · (intro w hSw; clear hSw; go_simp; try with_reducible rfl)
      try simp only [Act.put, List.setIfInBounds_toArray, List.set_cons_zero, List.set_cons_succ]
      refine Reg.tk (i := 13) (oi := ?_) ?_ ?_
      rotate_left
      · (simp only [List.getElem?_toArray, List.getElem?_cons_succ, List.getElem?_cons_zero]; exact rfl)
      refine ⟨?_, by kernel_rfl, by kernel_rfl, by kernel_rfl, fun _ _ _ h => h, Or.inl ⟨by rfl, ?_⟩, hH1, ?_⟩
      rotate_left
      · (intro w hSw; clear hSw; go_simp; try with_reducible rfl)
      try simp only [Act.put, List.setIfInBounds_toArray, List.set_cons_zero, List.set_cons_succ]
      refine Reg.tk (i := 15) (oi := ?_) ?_ ?_
      rotate_left
      · (simp only [List.getElem?_toArray, List.getElem?_cons_succ, List.getElem?_cons_zero]; exact rfl)
      refine ⟨?_, by kernel_rfl, by kernel_rfl, by kernel_rfl, fun _ _ _ h => h, Or.inl ⟨by rfl, ?_⟩, hH1, ?_⟩
      rotate_left
      · (intro w hSw; clear hSw; go_simp; try with_reducible rfl)
      try simp only [Act.put, List.setIfInBounds_toArray, List.set_cons_zero, List.set_cons_succ]
      refine Reg.one (i := 14) (oi := ?_) ?_ ?_
      rotate_left
      · (simp only [List.getElem?_toArray, List.getElem?_cons_succ, List.getElem?_cons_zero]; exact rfl)
      refine ⟨by kernel_rfl, fun K hK => ?_⟩
      go_simp
      (first | rw [we.out] | skip); refine (counts_has B9.out (E - 1) E2 (by omega)).mono ?_; rintro e v1 ⟨rfl, g1, hl1⟩; have C10 := hid (C9.out.other hl1 nbc.out.symm B4.out.ge); clear g1
      refine hK.out _ _ (keepS.out _ _ _ hH1 hl1 (by first | exact kA.out | exact kB.out | exact kC.out)) (fun hH2 => ?_)
      clear hK K hH1 hl1
      try simp only [Act.put, List.setIfInBounds_toArray, List.set_cons_zero, List.set_cons_succ]
      as_aux_lemma =>
        refine Reg.tk (i := 16) (oi := ?_) ?_ ?_
        rotate_left
        · (simp only [List.getElem?_toArray, List.getElem?_cons_succ, List.getElem?_cons_zero]; exact rfl)
        refine ⟨?_, by kernel_rfl, by kernel_rfl, by kernel_rfl, fun _ _ _ h => h, Or.inl ⟨by rfl, ?_⟩, hH2, ?_⟩
        rotate_left
        · (intro w hSw; clear hSw; go_simp; try with_reducible rfl)
        try simp only [Act.put, List.setIfInBounds_toArray, List.set_cons_zero, List.set_cons_succ]
        refine Reg.tk (i := 17) (oi := ?_) ?_ ?_
        rotate_left
        · (simp only [List.getElem?_toArray, List.getElem?_cons_succ, List.getElem?_cons_zero]; exact rfl)
        refine ⟨?_, by kernel_rfl, by kernel_rfl, by kernel_rfl, fun _ _ _ h => h, Or.inl ⟨by rfl, ?_⟩, hH2, ?_⟩
        rotate_left
        · (intro w hSw; clear hSw; go_simp; try with_reducible rfl)
        try simp only [Act.put, List.setIfInBounds_toArray, List.set_cons_zero, List.set_cons_succ]
        refine Reg.tk (i := 18) (oi := ?_) ?_ ?_
        rotate_left
        · (simp only [List.getElem?_toArray, List.getElem?_cons_succ, List.getElem?_cons_zero]; exact rfl)
        refine ⟨?_, by kernel_rfl, by kernel_rfl, by kernel_rfl, fun _ _ _ h => h, Or.inl ⟨by rfl, ?_⟩, hH2, ?_⟩
        rotate_left
        · (intro w hSw; clear hSw; go_simp; try with_reducible rfl)
        try simp only [Act.put, List.setIfInBounds_toArray, List.set_cons_zero, List.set_cons_succ]
        refine Reg.tk (i := 19) (oi := ?_) ?_ ?_
        rotate_left
        · (simp only [List.getElem?_toArray, List.getElem?_cons_succ, List.getElem?_cons_zero]; exact rfl)
        refine ⟨?_, by kernel_rfl, by kernel_rfl, by kernel_rfl, fun _ _ _ h => h, Or.inl ⟨by rfl, ?_⟩, hH2, ?_⟩
        rotate_left
        · (intro w hSw; clear hSw; go_simp; try with_reducible rfl)
        try simp only [Act.put, List.setIfInBounds_toArray, List.set_cons_zero, List.set_cons_succ]
        refine Reg.tk (i := 20) (oi := ?_) ?_ ?_
        rotate_left
        · (simp only [List.getElem?_toArray, List.getElem?_cons_succ, List.getElem?_cons_zero]; exact rfl)
        refine ⟨?_, by kernel_rfl, by kernel_rfl, by kernel_rfl, fun _ _ _ h => h, Or.inl ⟨by rfl, ?_⟩, hH2, ?_⟩
        rotate_left
        · (intro w hSw; clear hSw; go_simp; try with_reducible rfl)
        try simp only [Act.put, List.setIfInBounds_toArray, List.set_cons_zero, List.set_cons_succ]
        refine Reg.tk (i := 21) (oi := ?_) ?_ ?_
        rotate_left
        · (simp only [List.getElem?_toArray, List.getElem?_cons_succ, List.getElem?_cons_zero]; exact rfl)
        refine ⟨?_, by kernel_rfl, by kernel_rfl, by kernel_rfl, fun _ _ _ h => h, Or.inl ⟨by rfl, ?_⟩, hH2, ?_⟩
        rotate_left
        · (intro w hSw; clear hSw; go_simp; try with_reducible rfl)
        try simp only [Act.put, List.setIfInBounds_toArray, List.set_cons_zero, List.set_cons_succ]
        refine Reg.tk (i := 23) (oi := ?_) ?_ ?_
        rotate_left
        · (simp only [List.getElem?_toArray, List.getElem?_cons_succ, List.getElem?_cons_zero]; exact rfl)
        refine ⟨_, by kernel_rfl, by kernel_rfl, by kernel_rfl, fun _ _ _ h => h, yieldsIf_load_mid (by rfl) 30 _ rfl w7.heap.size 0 rfl ZL _ (fun w hSw => hSw.out.2) Try.underlying30 rfl hiZ, hH2, ?_⟩
        try simp only [Act.put, List.setIfInBounds_toArray, List.set_cons_zero, List.set_cons_succ]
        refine Reg.one (i := 22) (oi := ?_) ?_ ?_
        rotate_left
        · (simp only [List.getElem?_toArray, List.getElem?_cons_succ, List.getElem?_cons_zero]; exact rfl)
        refine ⟨by kernel_rfl, fun K hK => ?_⟩
        go_simp
        refine (counts_has C10.out E (by omega) (by omega)).mono ?_; rintro e v2 ⟨rfl, g2, hl2⟩; rw [h3.out, h3.out, h3.out, h3.out, h3.out]; clear g2
        refine hK.out _ _ (keepS.out _ _ _ hH2 hl2 (by first | exact kA.out | exact kB.out | exact kC.out)) (fun hH3 => ?_)
        clear hK K hH2 hl2
        try simp only [Act.put, List.setIfInBounds_toArray, List.set_cons_zero, List.set_cons_succ]
        refine Reg.tk (i := 24) (oi := ?_) ?_ ?_
        rotate_left
        · (simp only [List.getElem?_toArray, List.getElem?_cons_succ, List.getElem?_cons_zero]; exact rfl)
        refine ⟨?_, by kernel_rfl, by kernel_rfl, by kernel_rfl, fun _ _ _ h => h, Or.inl ⟨by rfl, ?_⟩, hH3, ?_⟩
        rotate_left
        · (intro w hSw; clear hSw; go_simp; try with_reducible rfl)
        try simp only [Act.put, List.setIfInBounds_toArray, List.set_cons_zero, List.set_cons_succ]
        refine Reg.tk (i := 25) (oi := ?_) ?_ ?_
        rotate_left
        · (simp only [List.getElem?_toArray, List.getElem?_cons_succ, List.getElem?_cons_zero]; exact rfl)
        refine ⟨?_, by kernel_rfl, by kernel_rfl, by kernel_rfl, fun _ _ _ h => h, Or.inl ⟨by rfl, ?_⟩, hH3, ?_⟩
        rotate_left
        · (intro w hSw; clear hSw; go_simp; try with_reducible rfl)
        try simp only [Act.put, List.setIfInBounds_toArray, List.set_cons_zero, List.set_cons_succ]
        refine Reg.tk (i := 26) (oi := ?_) ?_ ?_
        rotate_left
        · (simp only [List.getElem?_toArray, List.getElem?_cons_succ, List.getElem?_cons_zero]; exact rfl)
        refine ⟨?_, by kernel_rfl, by kernel_rfl, by kernel_rfl, fun _ _ _ h => h, Or.inl ⟨by rfl, ?_⟩, hH3, ?_⟩
        rotate_left
        · (intro w hSw; clear hSw; go_simp; try with_reducible rfl)
        try simp only [Act.put, List.setIfInBounds_toArray, List.set_cons_zero, List.set_cons_succ]
        refine wpAnyH_done (by kernel_rfl) ?_ _
        go_wp2_with fail
        go_ret
        exact ⟨ret_bool (by simp), hH3.out.1⟩
theorem windowLasts_walk {H : Type} {enc : TypeId × Value → H} (W : World) (a0_0 : Int) (a0_1 : Int) (w0_0 : (Lit.int .u8 a0_0).wf = true) (w0_1 : (Lit.int .u8 a0_1).wf = true) (a1 : Int) (w1 : (Lit.int .u16 a1).wf = true) (a2 : Int) (w2 : (Lit.int .u32 a2).wf = true) :
    Calls Try.prog 3 #[.agg #[.int .u8 a0_0, .int .u8 a0_1], .int .u16 a1, .int .u32 a2] W fun e w' => e = .returned (.bool true) ∧ Below W.heap.size W w' := by
  obtain ⟨p0, p1⟩ := Sat.wf_u8 w0_0
  obtain ⟨q0, q1⟩ := Sat.wf_u8 w0_1
  have hw1 : 0 ≤ a1 ∧ a1 ≤ 65535 := by
    have h2 : IntKind.u16.min ≤ a1 ∧ a1 ≤ IntKind.u16.max := by simpa [Lit.wf] using w1
    have e1 : IntKind.u16.min = 0 := by decide
    have e2 : IntKind.u16.max = 65535 := by decide
    rw [e1, e2] at h2
    exact h2
  have hw2 : 0 ≤ a2 ∧ a2 ≤ 4294967295 := by
    have h2 : IntKind.u32.min ≤ a2 ∧ a2 ≤ IntKind.u32.max := by simpa [Lit.wf] using w2
    have e1 : IntKind.u32.min = 0 := by decide
    have e2 : IntKind.u32.max = 4294967295 := by decide
    rw [e1, e2] at h2
    exact h2
  obtain ⟨k, hk⟩ := Int.eq_ofNat_of_zero_le (a := a0_1 % 5) (by omega)
  have hd0 : 0 ≤ a2 / (1 + a1) := Int.ediv_nonneg hw2.1 (by omega)
  have hd1 : a2 / (1 + a1) ≤ 4294967295 := Int.le_trans (Int.ediv_le_self _ hw2.1) hw2.2
  obtain ⟨hE, h1, h2, h3⟩ := lasts_plain (1 + a0_0 % 8) (1 + a1) a2 k (by omega) (by omega) (by omega) (by omega) hw2.1 hw2.2 _ rfl
  exact lasts_core a0_0 a0_1 a1 a2 (a0_0 % 8) _ _ k W p0 (by omega) rfl (by omega) (by omega) q0 (by omega) hk (by omega) hw1.1 hw1.2 hw2.1 hw2.2 rfl hd0 hd1 rfl hE.1 hE.2 (hid h1) (hid h2) (hid h3)
end Go.Proofs.Ytaepffcnhieckaa.C06
