/- What the functions of the package sat return, whatever 64-bit numbers they are handed: the capped sum, difference, product, and whether a part is at least a percent. -/
import Derived.Test.YtaepffcnhieckaaProg
import Derived.Test.YtaepffcnhieckaaSat
import Derived.WalkKit
import Derived.KernelRfl

namespace Go.Proofs.Ytaepffcnhieckaa.C01
open Go.RowKit Go.Proofs.Ytaepffcnhieckaa
set_option linter.unusedVariables false
theorem max2_int (k k' : IntKind) (x y : Int) : Builtin.max2 (.int k x) (.int k' y) = pure (.int k (if x < y then y else x)) := by simp only [Builtin.max2, gt_iff_lt]
theorem min2_int (k k' : IntKind) (x y : Int) : Builtin.min2 (.int k x) (.int k' y) = pure (.int k (if y < x then y else x)) := by simp only [Builtin.min2]
theorem max_two (ats : Array TypeId) (ty : TypeId) (a b : Value) : Builtin.max_ ats ty #[a, b] = (Builtin.max2 a b >>= fun s => pure s) := by simp only [Builtin.max_, List.foldlM_cons, List.foldlM_nil]
theorem min_two (ats : Array TypeId) (ty : TypeId) (a b : Value) : Builtin.min_ ats ty #[a, b] = (Builtin.min2 a b >>= fun s => pure s) := by simp only [Builtin.min_, List.foldlM_cons, List.foldlM_nil]
/-- The same, with the result kept under a name of its own. -/
theorem max2_mx (k k' : IntKind) (x y : Int) : Builtin.max2 (.int k x) (.int k' y) = pure (.int k (Sat.mx x y)) := max2_int k k' x y
theorem min2_mn (k k' : IntKind) (x y : Int) : Builtin.min2 (.int k x) (.int k' y) = pure (.int k (Sat.mn x y)) := min2_int k k' x y
section
attribute [local go_sem] max2_int min2_int max_two min_two
theorem hid {p : Prop} (h : p) : Hid p := h
theorem below_via {B : Nat} {W X w1 : World} (hb : Below X.heap.size X w1) (h0 : Below B W X) (hB : B ≤ X.heap.size) : Below B W w1 := h0.trans (hb.mono hB)
theorem ret_int {k : IntKind} {a b : Int} (h : a = b) : Ending.returned (.int k a) = .returned (.int k b) := by rw [h]
theorem ret_int2 {k k' : IntKind} {a b a' b' : Int} (h : a = a') (h2 : b = b') : Ending.returned (.tuple #[.int k a, .int k' b]) = .returned (.tuple #[.int k a', .int k' b']) := by rw [h, h2]
theorem ret_bool {a b : Bool} (h : a = b) : Ending.returned (.bool a) = .returned (.bool b) := by rw [h]

set_option maxHeartbeats 400000 in
theorem add_calls (a b : Int) (ha0 : 0 ≤ a) (ha : a < 18446744073709551616) (hb0 : 0 ≤ b) (hb : b < 18446744073709551616) (w : World) :
    Calls Try.prog 16 #[.int .u64 a, .int .u64 b] w fun e w' => e = .returned (.int .u64 (Sat.add a b)) ∧ w = w' := by
  have fin : ∀ x y : Int, x = IntKind.u64.wrap (18446744073709551615 - a) → y = (if x < b then x else b) → IntKind.u64.wrap (a + y) = Sat.add a b := by
    intro x y hx hy
    rw [Sat.wrap_u64] at hx ⊢
    subst hx hy
    unfold Sat.add
    (repeat' split) <;> omega
  have Fin : Hid (∀ x y : Int, x = IntKind.u64.wrap (18446744073709551615 - a) → y = (if x < b then x else b) → IntKind.u64.wrap (a + y) = Sat.add a b) := fin
  clear fin ha0 ha hb0 hb
  go_enter Try.func16, Try.ntmps16
  go_wp2
  all_goals
    go_ret
    exact ⟨ret_int (Fin.out _ _ rfl (by split <;> first | rfl | omega)), rfl⟩

end
/-- What an operand slice of 64-bit numbers holds: the numbers l, at the address A. -/
def RowAt (w : World) (A : Option Addr) (l : List Int) : Prop := l = [] ∨ ∃ b o, A = some ⟨b, o, none⟩ ∧ ∀ i, i < l.length → w.cell? ⟨b, o + i, none⟩ = some (.int .u64 (l.getD i 0))
theorem foldl_take (l : List Int) (k : Nat) (h : k < l.length) : (l.take (k + 1)).foldl Sat.add 0 = Sat.add ((l.take k).foldl Sat.add 0) (l.getD k 0) := by
  rw [List.take_succ_eq_append_getElem h, List.foldl_append, List.getD_eq_getElem?_getD, List.getElem?_eq_getElem h]
  rfl
theorem foldl_bd (l : List Int) (k : Nat) (hx : ∀ x ∈ l, 0 ≤ x ∧ x < 18446744073709551616) : 0 ≤ (l.take k).foldl Sat.add 0 ∧ (l.take k).foldl Sat.add 0 < 18446744073709551616 :=
  Sat.foldl_in _ (fun x h => (hx x (List.mem_of_mem_take h)).1) 0 (by omega) (by omega)
theorem getD_bd (l : List Int) (k : Nat) (h : k < l.length) (hx : ∀ x ∈ l, 0 ≤ x ∧ x < 18446744073709551616) : 0 ≤ l.getD k 0 ∧ l.getD k 0 < 18446744073709551616 := by
  rw [List.getD_eq_getElem?_getD, List.getElem?_eq_getElem h]
  exact hx _ (List.getElem_mem h)
end Go.Proofs.Ytaepffcnhieckaa.C01
