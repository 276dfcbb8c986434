/- Plain: what the law WindowLasts says of one count. -/
import Derived.Test.YtaepffcnhieckaaC06N
namespace Go.Proofs.Ytaepffcnhieckaa.C06
open Go.RowKit Go.Proofs.Ytaepffcnhieckaa Go.Proofs.Ytaepffcnhieckaa.Win
set_option linter.unusedVariables false
set_option linter.unusedSimpArgs false
set_option linter.unnecessarySimpa false
theorem lasts_told (n wide t u : Int) (k i : Nat) (n1 : 1 ≤ n) (n8 : n ≤ 8) (w1 : 1 ≤ wide) (w2 : wide ≤ 65536) (t0 : 0 ≤ t) (t1 : t ≤ 4294967295) (u0 : 0 ≤ u) (u1 : u ≤ 18446744073709551615) :
    ((fresh n wide).add t k 7).told u i = if k = i ∧ Sat.mx t u / wide - n < t / wide then 7 else 0 := by
  have h := (holds_fresh (n := n) (width := wide) n1 n8 w1 (by omega)).add (t := t) t0 (by omega) k (v := 7) (by omega)
  rw [h.told u0 u1 i]
  have e1 : (fresh n wide).bkt t = t / wide := by unfold Win.bkt; rw [time_fresh _ _ _ t0]; rfl
  have e2 : ((fresh n wide).add t k 7).bkt u = Sat.mx t u / wide := by
    show Sat.mx ((fresh n wide).time t) u / wide = _
    rw [time_fresh _ _ _ t0]
  rw [e1, e2]
  show Sat.cap (tot [⟨t / wide, k, 7⟩] fun e => decide (e.k = i ∧ Sat.mx t u / wide - n < e.q)) = _
  rw [tot_cons, tot_nil, Int.add_zero]
  by_cases hc : k = i ∧ Sat.mx t u / wide - n < t / wide
  · rw [if_pos hc, if_pos (by simpa using hc)]
    show Sat.cap 7 = 7
    decide
  · rw [if_neg hc, if_neg (by simpa using hc), cap_zero]
theorem lasts_plain (n wide t : Int) (k : Nat) (n1 : 1 ≤ n) (n8 : n ≤ 8) (w1 : 1 ≤ wide) (w2 : wide ≤ 65536) (t0 : 0 ≤ t) (t1 : t ≤ 4294967295) (E : Int) (hE : (t / wide + n) * wide = E) :
    (1 ≤ E ∧ E ≤ 1099511627776) ∧ ((fresh n wide).add t k 7).told t k = 7 ∧ ((fresh n wide).add t k 7).told (E - 1) k = 7 ∧ ∀ i, ((fresh n wide).add t k 7).told E i = 0 := by
  have d0 : 0 ≤ t / wide := Int.ediv_nonneg t0 (by omega)
  have d1 : t < (t / wide + 1) * wide := Int.lt_ediv_add_one_mul_self t (by omega)
  have d2 : t / wide * wide ≤ t := Int.ediv_mul_le t (by omega)
  have hEx : E = t / wide * wide + n * wide := by rw [← hE, Int.add_mul]
  have hn1 : wide ≤ n * wide := by have := Int.mul_le_mul_of_nonneg_right n1 (by omega : (0 : Int) ≤ wide); omega
  have hn8 : n * wide ≤ 8 * wide := Int.mul_le_mul_of_nonneg_right n8 (by omega)
  have d1' : t < t / wide * wide + wide := by rw [Int.add_mul, Int.one_mul] at d1; exact d1
  have hle : t ≤ E - 1 := by omega
  have hq : E / wide = t / wide + n := by rw [← hE]; exact Int.mul_ediv_cancel _ (by omega)
  have hq2 : (E - 1) / wide < t / wide + n := by
    apply Int.ediv_lt_of_lt_mul (by omega)
    rw [hE]; omega
  refine ⟨⟨by omega, by omega⟩, ?_, ?_, fun i => ?_⟩
  · rw [lasts_told n wide t t k k n1 n8 w1 w2 t0 t1 t0 (by omega), mx_self, if_pos ⟨rfl, by omega⟩]
  · have hm : Sat.mx t (E - 1) = E - 1 := by unfold Sat.mx; split <;> omega
    rw [lasts_told n wide t (E - 1) k k n1 n8 w1 w2 t0 t1 (by omega) (by omega), hm, if_pos ⟨rfl, by omega⟩]
  · have hm : Sat.mx t E = E := by unfold Sat.mx; split <;> omega
    rw [lasts_told n wide t E k i n1 n8 w1 w2 t0 t1 (by omega) (by omega), hm, hq, if_neg (by omega)]
end Go.Proofs.Ytaepffcnhieckaa.C06
