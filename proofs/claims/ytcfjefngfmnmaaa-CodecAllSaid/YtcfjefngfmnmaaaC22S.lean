/- The law CodecAll, out of its argument. -/
import Derived.Test.YtcfjefngfmnmaaaC22R
import Derived.Test.YtcfjefngfmnmaaaC22G
namespace Go.Proofs.Ytcfjefngfmnmaaa.C22
open Go.RowKit Go.Proofs.Ytcfjefngfmnmaaa Go.Proofs.Ytcfjefngfmnmaaa.Cod
set_option linter.unusedVariables false
set_option linter.unusedSimpArgs false
set_option linter.unnecessarySimpa false
theorem wf_u16 {x : Int} (h : (Lit.int .u16 x).wf = true) : 0 ≤ x ∧ x < 65536 := by
  have h2 : IntKind.u16.min ≤ x ∧ x ≤ IntKind.u16.max := by simpa [Lit.wf] using h
  have e1 : IntKind.u16.min = 0 := by decide
  have e2 : IntKind.u16.max = 65535 := by decide
  rw [e1, e2] at h2
  omega
theorem rowH_of_slc {H : Type} {enc : TypeId × Value → H} {w : World} {a : Option Addr} {l c : Nat} (h : (Opn.Lf.slc 25).ok enc Try.prog w 0 (fun _ => true) true (.slice a l c)) :
    ∃ L : List Held, L.length = l ∧ (∀ h ∈ L, h.e.Fits ∧ RowI w h.V h.e.vals ∧ h.e.vals.length ≤ 9223372036854775807) ∧ RowH w a L := by
  have he : Opn.leaves Try.prog 3 25 = some [.int .i64, .int .i64, .int .i64, .int .i64, .int .i64, .int .i64, .int .u64, .bool, .slc 3] := by kernel_rfl
  have hc : Try.prog.cellsOf 25 = 9 := by kernel_rfl
  obtain ⟨a', l', c', hv, _, vs, hlen, hok, hcell⟩ := Opn.slc_cells 3 he (by rw [hc]; rfl) h
  injection hv with h1 h2' h3
  subst h1 h2' h3
  obtain ⟨zs, rfl, hz⟩ := Opn.list_of (fun h : Held => (evF h.e h.V h.c).toList) (fun h => h.e.Fits ∧ RowI w h.V h.e.vals ∧ h.e.vals.length ≤ 9223372036854775807) vs (fun x hx => by
    obtain ⟨_, _, rfl, ⟨n0, rfl, w0⟩, _, _, rfl, ⟨n1, rfl, w1⟩, _, _, rfl, ⟨n2, rfl, w2⟩, _, _, rfl, ⟨n3, rfl, w3⟩, _, _, rfl, ⟨n4, rfl, w4⟩, _, _, rfl, ⟨n5, rfl, w5⟩, _, _, rfl, ⟨n6, rfl, w6⟩, _, _, rfl, ⟨n7, rfl⟩, _, _, rfl, h8, rfl⟩ := hok x hx
    have h8' := h8
    obtain ⟨A, l2, c2, rfl, _⟩ := h8
    obtain ⟨L, rfl, hxx, hr, hl⟩ := rowI_of_slc (by kernel_rfl) (by kernel_rfl) h8'
    obtain ⟨q0, q1⟩ := Sat.wf_u64 w6
    obtain ⟨n, rfl⟩ := Int.eq_ofNat_of_zero_le q0
    exact ⟨⟨⟨n0, n1, n2, n3, n4, n5, n, n7, L⟩, A, c2⟩, rfl, ⟨Sat.wf_i64 w0, Sat.wf_i64 w1, Sat.wf_i64 w2, Sat.wf_i64 w3, Sat.wf_i64 w4, Sat.wf_i64 w5, by show n ≤ _; omega, hxx⟩, hr, by show L.length ≤ _; unfold maxLen at hl; omega⟩)
  refine ⟨zs, by simpa using hlen, hz, ?_⟩
  by_cases hne : zs = []
  · exact .inl hne
  · right
    rcases hcell with h0 | ⟨ad, rfl, hcell⟩
    · exfalso
      apply hne
      exact List.eq_nil_of_length_eq_zero (by simpa [h0] using hlen)
    · obtain ⟨b, o, rfl, hat⟩ := Opn.slc_at (sz := 9) (by intro x hx; obtain ⟨z, _, rfl⟩ := List.mem_map.1 hx; rfl) (by omega) (by simpa using hne) hcell
      refine ⟨b, o, rfl, fun i hi j v hj => ?_⟩
      exact hat i j _ v (by rw [List.getElem?_map, List.getElem?_eq_getElem hi]; rfl) hj
theorem codecAll_walk {H : Type} {enc : TypeId × Value → H} (W : World) (a0 : Option Addr) (l0 c0 : Nat) (k0 : (Opn.Lf.slc 25).ok enc Try.prog W 0 (fun _ => true) true (.slice a0 l0 c0)) (y0 : l0 * 88 ≤ 140737488351232) (a1 : Int) (w1 : (Lit.int .u16 a1).wf = true) :
    Calls Try.prog 7 #[.slice a0 l0 c0, .int .u16 a1] W fun e w' => e = .returned (.bool true) ∧ Below W.heap.size W w' := by
  obtain ⟨L, rfl, hx, hr⟩ := rowH_of_slc k0
  have q := wf_u16 w1
  exact all_law_core L a0 c0 a1 W (by omega) (hid hx) (hid hr) q.1 (by omega)
end Go.Proofs.Ytcfjefngfmnmaaa.C22
