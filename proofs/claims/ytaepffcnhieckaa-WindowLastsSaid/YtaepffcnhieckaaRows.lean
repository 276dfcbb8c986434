/-
  No cell of these rows narrows 'for every input' (looked for: loops, veiled, ifaces, maps, wideKeys, modest, calm, conditions, laid).
  DERIVED. THE GIVEN ROWS OF THIS SEAT. 5 by the template 'for every input the law returns true; each argument reads behind the call as it read before'; 0 by the template 'total and deterministic' (their statements: YtaepffcnhieckaaTotals.lean).
  GIVEN WITH THE SEED: the statements are not yours to turn. If you find one false, say at which input.
  Laid BY PROGRAM, IN A SANDBOX (cutbox-rows.mjs): the forced cells as the released guide's own fill.sh prints them over the translation 0a20f254ed21b829… (all of the seat's roots in one cut). By AI agents, Wed Nov 11 2026. No macro, syntax, notation, axiom, sorry.
-/
import Derived.Test.YtaepffcnhieckaaChecked
import GoSem.Claim
import GoSem.ClaimJoined
import GoSem.ClaimMapViews
import Derived.JoinedTies
import Derived.KernelRfl
namespace Go.Proofs.Ytaepffcnhieckaa
/- THE CELL 'sum', in the pinned program and in every row, IS THE sha256 OF THE DUMP (.gsa) THAT YtaepffcnhieckaaProg.lean LOADS. Nothing in Lean hashes anything: it is a label: what it is worth is what the hold of that sum in a sandbox is worth. -/
noncomputable def Try.pinned : Pinned := { name := "ytaepffcnhieckaa", sum := "0a20f254ed21b829e337983db8eb755337ce2c6b339d22490fe6d48f3aa3f13d", checked := Try.checked }
namespace Rows
def none {H : Type} : Left H := { results := [], args := [] }

/-- 'porpoiselaw06.WindowLasts': WHATEVER THE INPUT: true; the input reads as it did. -/
def windowLastsSpec : ChangeSpec := { name := "windowLasts", fn := fun _ => fun
  | [d1, d2, d3] => { results := [.lit (.bool true)], args := [d1, d2, d3] }
  | _ => none }
def windowLastsRow : OpenClaim := { program := "ytaepffcnhieckaa", sum := "0a20f254ed21b829e337983db8eb755337ce2c6b339d22490fe6d48f3aa3f13d", func := "porpoise/porpoiselaw06.WindowLasts", spec := "windowLasts", apart := false }
def WindowLastsSaid : Prop := windowLastsRow.holds Try.pinned (OpenSpec.ofChange windowLastsSpec)

/-- ITS FALSE NEIGHBOUR: 'it returns false'. Refute it at one input. -/
def windowLastsWrong : ChangeSpec := { name := "windowLasts", fn := fun _ => fun
  | [d1, d2, d3] => { results := [.lit (.bool false)], args := [d1, d2, d3] }
  | _ => none }
def WindowLastsWrongFalsely : Prop := windowLastsRow.holds Try.pinned (OpenSpec.ofChange windowLastsWrong)

/-- 'porpoiselaw06.WindowJoins': WHATEVER THE INPUT: true; the input reads as it did. -/
def windowJoinsSpec : ChangeSpec := { name := "windowJoins", fn := fun _ => fun
  | [d1, d2] => { results := [.lit (.bool true)], args := [d1, d2] }
  | _ => none }
def windowJoinsRow : OpenClaim := { program := "ytaepffcnhieckaa", sum := "0a20f254ed21b829e337983db8eb755337ce2c6b339d22490fe6d48f3aa3f13d", func := "porpoise/porpoiselaw06.WindowJoins", spec := "windowJoins", apart := false }
def WindowJoinsSaid : Prop := windowJoinsRow.holds Try.pinned (OpenSpec.ofChange windowJoinsSpec)

/-- ITS FALSE NEIGHBOUR: 'it returns false'. Refute it at one input. -/
def windowJoinsWrong : ChangeSpec := { name := "windowJoins", fn := fun _ => fun
  | [d1, d2] => { results := [.lit (.bool false)], args := [d1, d2] }
  | _ => none }
def WindowJoinsWrongFalsely : Prop := windowJoinsRow.holds Try.pinned (OpenSpec.ofChange windowJoinsWrong)

/-- 'porpoiselaw06.WindowFull': WHATEVER THE INPUT: true; the input reads as it did. -/
def windowFullSpec : ChangeSpec := { name := "windowFull", fn := fun _ => fun
  | [d1, d2, d3] => { results := [.lit (.bool true)], args := [d1, d2, d3] }
  | _ => none }
def windowFullRow : OpenClaim := { program := "ytaepffcnhieckaa", sum := "0a20f254ed21b829e337983db8eb755337ce2c6b339d22490fe6d48f3aa3f13d", func := "porpoise/porpoiselaw06.WindowFull", spec := "windowFull", apart := false }
def WindowFullSaid : Prop := windowFullRow.holds Try.pinned (OpenSpec.ofChange windowFullSpec)

/-- ITS FALSE NEIGHBOUR: 'it returns false'. Refute it at one input. -/
def windowFullWrong : ChangeSpec := { name := "windowFull", fn := fun _ => fun
  | [d1, d2, d3] => { results := [.lit (.bool false)], args := [d1, d2, d3] }
  | _ => none }
def WindowFullWrongFalsely : Prop := windowFullRow.holds Try.pinned (OpenSpec.ofChange windowFullWrong)

/-- 'porpoiselaw06.WindowReset': WHATEVER THE INPUT: true; the input reads as it did. -/
def windowResetSpec : ChangeSpec := { name := "windowReset", fn := fun _ => fun
  | [d1, d2, d3] => { results := [.lit (.bool true)], args := [d1, d2, d3] }
  | _ => none }
def windowResetRow : OpenClaim := { program := "ytaepffcnhieckaa", sum := "0a20f254ed21b829e337983db8eb755337ce2c6b339d22490fe6d48f3aa3f13d", func := "porpoise/porpoiselaw06.WindowReset", spec := "windowReset", apart := false }
def WindowResetSaid : Prop := windowResetRow.holds Try.pinned (OpenSpec.ofChange windowResetSpec)

/-- ITS FALSE NEIGHBOUR: 'it returns false'. Refute it at one input. -/
def windowResetWrong : ChangeSpec := { name := "windowReset", fn := fun _ => fun
  | [d1, d2, d3] => { results := [.lit (.bool false)], args := [d1, d2, d3] }
  | _ => none }
def WindowResetWrongFalsely : Prop := windowResetRow.holds Try.pinned (OpenSpec.ofChange windowResetWrong)

/-- 'porpoiselaw06.WindowNobody': WHATEVER THE INPUT: true; the input reads as it did. -/
def windowNobodySpec : ChangeSpec := { name := "windowNobody", fn := fun _ => fun
  | [d1, d2, d3] => { results := [.lit (.bool true)], args := [d1, d2, d3] }
  | _ => none }
def windowNobodyRow : OpenClaim := { program := "ytaepffcnhieckaa", sum := "0a20f254ed21b829e337983db8eb755337ce2c6b339d22490fe6d48f3aa3f13d", func := "porpoise/porpoiselaw06.WindowNobody", spec := "windowNobody", apart := false }
def WindowNobodySaid : Prop := windowNobodyRow.holds Try.pinned (OpenSpec.ofChange windowNobodySpec)

/-- ITS FALSE NEIGHBOUR: 'it returns false'. Refute it at one input. -/
def windowNobodyWrong : ChangeSpec := { name := "windowNobody", fn := fun _ => fun
  | [d1, d2, d3] => { results := [.lit (.bool false)], args := [d1, d2, d3] }
  | _ => none }
def WindowNobodyWrongFalsely : Prop := windowNobodyRow.holds Try.pinned (OpenSpec.ofChange windowNobodyWrong)

/- THE SECOND FORM. 'bulk': how many values and letters a reading holds, each counted each time it is reached (what is shared counts as often as it is met; a slice's spare places count too). A statement '..UptoSaid' is the law's where the arguments, and the package variables that the reading takes, are together of bulk at most 1048576: NARROWER than '..Said'. Prove '..Said' where nothing that the law and all that it calls make is longer than what came in: it says more and counts as full. Else prove '..UptoSaid'. A law counts once. -/
mutual
def uptoBulk {H : Type} : DataW H → Nat
  | .lit (.string bytes) => bytes.length + 1
  | .lit _ => 1
  | .nil => 1
  | .ptr d => uptoBulk d + 1
  | .slice elems spare => uptoBulkAll elems + uptoBulkAll spare + 1
  | .agg parts => uptoBulkAll parts + 1
  | .iface _ d => uptoBulk d + 1
  | .map entries => uptoBulkEntries entries + 1
  | .held _ => 1
def uptoBulkAll {H : Type} : List (DataW H) → Nat
  | [] => 0
  | d :: r => uptoBulk d + uptoBulkAll r
def uptoBulkEntries {H : Type} : List (Lit × DataW H) → Nat
  | [] => 0
  | x :: r => uptoBulkEntry x + uptoBulkEntries r
def uptoBulkEntry {H : Type} : Lit × DataW H → Nat
  | (.string bytes, d) => bytes.length + uptoBulk d + 1
  | (_, d) => uptoBulk d + 1
 end
def uptoSmall : (H : Type) → List (DataW H) → Bool := fun _ ds => decide (uptoBulkAll ds ≤ 1048576)
def OpenSpec.upto (s : _root_.Go.ChangeSpec) : _root_.Go.OpenSpec := { _root_.Go.OpenSpec.ofChange s with cond := some uptoSmall }

/-- 'porpoiselaw06.WindowLasts', WHERE WHAT IT READS IS OF BULK AT MOST 1048576: true; the input reads as it did. -/
def windowLastsUptoRow : OpenClaim := { program := "ytaepffcnhieckaa", sum := "0a20f254ed21b829e337983db8eb755337ce2c6b339d22490fe6d48f3aa3f13d", func := "porpoise/porpoiselaw06.WindowLasts", spec := "windowLasts", apart := false, narrowed := true }
def WindowLastsUptoSaid : Prop := windowLastsUptoRow.holds Try.pinned (OpenSpec.upto windowLastsSpec)

/-- 'porpoiselaw06.WindowJoins', WHERE WHAT IT READS IS OF BULK AT MOST 1048576: true; the input reads as it did. -/
def windowJoinsUptoRow : OpenClaim := { program := "ytaepffcnhieckaa", sum := "0a20f254ed21b829e337983db8eb755337ce2c6b339d22490fe6d48f3aa3f13d", func := "porpoise/porpoiselaw06.WindowJoins", spec := "windowJoins", apart := false, narrowed := true }
def WindowJoinsUptoSaid : Prop := windowJoinsUptoRow.holds Try.pinned (OpenSpec.upto windowJoinsSpec)

/-- 'porpoiselaw06.WindowFull', WHERE WHAT IT READS IS OF BULK AT MOST 1048576: true; the input reads as it did. -/
def windowFullUptoRow : OpenClaim := { program := "ytaepffcnhieckaa", sum := "0a20f254ed21b829e337983db8eb755337ce2c6b339d22490fe6d48f3aa3f13d", func := "porpoise/porpoiselaw06.WindowFull", spec := "windowFull", apart := false, narrowed := true }
def WindowFullUptoSaid : Prop := windowFullUptoRow.holds Try.pinned (OpenSpec.upto windowFullSpec)

/-- 'porpoiselaw06.WindowReset', WHERE WHAT IT READS IS OF BULK AT MOST 1048576: true; the input reads as it did. -/
def windowResetUptoRow : OpenClaim := { program := "ytaepffcnhieckaa", sum := "0a20f254ed21b829e337983db8eb755337ce2c6b339d22490fe6d48f3aa3f13d", func := "porpoise/porpoiselaw06.WindowReset", spec := "windowReset", apart := false, narrowed := true }
def WindowResetUptoSaid : Prop := windowResetUptoRow.holds Try.pinned (OpenSpec.upto windowResetSpec)

/-- 'porpoiselaw06.WindowNobody', WHERE WHAT IT READS IS OF BULK AT MOST 1048576: true; the input reads as it did. -/
def windowNobodyUptoRow : OpenClaim := { program := "ytaepffcnhieckaa", sum := "0a20f254ed21b829e337983db8eb755337ce2c6b339d22490fe6d48f3aa3f13d", func := "porpoise/porpoiselaw06.WindowNobody", spec := "windowNobody", apart := false, narrowed := true }
def WindowNobodyUptoSaid : Prop := windowNobodyUptoRow.holds Try.pinned (OpenSpec.upto windowNobodySpec)

end Rows
end Go.Proofs.Ytaepffcnhieckaa
