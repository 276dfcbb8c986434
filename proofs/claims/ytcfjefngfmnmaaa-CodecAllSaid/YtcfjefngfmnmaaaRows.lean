/-
  No cell of these rows narrows 'for every input' (looked for: loops, veiled, ifaces, maps, wideKeys, modest, calm, conditions, laid).
  DERIVED. THE GIVEN ROWS OF THIS SEAT. 6 by the template 'for every input the law returns true; each argument reads behind the call as it read before'; 0 by the template 'total and deterministic' (their statements: YtcfjefngfmnmaaaTotals.lean).
  GIVEN WITH THE SEED: the statements are not yours to turn. If you find one false, say at which input.
  Laid BY PROGRAM, IN A SANDBOX (cutbox-rows.mjs): the forced cells as the released guide's own fill.sh prints them over the translation 32f9fcf9ba8be071… (all of the seat's roots in one cut). By AI agents, Wed Nov 11 2026. No macro, syntax, notation, axiom, sorry.
-/
import Derived.Test.YtcfjefngfmnmaaaChecked
import GoSem.Claim
import GoSem.ClaimJoined
import GoSem.ClaimMapViews
import Derived.JoinedTies
import Derived.KernelRfl
namespace Go.Proofs.Ytcfjefngfmnmaaa
/- THE CELL 'sum', in the pinned program and in every row, IS THE sha256 OF THE DUMP (.gsa) THAT YtcfjefngfmnmaaaProg.lean LOADS. Nothing in Lean hashes anything: it is a label: what it is worth is what the hold of that sum in a sandbox is worth. -/
noncomputable def Try.pinned : Pinned := { name := "ytcfjefngfmnmaaa", sum := "32f9fcf9ba8be071ee970403950a897063a6b9815868bf74cde4b4623598ce27", checked := Try.checked }
namespace Rows
def none {H : Type} : Left H := { results := [], args := [] }

/-- 'porpoiselaw22.CodecTells': WHATEVER THE INPUT: true; the input reads as it did. -/
def codecTellsSpec : ChangeSpec := { name := "codecTells", fn := fun _ => fun
  | [d1, d2] => { results := [.lit (.bool true)], args := [d1, d2] }
  | _ => none }
def codecTellsRow : OpenClaim := { program := "ytcfjefngfmnmaaa", sum := "32f9fcf9ba8be071ee970403950a897063a6b9815868bf74cde4b4623598ce27", func := "porpoise/porpoiselaw22.CodecTells", spec := "codecTells", apart := false }
def CodecTellsSaid : Prop := codecTellsRow.holds Try.pinned (OpenSpec.ofChange codecTellsSpec)

/-- ITS FALSE NEIGHBOUR: 'it returns false'. Refute it at one input. -/
def codecTellsWrong : ChangeSpec := { name := "codecTells", fn := fun _ => fun
  | [d1, d2] => { results := [.lit (.bool false)], args := [d1, d2] }
  | _ => none }
def CodecTellsWrongFalsely : Prop := codecTellsRow.holds Try.pinned (OpenSpec.ofChange codecTellsWrong)

/-- 'porpoiselaw22.CodecBack': WHATEVER THE INPUT: true; the input reads as it did. -/
def codecBackSpec : ChangeSpec := { name := "codecBack", fn := fun _ => fun
  | [d1, d2] => { results := [.lit (.bool true)], args := [d1, d2] }
  | _ => none }
def codecBackRow : OpenClaim := { program := "ytcfjefngfmnmaaa", sum := "32f9fcf9ba8be071ee970403950a897063a6b9815868bf74cde4b4623598ce27", func := "porpoise/porpoiselaw22.CodecBack", spec := "codecBack", apart := false }
def CodecBackSaid : Prop := codecBackRow.holds Try.pinned (OpenSpec.ofChange codecBackSpec)

/-- ITS FALSE NEIGHBOUR: 'it returns false'. Refute it at one input. -/
def codecBackWrong : ChangeSpec := { name := "codecBack", fn := fun _ => fun
  | [d1, d2] => { results := [.lit (.bool false)], args := [d1, d2] }
  | _ => none }
def CodecBackWrongFalsely : Prop := codecBackRow.holds Try.pinned (OpenSpec.ofChange codecBackWrong)

/-- 'porpoiselaw22.CodecVery': WHATEVER THE INPUT: true; the input reads as it did. -/
def codecVerySpec : ChangeSpec := { name := "codecVery", fn := fun _ => fun
  | [d] => { results := [.lit (.bool true)], args := [d] }
  | _ => none }
def codecVeryRow : OpenClaim := { program := "ytcfjefngfmnmaaa", sum := "32f9fcf9ba8be071ee970403950a897063a6b9815868bf74cde4b4623598ce27", func := "porpoise/porpoiselaw22.CodecVery", spec := "codecVery", apart := false }
def CodecVerySaid : Prop := codecVeryRow.holds Try.pinned (OpenSpec.ofChange codecVerySpec)

/-- ITS FALSE NEIGHBOUR: 'it returns false'. Refute it at one input. -/
def codecVeryWrong : ChangeSpec := { name := "codecVery", fn := fun _ => fun
  | [d] => { results := [.lit (.bool false)], args := [d] }
  | _ => none }
def CodecVeryWrongFalsely : Prop := codecVeryRow.holds Try.pinned (OpenSpec.ofChange codecVeryWrong)

/-- 'porpoiselaw22.CodecBegins': WHATEVER THE INPUT: true; the input reads as it did. -/
def codecBeginsSpec : ChangeSpec := { name := "codecBegins", fn := fun _ => fun
  | [d1, d2] => { results := [.lit (.bool true)], args := [d1, d2] }
  | _ => none }
def codecBeginsRow : OpenClaim := { program := "ytcfjefngfmnmaaa", sum := "32f9fcf9ba8be071ee970403950a897063a6b9815868bf74cde4b4623598ce27", func := "porpoise/porpoiselaw22.CodecBegins", spec := "codecBegins", apart := false }
def CodecBeginsSaid : Prop := codecBeginsRow.holds Try.pinned (OpenSpec.ofChange codecBeginsSpec)

/-- ITS FALSE NEIGHBOUR: 'it returns false'. Refute it at one input. -/
def codecBeginsWrong : ChangeSpec := { name := "codecBegins", fn := fun _ => fun
  | [d1, d2] => { results := [.lit (.bool false)], args := [d1, d2] }
  | _ => none }
def CodecBeginsWrongFalsely : Prop := codecBeginsRow.holds Try.pinned (OpenSpec.ofChange codecBeginsWrong)

/-- 'porpoiselaw22.CodecAll': WHATEVER THE INPUT: true; the input reads as it did. -/
def codecAllSpec : ChangeSpec := { name := "codecAll", fn := fun _ => fun
  | [d1, d2] => { results := [.lit (.bool true)], args := [d1, d2] }
  | _ => none }
def codecAllRow : OpenClaim := { program := "ytcfjefngfmnmaaa", sum := "32f9fcf9ba8be071ee970403950a897063a6b9815868bf74cde4b4623598ce27", func := "porpoise/porpoiselaw22.CodecAll", spec := "codecAll", apart := false }
def CodecAllSaid : Prop := codecAllRow.holds Try.pinned (OpenSpec.ofChange codecAllSpec)

/-- ITS FALSE NEIGHBOUR: 'it returns false'. Refute it at one input. -/
def codecAllWrong : ChangeSpec := { name := "codecAll", fn := fun _ => fun
  | [d1, d2] => { results := [.lit (.bool false)], args := [d1, d2] }
  | _ => none }
def CodecAllWrongFalsely : Prop := codecAllRow.holds Try.pinned (OpenSpec.ofChange codecAllWrong)

/-- 'porpoiselaw22.CodecNobody': WHATEVER THE INPUT: true; the input reads as it did. -/
def codecNobodySpec : ChangeSpec := { name := "codecNobody", fn := fun _ => fun
  | [d] => { results := [.lit (.bool true)], args := [d] }
  | _ => none }
def codecNobodyRow : OpenClaim := { program := "ytcfjefngfmnmaaa", sum := "32f9fcf9ba8be071ee970403950a897063a6b9815868bf74cde4b4623598ce27", func := "porpoise/porpoiselaw22.CodecNobody", spec := "codecNobody", apart := false }
def CodecNobodySaid : Prop := codecNobodyRow.holds Try.pinned (OpenSpec.ofChange codecNobodySpec)

/-- ITS FALSE NEIGHBOUR: 'it returns false'. Refute it at one input. -/
def codecNobodyWrong : ChangeSpec := { name := "codecNobody", fn := fun _ => fun
  | [d] => { results := [.lit (.bool false)], args := [d] }
  | _ => none }
def CodecNobodyWrongFalsely : Prop := codecNobodyRow.holds Try.pinned (OpenSpec.ofChange codecNobodyWrong)

/- THE SECOND FORM. 'bulk': how many values and letters a reading holds, each counted each time it is reached (what is shared counts as often as it is met; a slice's spare places count too). A statement '..UptoSaid' is the law's where the arguments, and the package variables that the reading takes, are together of bulk at most 1048576: NARROWER than '..Said'. Prove '..Said' where nothing that the law and all that it calls make is longer than what came in: it says more and counts as full. Else prove '..UptoSaid'. A law counts once. -/
mutual
def uptoBulk {H : Type} : DataW H → Nat
  | .lit (.string bytes) => bytes.length + 1
  | .lit _ => 1
  | .nil => 1
  | .ptr d => uptoBulk d + 1
  | .slice elems spare => uptoBulkAll elems + uptoBulkAll spare + 1
  | .agg parts => uptoBulkAll parts + 1
  | .iface _ d => uptoBulk d + 1
  | .map entries => uptoBulkEntries entries + 1
  | .held _ => 1
def uptoBulkAll {H : Type} : List (DataW H) → Nat
  | [] => 0
  | d :: r => uptoBulk d + uptoBulkAll r
def uptoBulkEntries {H : Type} : List (Lit × DataW H) → Nat
  | [] => 0
  | x :: r => uptoBulkEntry x + uptoBulkEntries r
def uptoBulkEntry {H : Type} : Lit × DataW H → Nat
  | (.string bytes, d) => bytes.length + uptoBulk d + 1
  | (_, d) => uptoBulk d + 1
 end
def uptoSmall : (H : Type) → List (DataW H) → Bool := fun _ ds => decide (uptoBulkAll ds ≤ 1048576)
def OpenSpec.upto (s : _root_.Go.ChangeSpec) : _root_.Go.OpenSpec := { _root_.Go.OpenSpec.ofChange s with cond := some uptoSmall }

/-- 'porpoiselaw22.CodecTells', WHERE WHAT IT READS IS OF BULK AT MOST 1048576: true; the input reads as it did. -/
def codecTellsUptoRow : OpenClaim := { program := "ytcfjefngfmnmaaa", sum := "32f9fcf9ba8be071ee970403950a897063a6b9815868bf74cde4b4623598ce27", func := "porpoise/porpoiselaw22.CodecTells", spec := "codecTells", apart := false, narrowed := true }
def CodecTellsUptoSaid : Prop := codecTellsUptoRow.holds Try.pinned (OpenSpec.upto codecTellsSpec)

/-- 'porpoiselaw22.CodecBack', WHERE WHAT IT READS IS OF BULK AT MOST 1048576: true; the input reads as it did. -/
def codecBackUptoRow : OpenClaim := { program := "ytcfjefngfmnmaaa", sum := "32f9fcf9ba8be071ee970403950a897063a6b9815868bf74cde4b4623598ce27", func := "porpoise/porpoiselaw22.CodecBack", spec := "codecBack", apart := false, narrowed := true }
def CodecBackUptoSaid : Prop := codecBackUptoRow.holds Try.pinned (OpenSpec.upto codecBackSpec)

/-- 'porpoiselaw22.CodecVery', WHERE WHAT IT READS IS OF BULK AT MOST 1048576: true; the input reads as it did. -/
def codecVeryUptoRow : OpenClaim := { program := "ytcfjefngfmnmaaa", sum := "32f9fcf9ba8be071ee970403950a897063a6b9815868bf74cde4b4623598ce27", func := "porpoise/porpoiselaw22.CodecVery", spec := "codecVery", apart := false, narrowed := true }
def CodecVeryUptoSaid : Prop := codecVeryUptoRow.holds Try.pinned (OpenSpec.upto codecVerySpec)

/-- 'porpoiselaw22.CodecBegins', WHERE WHAT IT READS IS OF BULK AT MOST 1048576: true; the input reads as it did. -/
def codecBeginsUptoRow : OpenClaim := { program := "ytcfjefngfmnmaaa", sum := "32f9fcf9ba8be071ee970403950a897063a6b9815868bf74cde4b4623598ce27", func := "porpoise/porpoiselaw22.CodecBegins", spec := "codecBegins", apart := false, narrowed := true }
def CodecBeginsUptoSaid : Prop := codecBeginsUptoRow.holds Try.pinned (OpenSpec.upto codecBeginsSpec)

/-- 'porpoiselaw22.CodecAll', WHERE WHAT IT READS IS OF BULK AT MOST 1048576: true; the input reads as it did. -/
def codecAllUptoRow : OpenClaim := { program := "ytcfjefngfmnmaaa", sum := "32f9fcf9ba8be071ee970403950a897063a6b9815868bf74cde4b4623598ce27", func := "porpoise/porpoiselaw22.CodecAll", spec := "codecAll", apart := false, narrowed := true }
def CodecAllUptoSaid : Prop := codecAllUptoRow.holds Try.pinned (OpenSpec.upto codecAllSpec)

/-- 'porpoiselaw22.CodecNobody', WHERE WHAT IT READS IS OF BULK AT MOST 1048576: true; the input reads as it did. -/
def codecNobodyUptoRow : OpenClaim := { program := "ytcfjefngfmnmaaa", sum := "32f9fcf9ba8be071ee970403950a897063a6b9815868bf74cde4b4623598ce27", func := "porpoise/porpoiselaw22.CodecNobody", spec := "codecNobody", apart := false, narrowed := true }
def CodecNobodyUptoSaid : Prop := codecNobodyUptoRow.holds Try.pinned (OpenSpec.upto codecNobodySpec)

end Rows
end Go.Proofs.Ytcfjefngfmnmaaa
