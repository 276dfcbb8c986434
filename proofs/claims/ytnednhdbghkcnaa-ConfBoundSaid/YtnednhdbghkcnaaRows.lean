/-
  No cell of these rows narrows 'for every input' (looked for: loops, veiled, ifaces, maps, wideKeys, modest, calm, conditions, laid).
  DERIVED. THE GIVEN ROWS OF THIS SEAT. 6 by the template 'for every input the law returns true; each argument reads behind the call as it read before'; 0 by the template 'total and deterministic' (their statements: YtnednhdbghkcnaaTotals.lean).
  GIVEN WITH THE SEED: the statements are not yours to turn. If you find one false, say at which input.
  Laid BY PROGRAM, IN A SANDBOX (cutbox-rows.mjs): the forced cells as the released guide's own fill.sh prints them over the translation 0f7db16282f30730… (all of the seat's roots in one cut). By AI agents, Wed Nov 11 2026. No macro, syntax, notation, axiom, sorry.
-/
import Derived.Test.YtnednhdbghkcnaaChecked
import GoSem.Claim
import GoSem.ClaimJoined
import GoSem.ClaimMapViews
import Derived.JoinedTies
import Derived.KernelRfl
namespace Go.Proofs.Ytnednhdbghkcnaa
/- THE CELL 'sum', in the pinned program and in every row, IS THE sha256 OF THE DUMP (.gsa) THAT YtnednhdbghkcnaaProg.lean LOADS. Nothing in Lean hashes anything: it is a label: what it is worth is what the hold of that sum in a sandbox is worth. -/
noncomputable def Try.pinned : Pinned := { name := "ytnednhdbghkcnaa", sum := "0f7db16282f307305de57b7bd210d93adf3d975301fe7f882a924971eb3bb347", checked := Try.checked }
namespace Rows
def none {H : Type} : Left H := { results := [], args := [] }

/-- 'porpoiselaw08.ConfTells': WHATEVER THE INPUT: true; the input reads as it did. -/
def confTellsSpec : ChangeSpec := { name := "confTells", fn := fun _ => fun
  | [d] => { results := [.lit (.bool true)], args := [d] }
  | _ => none }
def confTellsRow : OpenClaim := { program := "ytnednhdbghkcnaa", sum := "0f7db16282f307305de57b7bd210d93adf3d975301fe7f882a924971eb3bb347", func := "porpoise/porpoiselaw08.ConfTells", spec := "confTells", apart := false }
def ConfTellsSaid : Prop := confTellsRow.holds Try.pinned (OpenSpec.ofChange confTellsSpec)

/-- ITS FALSE NEIGHBOUR: 'it returns false'. Refute it at one input. -/
def confTellsWrong : ChangeSpec := { name := "confTells", fn := fun _ => fun
  | [d] => { results := [.lit (.bool false)], args := [d] }
  | _ => none }
def ConfTellsWrongFalsely : Prop := confTellsRow.holds Try.pinned (OpenSpec.ofChange confTellsWrong)

/-- 'porpoiselaw08.ConfTakes': WHATEVER THE INPUT: true; the input reads as it did. -/
def confTakesSpec : ChangeSpec := { name := "confTakes", fn := fun _ => fun
  | [d] => { results := [.lit (.bool true)], args := [d] }
  | _ => none }
def confTakesRow : OpenClaim := { program := "ytnednhdbghkcnaa", sum := "0f7db16282f307305de57b7bd210d93adf3d975301fe7f882a924971eb3bb347", func := "porpoise/porpoiselaw08.ConfTakes", spec := "confTakes", apart := false }
def ConfTakesSaid : Prop := confTakesRow.holds Try.pinned (OpenSpec.ofChange confTakesSpec)

/-- ITS FALSE NEIGHBOUR: 'it returns false'. Refute it at one input. -/
def confTakesWrong : ChangeSpec := { name := "confTakes", fn := fun _ => fun
  | [d] => { results := [.lit (.bool false)], args := [d] }
  | _ => none }
def ConfTakesWrongFalsely : Prop := confTakesRow.holds Try.pinned (OpenSpec.ofChange confTakesWrong)

/-- 'porpoiselaw08.ConfBack': WHATEVER THE INPUT: true; the input reads as it did. -/
def confBackSpec : ChangeSpec := { name := "confBack", fn := fun _ => fun
  | [d] => { results := [.lit (.bool true)], args := [d] }
  | _ => none }
def confBackRow : OpenClaim := { program := "ytnednhdbghkcnaa", sum := "0f7db16282f307305de57b7bd210d93adf3d975301fe7f882a924971eb3bb347", func := "porpoise/porpoiselaw08.ConfBack", spec := "confBack", apart := false }
def ConfBackSaid : Prop := confBackRow.holds Try.pinned (OpenSpec.ofChange confBackSpec)

/-- ITS FALSE NEIGHBOUR: 'it returns false'. Refute it at one input. -/
def confBackWrong : ChangeSpec := { name := "confBack", fn := fun _ => fun
  | [d] => { results := [.lit (.bool false)], args := [d] }
  | _ => none }
def ConfBackWrongFalsely : Prop := confBackRow.holds Try.pinned (OpenSpec.ofChange confBackWrong)

/-- 'porpoiselaw08.ConfTurned': WHATEVER THE INPUT: true; the input reads as it did. -/
def confTurnedSpec : ChangeSpec := { name := "confTurned", fn := fun _ => fun
  | [d1, d2, d3] => { results := [.lit (.bool true)], args := [d1, d2, d3] }
  | _ => none }
def confTurnedRow : OpenClaim := { program := "ytnednhdbghkcnaa", sum := "0f7db16282f307305de57b7bd210d93adf3d975301fe7f882a924971eb3bb347", func := "porpoise/porpoiselaw08.ConfTurned", spec := "confTurned", apart := false }
def ConfTurnedSaid : Prop := confTurnedRow.holds Try.pinned (OpenSpec.ofChange confTurnedSpec)

/-- ITS FALSE NEIGHBOUR: 'it returns false'. Refute it at one input. -/
def confTurnedWrong : ChangeSpec := { name := "confTurned", fn := fun _ => fun
  | [d1, d2, d3] => { results := [.lit (.bool false)], args := [d1, d2, d3] }
  | _ => none }
def ConfTurnedWrongFalsely : Prop := confTurnedRow.holds Try.pinned (OpenSpec.ofChange confTurnedWrong)

/-- 'porpoiselaw08.ConfBound': WHATEVER THE INPUT: true; the input reads as it did. -/
def confBoundSpec : ChangeSpec := { name := "confBound", fn := fun _ => fun
  | [d1, d2] => { results := [.lit (.bool true)], args := [d1, d2] }
  | _ => none }
def confBoundRow : OpenClaim := { program := "ytnednhdbghkcnaa", sum := "0f7db16282f307305de57b7bd210d93adf3d975301fe7f882a924971eb3bb347", func := "porpoise/porpoiselaw08.ConfBound", spec := "confBound", apart := false }
def ConfBoundSaid : Prop := confBoundRow.holds Try.pinned (OpenSpec.ofChange confBoundSpec)

/-- ITS FALSE NEIGHBOUR: 'it returns false'. Refute it at one input. -/
def confBoundWrong : ChangeSpec := { name := "confBound", fn := fun _ => fun
  | [d1, d2] => { results := [.lit (.bool false)], args := [d1, d2] }
  | _ => none }
def ConfBoundWrongFalsely : Prop := confBoundRow.holds Try.pinned (OpenSpec.ofChange confBoundWrong)

/-- 'porpoiselaw08.ConfModes': WHATEVER THE INPUT: true; the input reads as it did. -/
def confModesSpec : ChangeSpec := { name := "confModes", fn := fun _ => fun
  | [d] => { results := [.lit (.bool true)], args := [d] }
  | _ => none }
def confModesRow : OpenClaim := { program := "ytnednhdbghkcnaa", sum := "0f7db16282f307305de57b7bd210d93adf3d975301fe7f882a924971eb3bb347", func := "porpoise/porpoiselaw08.ConfModes", spec := "confModes", apart := false }
def ConfModesSaid : Prop := confModesRow.holds Try.pinned (OpenSpec.ofChange confModesSpec)

/-- ITS FALSE NEIGHBOUR: 'it returns false'. Refute it at one input. -/
def confModesWrong : ChangeSpec := { name := "confModes", fn := fun _ => fun
  | [d] => { results := [.lit (.bool false)], args := [d] }
  | _ => none }
def ConfModesWrongFalsely : Prop := confModesRow.holds Try.pinned (OpenSpec.ofChange confModesWrong)

/- THE SECOND FORM. 'bulk': how many values and letters a reading holds, each counted each time it is reached (what is shared counts as often as it is met; a slice's spare places count too). A statement '..UptoSaid' is the law's where the arguments, and the package variables that the reading takes, are together of bulk at most 1048576: NARROWER than '..Said'. Prove '..Said' where nothing that the law and all that it calls make is longer than what came in: it says more and counts as full. Else prove '..UptoSaid'. A law counts once. -/
mutual
def uptoBulk {H : Type} : DataW H → Nat
  | .lit (.string bytes) => bytes.length + 1
  | .lit _ => 1
  | .nil => 1
  | .ptr d => uptoBulk d + 1
  | .slice elems spare => uptoBulkAll elems + uptoBulkAll spare + 1
  | .agg parts => uptoBulkAll parts + 1
  | .iface _ d => uptoBulk d + 1
  | .map entries => uptoBulkEntries entries + 1
  | .held _ => 1
def uptoBulkAll {H : Type} : List (DataW H) → Nat
  | [] => 0
  | d :: r => uptoBulk d + uptoBulkAll r
def uptoBulkEntries {H : Type} : List (Lit × DataW H) → Nat
  | [] => 0
  | x :: r => uptoBulkEntry x + uptoBulkEntries r
def uptoBulkEntry {H : Type} : Lit × DataW H → Nat
  | (.string bytes, d) => bytes.length + uptoBulk d + 1
  | (_, d) => uptoBulk d + 1
 end
def uptoSmall : (H : Type) → List (DataW H) → Bool := fun _ ds => decide (uptoBulkAll ds ≤ 1048576)
def OpenSpec.upto (s : _root_.Go.ChangeSpec) : _root_.Go.OpenSpec := { _root_.Go.OpenSpec.ofChange s with cond := some uptoSmall }

/-- 'porpoiselaw08.ConfTells', WHERE WHAT IT READS IS OF BULK AT MOST 1048576: true; the input reads as it did. -/
def confTellsUptoRow : OpenClaim := { program := "ytnednhdbghkcnaa", sum := "0f7db16282f307305de57b7bd210d93adf3d975301fe7f882a924971eb3bb347", func := "porpoise/porpoiselaw08.ConfTells", spec := "confTells", apart := false, narrowed := true }
def ConfTellsUptoSaid : Prop := confTellsUptoRow.holds Try.pinned (OpenSpec.upto confTellsSpec)

/-- 'porpoiselaw08.ConfTakes', WHERE WHAT IT READS IS OF BULK AT MOST 1048576: true; the input reads as it did. -/
def confTakesUptoRow : OpenClaim := { program := "ytnednhdbghkcnaa", sum := "0f7db16282f307305de57b7bd210d93adf3d975301fe7f882a924971eb3bb347", func := "porpoise/porpoiselaw08.ConfTakes", spec := "confTakes", apart := false, narrowed := true }
def ConfTakesUptoSaid : Prop := confTakesUptoRow.holds Try.pinned (OpenSpec.upto confTakesSpec)

/-- 'porpoiselaw08.ConfBack', WHERE WHAT IT READS IS OF BULK AT MOST 1048576: true; the input reads as it did. -/
def confBackUptoRow : OpenClaim := { program := "ytnednhdbghkcnaa", sum := "0f7db16282f307305de57b7bd210d93adf3d975301fe7f882a924971eb3bb347", func := "porpoise/porpoiselaw08.ConfBack", spec := "confBack", apart := false, narrowed := true }
def ConfBackUptoSaid : Prop := confBackUptoRow.holds Try.pinned (OpenSpec.upto confBackSpec)

/-- 'porpoiselaw08.ConfTurned', WHERE WHAT IT READS IS OF BULK AT MOST 1048576: true; the input reads as it did. -/
def confTurnedUptoRow : OpenClaim := { program := "ytnednhdbghkcnaa", sum := "0f7db16282f307305de57b7bd210d93adf3d975301fe7f882a924971eb3bb347", func := "porpoise/porpoiselaw08.ConfTurned", spec := "confTurned", apart := false, narrowed := true }
def ConfTurnedUptoSaid : Prop := confTurnedUptoRow.holds Try.pinned (OpenSpec.upto confTurnedSpec)

/-- 'porpoiselaw08.ConfBound', WHERE WHAT IT READS IS OF BULK AT MOST 1048576: true; the input reads as it did. -/
def confBoundUptoRow : OpenClaim := { program := "ytnednhdbghkcnaa", sum := "0f7db16282f307305de57b7bd210d93adf3d975301fe7f882a924971eb3bb347", func := "porpoise/porpoiselaw08.ConfBound", spec := "confBound", apart := false, narrowed := true }
def ConfBoundUptoSaid : Prop := confBoundUptoRow.holds Try.pinned (OpenSpec.upto confBoundSpec)

/-- 'porpoiselaw08.ConfModes', WHERE WHAT IT READS IS OF BULK AT MOST 1048576: true; the input reads as it did. -/
def confModesUptoRow : OpenClaim := { program := "ytnednhdbghkcnaa", sum := "0f7db16282f307305de57b7bd210d93adf3d975301fe7f882a924971eb3bb347", func := "porpoise/porpoiselaw08.ConfModes", spec := "confModes", apart := false, narrowed := true }
def ConfModesUptoSaid : Prop := confModesUptoRow.holds Try.pinned (OpenSpec.upto confModesSpec)

end Rows
end Go.Proofs.Ytnednhdbghkcnaa
