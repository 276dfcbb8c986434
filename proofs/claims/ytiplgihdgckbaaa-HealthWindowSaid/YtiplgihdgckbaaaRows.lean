/-
  No cell of these rows narrows 'for every input' (looked for: loops, veiled, ifaces, maps, wideKeys, modest, calm, conditions, laid).
  DERIVED. THE GIVEN ROWS OF THIS SEAT. 6 by the template 'for every input the law returns true; each argument reads behind the call as it read before'; 0 by the template 'total and deterministic' (their statements: YtiplgihdgckbaaaTotals.lean).
  GIVEN WITH THE SEED: the statements are not yours to turn. If you find one false, say at which input.
  Laid BY PROGRAM, IN A SANDBOX (cutbox-rows.mjs): the forced cells as the released guide's own fill.sh prints them over the translation 8fbf8e732783ce7b… (all of the seat's roots in one cut). By AI agents, Wed Nov 11 2026. No macro, syntax, notation, axiom, sorry.
-/
import Derived.Test.YtiplgihdgckbaaaChecked
import GoSem.Claim
import GoSem.ClaimJoined
import GoSem.ClaimMapViews
import Derived.JoinedTies
import Derived.KernelRfl
namespace Go.Proofs.Ytiplgihdgckbaaa
/- THE CELL 'sum', in the pinned program and in every row, IS THE sha256 OF THE DUMP (.gsa) THAT YtiplgihdgckbaaaProg.lean LOADS. Nothing in Lean hashes anything: it is a label: what it is worth is what the hold of that sum in a sandbox is worth. -/
noncomputable def Try.pinned : Pinned := { name := "ytiplgihdgckbaaa", sum := "8fbf8e732783ce7bd4cdc4b9c00fbd2ab51423741927a3c821f2524426a59dd9", checked := Try.checked }
namespace Rows
def none {H : Type} : Left H := { results := [], args := [] }

/-- 'porpoiselaw16.HealthTells': WHATEVER THE INPUT: true; the input reads as it did. -/
def healthTellsSpec : ChangeSpec := { name := "healthTells", fn := fun _ => fun
  | [d1, d2, d3] => { results := [.lit (.bool true)], args := [d1, d2, d3] }
  | _ => none }
def healthTellsRow : OpenClaim := { program := "ytiplgihdgckbaaa", sum := "8fbf8e732783ce7bd4cdc4b9c00fbd2ab51423741927a3c821f2524426a59dd9", func := "porpoise/porpoiselaw16.HealthTells", spec := "healthTells", apart := false }
def HealthTellsSaid : Prop := healthTellsRow.holds Try.pinned (OpenSpec.ofChange healthTellsSpec)

/-- ITS FALSE NEIGHBOUR: 'it returns false'. Refute it at one input. -/
def healthTellsWrong : ChangeSpec := { name := "healthTells", fn := fun _ => fun
  | [d1, d2, d3] => { results := [.lit (.bool false)], args := [d1, d2, d3] }
  | _ => none }
def HealthTellsWrongFalsely : Prop := healthTellsRow.holds Try.pinned (OpenSpec.ofChange healthTellsWrong)

/-- 'porpoiselaw16.HealthShort': WHATEVER THE INPUT: true; the input reads as it did. -/
def healthShortSpec : ChangeSpec := { name := "healthShort", fn := fun _ => fun
  | [d1, d2, d3] => { results := [.lit (.bool true)], args := [d1, d2, d3] }
  | _ => none }
def healthShortRow : OpenClaim := { program := "ytiplgihdgckbaaa", sum := "8fbf8e732783ce7bd4cdc4b9c00fbd2ab51423741927a3c821f2524426a59dd9", func := "porpoise/porpoiselaw16.HealthShort", spec := "healthShort", apart := false }
def HealthShortSaid : Prop := healthShortRow.holds Try.pinned (OpenSpec.ofChange healthShortSpec)

/-- ITS FALSE NEIGHBOUR: 'it returns false'. Refute it at one input. -/
def healthShortWrong : ChangeSpec := { name := "healthShort", fn := fun _ => fun
  | [d1, d2, d3] => { results := [.lit (.bool false)], args := [d1, d2, d3] }
  | _ => none }
def HealthShortWrongFalsely : Prop := healthShortRow.holds Try.pinned (OpenSpec.ofChange healthShortWrong)

/-- 'porpoiselaw16.HealthMore': WHATEVER THE INPUT: true; the input reads as it did. -/
def healthMoreSpec : ChangeSpec := { name := "healthMore", fn := fun _ => fun
  | [d1, d2, d3] => { results := [.lit (.bool true)], args := [d1, d2, d3] }
  | _ => none }
def healthMoreRow : OpenClaim := { program := "ytiplgihdgckbaaa", sum := "8fbf8e732783ce7bd4cdc4b9c00fbd2ab51423741927a3c821f2524426a59dd9", func := "porpoise/porpoiselaw16.HealthMore", spec := "healthMore", apart := false }
def HealthMoreSaid : Prop := healthMoreRow.holds Try.pinned (OpenSpec.ofChange healthMoreSpec)

/-- ITS FALSE NEIGHBOUR: 'it returns false'. Refute it at one input. -/
def healthMoreWrong : ChangeSpec := { name := "healthMore", fn := fun _ => fun
  | [d1, d2, d3] => { results := [.lit (.bool false)], args := [d1, d2, d3] }
  | _ => none }
def HealthMoreWrongFalsely : Prop := healthMoreRow.holds Try.pinned (OpenSpec.ofChange healthMoreWrong)

/-- 'porpoiselaw16.HealthSums': WHATEVER THE INPUT: true; the input reads as it did. -/
def healthSumsSpec : ChangeSpec := { name := "healthSums", fn := fun _ => fun
  | [d] => { results := [.lit (.bool true)], args := [d] }
  | _ => none }
def healthSumsRow : OpenClaim := { program := "ytiplgihdgckbaaa", sum := "8fbf8e732783ce7bd4cdc4b9c00fbd2ab51423741927a3c821f2524426a59dd9", func := "porpoise/porpoiselaw16.HealthSums", spec := "healthSums", apart := false }
def HealthSumsSaid : Prop := healthSumsRow.holds Try.pinned (OpenSpec.ofChange healthSumsSpec)

/-- ITS FALSE NEIGHBOUR: 'it returns false'. Refute it at one input. -/
def healthSumsWrong : ChangeSpec := { name := "healthSums", fn := fun _ => fun
  | [d] => { results := [.lit (.bool false)], args := [d] }
  | _ => none }
def HealthSumsWrongFalsely : Prop := healthSumsRow.holds Try.pinned (OpenSpec.ofChange healthSumsWrong)

/-- 'porpoiselaw16.HealthOf': WHATEVER THE INPUT: true; the input reads as it did. -/
def healthOfSpec : ChangeSpec := { name := "healthOf", fn := fun _ => fun
  | [d1, d2, d3] => { results := [.lit (.bool true)], args := [d1, d2, d3] }
  | _ => none }
def healthOfRow : OpenClaim := { program := "ytiplgihdgckbaaa", sum := "8fbf8e732783ce7bd4cdc4b9c00fbd2ab51423741927a3c821f2524426a59dd9", func := "porpoise/porpoiselaw16.HealthOf", spec := "healthOf", apart := false }
def HealthOfSaid : Prop := healthOfRow.holds Try.pinned (OpenSpec.ofChange healthOfSpec)

/-- ITS FALSE NEIGHBOUR: 'it returns false'. Refute it at one input. -/
def healthOfWrong : ChangeSpec := { name := "healthOf", fn := fun _ => fun
  | [d1, d2, d3] => { results := [.lit (.bool false)], args := [d1, d2, d3] }
  | _ => none }
def HealthOfWrongFalsely : Prop := healthOfRow.holds Try.pinned (OpenSpec.ofChange healthOfWrong)

/-- 'porpoiselaw16.HealthWindow': WHATEVER THE INPUT: true; the input reads as it did. -/
def healthWindowSpec : ChangeSpec := { name := "healthWindow", fn := fun _ => fun
  | [d1, d2, d3] => { results := [.lit (.bool true)], args := [d1, d2, d3] }
  | _ => none }
def healthWindowRow : OpenClaim := { program := "ytiplgihdgckbaaa", sum := "8fbf8e732783ce7bd4cdc4b9c00fbd2ab51423741927a3c821f2524426a59dd9", func := "porpoise/porpoiselaw16.HealthWindow", spec := "healthWindow", apart := false }
def HealthWindowSaid : Prop := healthWindowRow.holds Try.pinned (OpenSpec.ofChange healthWindowSpec)

/-- ITS FALSE NEIGHBOUR: 'it returns false'. Refute it at one input. -/
def healthWindowWrong : ChangeSpec := { name := "healthWindow", fn := fun _ => fun
  | [d1, d2, d3] => { results := [.lit (.bool false)], args := [d1, d2, d3] }
  | _ => none }
def HealthWindowWrongFalsely : Prop := healthWindowRow.holds Try.pinned (OpenSpec.ofChange healthWindowWrong)

/- THE SECOND FORM. 'bulk': how many values and letters a reading holds, each counted each time it is reached (what is shared counts as often as it is met; a slice's spare places count too). A statement '..UptoSaid' is the law's where the arguments, and the package variables that the reading takes, are together of bulk at most 1048576: NARROWER than '..Said'. Prove '..Said' where nothing that the law and all that it calls make is longer than what came in: it says more and counts as full. Else prove '..UptoSaid'. A law counts once. -/
mutual
def uptoBulk {H : Type} : DataW H → Nat
  | .lit (.string bytes) => bytes.length + 1
  | .lit _ => 1
  | .nil => 1
  | .ptr d => uptoBulk d + 1
  | .slice elems spare => uptoBulkAll elems + uptoBulkAll spare + 1
  | .agg parts => uptoBulkAll parts + 1
  | .iface _ d => uptoBulk d + 1
  | .map entries => uptoBulkEntries entries + 1
  | .held _ => 1
def uptoBulkAll {H : Type} : List (DataW H) → Nat
  | [] => 0
  | d :: r => uptoBulk d + uptoBulkAll r
def uptoBulkEntries {H : Type} : List (Lit × DataW H) → Nat
  | [] => 0
  | x :: r => uptoBulkEntry x + uptoBulkEntries r
def uptoBulkEntry {H : Type} : Lit × DataW H → Nat
  | (.string bytes, d) => bytes.length + uptoBulk d + 1
  | (_, d) => uptoBulk d + 1
 end
def uptoSmall : (H : Type) → List (DataW H) → Bool := fun _ ds => decide (uptoBulkAll ds ≤ 1048576)
def OpenSpec.upto (s : _root_.Go.ChangeSpec) : _root_.Go.OpenSpec := { _root_.Go.OpenSpec.ofChange s with cond := some uptoSmall }

/-- 'porpoiselaw16.HealthTells', WHERE WHAT IT READS IS OF BULK AT MOST 1048576: true; the input reads as it did. -/
def healthTellsUptoRow : OpenClaim := { program := "ytiplgihdgckbaaa", sum := "8fbf8e732783ce7bd4cdc4b9c00fbd2ab51423741927a3c821f2524426a59dd9", func := "porpoise/porpoiselaw16.HealthTells", spec := "healthTells", apart := false, narrowed := true }
def HealthTellsUptoSaid : Prop := healthTellsUptoRow.holds Try.pinned (OpenSpec.upto healthTellsSpec)

/-- 'porpoiselaw16.HealthShort', WHERE WHAT IT READS IS OF BULK AT MOST 1048576: true; the input reads as it did. -/
def healthShortUptoRow : OpenClaim := { program := "ytiplgihdgckbaaa", sum := "8fbf8e732783ce7bd4cdc4b9c00fbd2ab51423741927a3c821f2524426a59dd9", func := "porpoise/porpoiselaw16.HealthShort", spec := "healthShort", apart := false, narrowed := true }
def HealthShortUptoSaid : Prop := healthShortUptoRow.holds Try.pinned (OpenSpec.upto healthShortSpec)

/-- 'porpoiselaw16.HealthMore', WHERE WHAT IT READS IS OF BULK AT MOST 1048576: true; the input reads as it did. -/
def healthMoreUptoRow : OpenClaim := { program := "ytiplgihdgckbaaa", sum := "8fbf8e732783ce7bd4cdc4b9c00fbd2ab51423741927a3c821f2524426a59dd9", func := "porpoise/porpoiselaw16.HealthMore", spec := "healthMore", apart := false, narrowed := true }
def HealthMoreUptoSaid : Prop := healthMoreUptoRow.holds Try.pinned (OpenSpec.upto healthMoreSpec)

/-- 'porpoiselaw16.HealthSums', WHERE WHAT IT READS IS OF BULK AT MOST 1048576: true; the input reads as it did. -/
def healthSumsUptoRow : OpenClaim := { program := "ytiplgihdgckbaaa", sum := "8fbf8e732783ce7bd4cdc4b9c00fbd2ab51423741927a3c821f2524426a59dd9", func := "porpoise/porpoiselaw16.HealthSums", spec := "healthSums", apart := false, narrowed := true }
def HealthSumsUptoSaid : Prop := healthSumsUptoRow.holds Try.pinned (OpenSpec.upto healthSumsSpec)

/-- 'porpoiselaw16.HealthOf', WHERE WHAT IT READS IS OF BULK AT MOST 1048576: true; the input reads as it did. -/
def healthOfUptoRow : OpenClaim := { program := "ytiplgihdgckbaaa", sum := "8fbf8e732783ce7bd4cdc4b9c00fbd2ab51423741927a3c821f2524426a59dd9", func := "porpoise/porpoiselaw16.HealthOf", spec := "healthOf", apart := false, narrowed := true }
def HealthOfUptoSaid : Prop := healthOfUptoRow.holds Try.pinned (OpenSpec.upto healthOfSpec)

/-- 'porpoiselaw16.HealthWindow', WHERE WHAT IT READS IS OF BULK AT MOST 1048576: true; the input reads as it did. -/
def healthWindowUptoRow : OpenClaim := { program := "ytiplgihdgckbaaa", sum := "8fbf8e732783ce7bd4cdc4b9c00fbd2ab51423741927a3c821f2524426a59dd9", func := "porpoise/porpoiselaw16.HealthWindow", spec := "healthWindow", apart := false, narrowed := true }
def HealthWindowUptoSaid : Prop := healthWindowUptoRow.holds Try.pinned (OpenSpec.upto healthWindowSpec)

end Rows
end Go.Proofs.Ytiplgihdgckbaaa
