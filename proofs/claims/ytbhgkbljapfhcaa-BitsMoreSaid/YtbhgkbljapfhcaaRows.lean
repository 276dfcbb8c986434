/-
  No cell of these rows narrows 'for every input' (looked for: loops, veiled, ifaces, maps, wideKeys, modest, calm, conditions, laid).
  DERIVED. THE GIVEN ROWS OF THIS SEAT. 6 by the template 'for every input the law returns true; each argument reads behind the call as it read before'; 0 by the template 'total and deterministic' (their statements: YtbhgkbljapfhcaaTotals.lean).
  GIVEN WITH THE SEED: the statements are not yours to turn. If you find one false, say at which input.
  Laid BY PROGRAM, IN A SANDBOX (cutbox-rows.mjs): the forced cells as the released guide's own fill.sh prints them over the translation a6ec452d61ae5004… (all of the seat's roots in one cut). By AI agents, Wed Nov 11 2026. No macro, syntax, notation, axiom, sorry.
-/
import Derived.Test.YtbhgkbljapfhcaaChecked
import GoSem.Claim
import GoSem.ClaimJoined
import GoSem.ClaimMapViews
import Derived.JoinedTies
import Derived.KernelRfl
namespace Go.Proofs.Ytbhgkbljapfhcaa
/- THE CELL 'sum', in the pinned program and in every row, IS THE sha256 OF THE DUMP (.gsa) THAT YtbhgkbljapfhcaaProg.lean LOADS. Nothing in Lean hashes anything: it is a label: what it is worth is what the hold of that sum in a sandbox is worth. -/
noncomputable def Try.pinned : Pinned := { name := "ytbhgkbljapfhcaa", sum := "a6ec452d61ae5004e1922dff8f94e235bbbe87997a7f6481a32943487ab8d12d", checked := Try.checked }
namespace Rows
def none {H : Type} : Left H := { results := [], args := [] }

/-- 'porpoiselaw02.BitsTells': WHATEVER THE INPUT: true; the input reads as it did. -/
def bitsTellsSpec : ChangeSpec := { name := "bitsTells", fn := fun _ => fun
  | [d1, d2, d3] => { results := [.lit (.bool true)], args := [d1, d2, d3] }
  | _ => none }
def bitsTellsRow : OpenClaim := { program := "ytbhgkbljapfhcaa", sum := "a6ec452d61ae5004e1922dff8f94e235bbbe87997a7f6481a32943487ab8d12d", func := "porpoise/porpoiselaw02.BitsTells", spec := "bitsTells", apart := false }
def BitsTellsSaid : Prop := bitsTellsRow.holds Try.pinned (OpenSpec.ofChange bitsTellsSpec)

/-- ITS FALSE NEIGHBOUR: 'it returns false'. Refute it at one input. -/
def bitsTellsWrong : ChangeSpec := { name := "bitsTells", fn := fun _ => fun
  | [d1, d2, d3] => { results := [.lit (.bool false)], args := [d1, d2, d3] }
  | _ => none }
def BitsTellsWrongFalsely : Prop := bitsTellsRow.holds Try.pinned (OpenSpec.ofChange bitsTellsWrong)

/-- 'porpoiselaw02.BitsLevels': WHATEVER THE INPUT: true; the input reads as it did. -/
def bitsLevelsSpec : ChangeSpec := { name := "bitsLevels", fn := fun _ => fun
  | [d1, d2] => { results := [.lit (.bool true)], args := [d1, d2] }
  | _ => none }
def bitsLevelsRow : OpenClaim := { program := "ytbhgkbljapfhcaa", sum := "a6ec452d61ae5004e1922dff8f94e235bbbe87997a7f6481a32943487ab8d12d", func := "porpoise/porpoiselaw02.BitsLevels", spec := "bitsLevels", apart := false }
def BitsLevelsSaid : Prop := bitsLevelsRow.holds Try.pinned (OpenSpec.ofChange bitsLevelsSpec)

/-- ITS FALSE NEIGHBOUR: 'it returns false'. Refute it at one input. -/
def bitsLevelsWrong : ChangeSpec := { name := "bitsLevels", fn := fun _ => fun
  | [d1, d2] => { results := [.lit (.bool false)], args := [d1, d2] }
  | _ => none }
def BitsLevelsWrongFalsely : Prop := bitsLevelsRow.holds Try.pinned (OpenSpec.ofChange bitsLevelsWrong)

/-- 'porpoiselaw02.BitsBlocks': WHATEVER THE INPUT: true; the input reads as it did. -/
def bitsBlocksSpec : ChangeSpec := { name := "bitsBlocks", fn := fun _ => fun
  | [d1, d2, d3] => { results := [.lit (.bool true)], args := [d1, d2, d3] }
  | _ => none }
def bitsBlocksRow : OpenClaim := { program := "ytbhgkbljapfhcaa", sum := "a6ec452d61ae5004e1922dff8f94e235bbbe87997a7f6481a32943487ab8d12d", func := "porpoise/porpoiselaw02.BitsBlocks", spec := "bitsBlocks", apart := false }
def BitsBlocksSaid : Prop := bitsBlocksRow.holds Try.pinned (OpenSpec.ofChange bitsBlocksSpec)

/-- ITS FALSE NEIGHBOUR: 'it returns false'. Refute it at one input. -/
def bitsBlocksWrong : ChangeSpec := { name := "bitsBlocks", fn := fun _ => fun
  | [d1, d2, d3] => { results := [.lit (.bool false)], args := [d1, d2, d3] }
  | _ => none }
def BitsBlocksWrongFalsely : Prop := bitsBlocksRow.holds Try.pinned (OpenSpec.ofChange bitsBlocksWrong)

/-- 'porpoiselaw02.BitsMore': WHATEVER THE INPUT: true; the input reads as it did. -/
def bitsMoreSpec : ChangeSpec := { name := "bitsMore", fn := fun _ => fun
  | [d1, d2] => { results := [.lit (.bool true)], args := [d1, d2] }
  | _ => none }
def bitsMoreRow : OpenClaim := { program := "ytbhgkbljapfhcaa", sum := "a6ec452d61ae5004e1922dff8f94e235bbbe87997a7f6481a32943487ab8d12d", func := "porpoise/porpoiselaw02.BitsMore", spec := "bitsMore", apart := false }
def BitsMoreSaid : Prop := bitsMoreRow.holds Try.pinned (OpenSpec.ofChange bitsMoreSpec)

/-- ITS FALSE NEIGHBOUR: 'it returns false'. Refute it at one input. -/
def bitsMoreWrong : ChangeSpec := { name := "bitsMore", fn := fun _ => fun
  | [d1, d2] => { results := [.lit (.bool false)], args := [d1, d2] }
  | _ => none }
def BitsMoreWrongFalsely : Prop := bitsMoreRow.holds Try.pinned (OpenSpec.ofChange bitsMoreWrong)

/-- 'porpoiselaw02.BitsBytes': WHATEVER THE INPUT: true; the input reads as it did. -/
def bitsBytesSpec : ChangeSpec := { name := "bitsBytes", fn := fun _ => fun
  | [d1, d2, d3] => { results := [.lit (.bool true)], args := [d1, d2, d3] }
  | _ => none }
def bitsBytesRow : OpenClaim := { program := "ytbhgkbljapfhcaa", sum := "a6ec452d61ae5004e1922dff8f94e235bbbe87997a7f6481a32943487ab8d12d", func := "porpoise/porpoiselaw02.BitsBytes", spec := "bitsBytes", apart := false }
def BitsBytesSaid : Prop := bitsBytesRow.holds Try.pinned (OpenSpec.ofChange bitsBytesSpec)

/-- ITS FALSE NEIGHBOUR: 'it returns false'. Refute it at one input. -/
def bitsBytesWrong : ChangeSpec := { name := "bitsBytes", fn := fun _ => fun
  | [d1, d2, d3] => { results := [.lit (.bool false)], args := [d1, d2, d3] }
  | _ => none }
def BitsBytesWrongFalsely : Prop := bitsBytesRow.holds Try.pinned (OpenSpec.ofChange bitsBytesWrong)

/-- 'porpoiselaw02.BitsBack': WHATEVER THE INPUT: true; the input reads as it did. -/
def bitsBackSpec : ChangeSpec := { name := "bitsBack", fn := fun _ => fun
  | [d1, d2] => { results := [.lit (.bool true)], args := [d1, d2] }
  | _ => none }
def bitsBackRow : OpenClaim := { program := "ytbhgkbljapfhcaa", sum := "a6ec452d61ae5004e1922dff8f94e235bbbe87997a7f6481a32943487ab8d12d", func := "porpoise/porpoiselaw02.BitsBack", spec := "bitsBack", apart := false }
def BitsBackSaid : Prop := bitsBackRow.holds Try.pinned (OpenSpec.ofChange bitsBackSpec)

/-- ITS FALSE NEIGHBOUR: 'it returns false'. Refute it at one input. -/
def bitsBackWrong : ChangeSpec := { name := "bitsBack", fn := fun _ => fun
  | [d1, d2] => { results := [.lit (.bool false)], args := [d1, d2] }
  | _ => none }
def BitsBackWrongFalsely : Prop := bitsBackRow.holds Try.pinned (OpenSpec.ofChange bitsBackWrong)

/- THE SECOND FORM. 'bulk': how many values and letters a reading holds, each counted each time it is reached (what is shared counts as often as it is met; a slice's spare places count too). A statement '..UptoSaid' is the law's where the arguments, and the package variables that the reading takes, are together of bulk at most 1048576: NARROWER than '..Said'. Prove '..Said' where nothing that the law and all that it calls make is longer than what came in: it says more and counts as full. Else prove '..UptoSaid'. A law counts once. -/
mutual
def uptoBulk {H : Type} : DataW H → Nat
  | .lit (.string bytes) => bytes.length + 1
  | .lit _ => 1
  | .nil => 1
  | .ptr d => uptoBulk d + 1
  | .slice elems spare => uptoBulkAll elems + uptoBulkAll spare + 1
  | .agg parts => uptoBulkAll parts + 1
  | .iface _ d => uptoBulk d + 1
  | .map entries => uptoBulkEntries entries + 1
  | .held _ => 1
def uptoBulkAll {H : Type} : List (DataW H) → Nat
  | [] => 0
  | d :: r => uptoBulk d + uptoBulkAll r
def uptoBulkEntries {H : Type} : List (Lit × DataW H) → Nat
  | [] => 0
  | x :: r => uptoBulkEntry x + uptoBulkEntries r
def uptoBulkEntry {H : Type} : Lit × DataW H → Nat
  | (.string bytes, d) => bytes.length + uptoBulk d + 1
  | (_, d) => uptoBulk d + 1
 end
def uptoSmall : (H : Type) → List (DataW H) → Bool := fun _ ds => decide (uptoBulkAll ds ≤ 1048576)
def OpenSpec.upto (s : _root_.Go.ChangeSpec) : _root_.Go.OpenSpec := { _root_.Go.OpenSpec.ofChange s with cond := some uptoSmall }

/-- 'porpoiselaw02.BitsTells', WHERE WHAT IT READS IS OF BULK AT MOST 1048576: true; the input reads as it did. -/
def bitsTellsUptoRow : OpenClaim := { program := "ytbhgkbljapfhcaa", sum := "a6ec452d61ae5004e1922dff8f94e235bbbe87997a7f6481a32943487ab8d12d", func := "porpoise/porpoiselaw02.BitsTells", spec := "bitsTells", apart := false, narrowed := true }
def BitsTellsUptoSaid : Prop := bitsTellsUptoRow.holds Try.pinned (OpenSpec.upto bitsTellsSpec)

/-- 'porpoiselaw02.BitsLevels', WHERE WHAT IT READS IS OF BULK AT MOST 1048576: true; the input reads as it did. -/
def bitsLevelsUptoRow : OpenClaim := { program := "ytbhgkbljapfhcaa", sum := "a6ec452d61ae5004e1922dff8f94e235bbbe87997a7f6481a32943487ab8d12d", func := "porpoise/porpoiselaw02.BitsLevels", spec := "bitsLevels", apart := false, narrowed := true }
def BitsLevelsUptoSaid : Prop := bitsLevelsUptoRow.holds Try.pinned (OpenSpec.upto bitsLevelsSpec)

/-- 'porpoiselaw02.BitsBlocks', WHERE WHAT IT READS IS OF BULK AT MOST 1048576: true; the input reads as it did. -/
def bitsBlocksUptoRow : OpenClaim := { program := "ytbhgkbljapfhcaa", sum := "a6ec452d61ae5004e1922dff8f94e235bbbe87997a7f6481a32943487ab8d12d", func := "porpoise/porpoiselaw02.BitsBlocks", spec := "bitsBlocks", apart := false, narrowed := true }
def BitsBlocksUptoSaid : Prop := bitsBlocksUptoRow.holds Try.pinned (OpenSpec.upto bitsBlocksSpec)

/-- 'porpoiselaw02.BitsMore', WHERE WHAT IT READS IS OF BULK AT MOST 1048576: true; the input reads as it did. -/
def bitsMoreUptoRow : OpenClaim := { program := "ytbhgkbljapfhcaa", sum := "a6ec452d61ae5004e1922dff8f94e235bbbe87997a7f6481a32943487ab8d12d", func := "porpoise/porpoiselaw02.BitsMore", spec := "bitsMore", apart := false, narrowed := true }
def BitsMoreUptoSaid : Prop := bitsMoreUptoRow.holds Try.pinned (OpenSpec.upto bitsMoreSpec)

/-- 'porpoiselaw02.BitsBytes', WHERE WHAT IT READS IS OF BULK AT MOST 1048576: true; the input reads as it did. -/
def bitsBytesUptoRow : OpenClaim := { program := "ytbhgkbljapfhcaa", sum := "a6ec452d61ae5004e1922dff8f94e235bbbe87997a7f6481a32943487ab8d12d", func := "porpoise/porpoiselaw02.BitsBytes", spec := "bitsBytes", apart := false, narrowed := true }
def BitsBytesUptoSaid : Prop := bitsBytesUptoRow.holds Try.pinned (OpenSpec.upto bitsBytesSpec)

/-- 'porpoiselaw02.BitsBack', WHERE WHAT IT READS IS OF BULK AT MOST 1048576: true; the input reads as it did. -/
def bitsBackUptoRow : OpenClaim := { program := "ytbhgkbljapfhcaa", sum := "a6ec452d61ae5004e1922dff8f94e235bbbe87997a7f6481a32943487ab8d12d", func := "porpoise/porpoiselaw02.BitsBack", spec := "bitsBack", apart := false, narrowed := true }
def BitsBackUptoSaid : Prop := bitsBackUptoRow.holds Try.pinned (OpenSpec.upto bitsBackSpec)

end Rows
end Go.Proofs.Ytbhgkbljapfhcaa
