/-
  No cell of these rows narrows 'for every input' (looked for: loops, veiled, ifaces, maps, wideKeys, modest, calm, conditions, laid).
  DERIVED. THE GIVEN ROWS OF THIS SEAT. 6 by the template 'for every input the law returns true; each argument reads behind the call as it read before'; 0 by the template 'total and deterministic' (their statements: YtdchaldcnnahmaaTotals.lean).
  GIVEN WITH THE SEED: the statements are not yours to turn. If you find one false, say at which input.
  Laid BY PROGRAM, IN A SANDBOX (cutbox-rows.mjs): the forced cells as the released guide's own fill.sh prints them over the translation f1ce009da38b78df… (all of the seat's roots in one cut). By AI agents, Wed Nov 11 2026. No macro, syntax, notation, axiom, sorry.
-/
import Derived.Test.YtdchaldcnnahmaaChecked
import GoSem.Claim
import GoSem.ClaimJoined
import GoSem.ClaimMapViews
import Derived.JoinedTies
import Derived.KernelRfl
namespace Go.Proofs.Ytdchaldcnnahmaa
/- THE CELL 'sum', in the pinned program and in every row, IS THE sha256 OF THE DUMP (.gsa) THAT YtdchaldcnnahmaaProg.lean LOADS. Nothing in Lean hashes anything: it is a label: what it is worth is what the hold of that sum in a sandbox is worth. -/
noncomputable def Try.pinned : Pinned := { name := "ytdchaldcnnahmaa", sum := "f1ce009da38b78df7022fd583230a14f3f28b2b75cb33e0eb5adda1308156f26", checked := Try.checked }
namespace Rows
def none {H : Type} : Left H := { results := [], args := [] }

/-- 'porpoiselaw01.SatTells': WHATEVER THE INPUT: true; the input reads as it did. -/
def satTellsSpec : ChangeSpec := { name := "satTells", fn := fun _ => fun
  | [d1, d2, d3] => { results := [.lit (.bool true)], args := [d1, d2, d3] }
  | _ => none }
def satTellsRow : OpenClaim := { program := "ytdchaldcnnahmaa", sum := "f1ce009da38b78df7022fd583230a14f3f28b2b75cb33e0eb5adda1308156f26", func := "porpoise/porpoiselaw01.SatTells", spec := "satTells", apart := false }
def SatTellsSaid : Prop := satTellsRow.holds Try.pinned (OpenSpec.ofChange satTellsSpec)

/-- ITS FALSE NEIGHBOUR: 'it returns false'. Refute it at one input. -/
def satTellsWrong : ChangeSpec := { name := "satTells", fn := fun _ => fun
  | [d1, d2, d3] => { results := [.lit (.bool false)], args := [d1, d2, d3] }
  | _ => none }
def SatTellsWrongFalsely : Prop := satTellsRow.holds Try.pinned (OpenSpec.ofChange satTellsWrong)

/-- 'porpoiselaw01.SatParts': WHATEVER THE INPUT: true; the input reads as it did. -/
def satPartsSpec : ChangeSpec := { name := "satParts", fn := fun _ => fun
  | [d1, d2, d3] => { results := [.lit (.bool true)], args := [d1, d2, d3] }
  | _ => none }
def satPartsRow : OpenClaim := { program := "ytdchaldcnnahmaa", sum := "f1ce009da38b78df7022fd583230a14f3f28b2b75cb33e0eb5adda1308156f26", func := "porpoise/porpoiselaw01.SatParts", spec := "satParts", apart := false }
def SatPartsSaid : Prop := satPartsRow.holds Try.pinned (OpenSpec.ofChange satPartsSpec)

/-- ITS FALSE NEIGHBOUR: 'it returns false'. Refute it at one input. -/
def satPartsWrong : ChangeSpec := { name := "satParts", fn := fun _ => fun
  | [d1, d2, d3] => { results := [.lit (.bool false)], args := [d1, d2, d3] }
  | _ => none }
def SatPartsWrongFalsely : Prop := satPartsRow.holds Try.pinned (OpenSpec.ofChange satPartsWrong)

/-- 'porpoiselaw01.SatOrder': WHATEVER THE INPUT: true; the input reads as it did. -/
def satOrderSpec : ChangeSpec := { name := "satOrder", fn := fun _ => fun
  | [d1, d2, d3] => { results := [.lit (.bool true)], args := [d1, d2, d3] }
  | _ => none }
def satOrderRow : OpenClaim := { program := "ytdchaldcnnahmaa", sum := "f1ce009da38b78df7022fd583230a14f3f28b2b75cb33e0eb5adda1308156f26", func := "porpoise/porpoiselaw01.SatOrder", spec := "satOrder", apart := false }
def SatOrderSaid : Prop := satOrderRow.holds Try.pinned (OpenSpec.ofChange satOrderSpec)

/-- ITS FALSE NEIGHBOUR: 'it returns false'. Refute it at one input. -/
def satOrderWrong : ChangeSpec := { name := "satOrder", fn := fun _ => fun
  | [d1, d2, d3] => { results := [.lit (.bool false)], args := [d1, d2, d3] }
  | _ => none }
def SatOrderWrongFalsely : Prop := satOrderRow.holds Try.pinned (OpenSpec.ofChange satOrderWrong)

/-- 'porpoiselaw01.SatBack': WHATEVER THE INPUT: true; the input reads as it did. -/
def satBackSpec : ChangeSpec := { name := "satBack", fn := fun _ => fun
  | [d1, d2] => { results := [.lit (.bool true)], args := [d1, d2] }
  | _ => none }
def satBackRow : OpenClaim := { program := "ytdchaldcnnahmaa", sum := "f1ce009da38b78df7022fd583230a14f3f28b2b75cb33e0eb5adda1308156f26", func := "porpoise/porpoiselaw01.SatBack", spec := "satBack", apart := false }
def SatBackSaid : Prop := satBackRow.holds Try.pinned (OpenSpec.ofChange satBackSpec)

/-- ITS FALSE NEIGHBOUR: 'it returns false'. Refute it at one input. -/
def satBackWrong : ChangeSpec := { name := "satBack", fn := fun _ => fun
  | [d1, d2] => { results := [.lit (.bool false)], args := [d1, d2] }
  | _ => none }
def SatBackWrongFalsely : Prop := satBackRow.holds Try.pinned (OpenSpec.ofChange satBackWrong)

/-- 'porpoiselaw01.SatLess': WHATEVER THE INPUT: true; the input reads as it did. -/
def satLessSpec : ChangeSpec := { name := "satLess", fn := fun _ => fun
  | [d1, d2, d3] => { results := [.lit (.bool true)], args := [d1, d2, d3] }
  | _ => none }
def satLessRow : OpenClaim := { program := "ytdchaldcnnahmaa", sum := "f1ce009da38b78df7022fd583230a14f3f28b2b75cb33e0eb5adda1308156f26", func := "porpoise/porpoiselaw01.SatLess", spec := "satLess", apart := false }
def SatLessSaid : Prop := satLessRow.holds Try.pinned (OpenSpec.ofChange satLessSpec)

/-- ITS FALSE NEIGHBOUR: 'it returns false'. Refute it at one input. -/
def satLessWrong : ChangeSpec := { name := "satLess", fn := fun _ => fun
  | [d1, d2, d3] => { results := [.lit (.bool false)], args := [d1, d2, d3] }
  | _ => none }
def SatLessWrongFalsely : Prop := satLessRow.holds Try.pinned (OpenSpec.ofChange satLessWrong)

/-- 'porpoiselaw01.SatTimes': WHATEVER THE INPUT: true; the input reads as it did. -/
def satTimesSpec : ChangeSpec := { name := "satTimes", fn := fun _ => fun
  | [d1, d2] => { results := [.lit (.bool true)], args := [d1, d2] }
  | _ => none }
def satTimesRow : OpenClaim := { program := "ytdchaldcnnahmaa", sum := "f1ce009da38b78df7022fd583230a14f3f28b2b75cb33e0eb5adda1308156f26", func := "porpoise/porpoiselaw01.SatTimes", spec := "satTimes", apart := false }
def SatTimesSaid : Prop := satTimesRow.holds Try.pinned (OpenSpec.ofChange satTimesSpec)

/-- ITS FALSE NEIGHBOUR: 'it returns false'. Refute it at one input. -/
def satTimesWrong : ChangeSpec := { name := "satTimes", fn := fun _ => fun
  | [d1, d2] => { results := [.lit (.bool false)], args := [d1, d2] }
  | _ => none }
def SatTimesWrongFalsely : Prop := satTimesRow.holds Try.pinned (OpenSpec.ofChange satTimesWrong)

/- THE SECOND FORM. 'bulk': how many values and letters a reading holds, each counted each time it is reached (what is shared counts as often as it is met; a slice's spare places count too). A statement '..UptoSaid' is the law's where the arguments, and the package variables that the reading takes, are together of bulk at most 1048576: NARROWER than '..Said'. Prove '..Said' where nothing that the law and all that it calls make is longer than what came in: it says more and counts as full. Else prove '..UptoSaid'. A law counts once. -/
mutual
def uptoBulk {H : Type} : DataW H → Nat
  | .lit (.string bytes) => bytes.length + 1
  | .lit _ => 1
  | .nil => 1
  | .ptr d => uptoBulk d + 1
  | .slice elems spare => uptoBulkAll elems + uptoBulkAll spare + 1
  | .agg parts => uptoBulkAll parts + 1
  | .iface _ d => uptoBulk d + 1
  | .map entries => uptoBulkEntries entries + 1
  | .held _ => 1
def uptoBulkAll {H : Type} : List (DataW H) → Nat
  | [] => 0
  | d :: r => uptoBulk d + uptoBulkAll r
def uptoBulkEntries {H : Type} : List (Lit × DataW H) → Nat
  | [] => 0
  | x :: r => uptoBulkEntry x + uptoBulkEntries r
def uptoBulkEntry {H : Type} : Lit × DataW H → Nat
  | (.string bytes, d) => bytes.length + uptoBulk d + 1
  | (_, d) => uptoBulk d + 1
 end
def uptoSmall : (H : Type) → List (DataW H) → Bool := fun _ ds => decide (uptoBulkAll ds ≤ 1048576)
def OpenSpec.upto (s : _root_.Go.ChangeSpec) : _root_.Go.OpenSpec := { _root_.Go.OpenSpec.ofChange s with cond := some uptoSmall }

/-- 'porpoiselaw01.SatTells', WHERE WHAT IT READS IS OF BULK AT MOST 1048576: true; the input reads as it did. -/
def satTellsUptoRow : OpenClaim := { program := "ytdchaldcnnahmaa", sum := "f1ce009da38b78df7022fd583230a14f3f28b2b75cb33e0eb5adda1308156f26", func := "porpoise/porpoiselaw01.SatTells", spec := "satTells", apart := false, narrowed := true }
def SatTellsUptoSaid : Prop := satTellsUptoRow.holds Try.pinned (OpenSpec.upto satTellsSpec)

/-- 'porpoiselaw01.SatParts', WHERE WHAT IT READS IS OF BULK AT MOST 1048576: true; the input reads as it did. -/
def satPartsUptoRow : OpenClaim := { program := "ytdchaldcnnahmaa", sum := "f1ce009da38b78df7022fd583230a14f3f28b2b75cb33e0eb5adda1308156f26", func := "porpoise/porpoiselaw01.SatParts", spec := "satParts", apart := false, narrowed := true }
def SatPartsUptoSaid : Prop := satPartsUptoRow.holds Try.pinned (OpenSpec.upto satPartsSpec)

/-- 'porpoiselaw01.SatOrder', WHERE WHAT IT READS IS OF BULK AT MOST 1048576: true; the input reads as it did. -/
def satOrderUptoRow : OpenClaim := { program := "ytdchaldcnnahmaa", sum := "f1ce009da38b78df7022fd583230a14f3f28b2b75cb33e0eb5adda1308156f26", func := "porpoise/porpoiselaw01.SatOrder", spec := "satOrder", apart := false, narrowed := true }
def SatOrderUptoSaid : Prop := satOrderUptoRow.holds Try.pinned (OpenSpec.upto satOrderSpec)

/-- 'porpoiselaw01.SatBack', WHERE WHAT IT READS IS OF BULK AT MOST 1048576: true; the input reads as it did. -/
def satBackUptoRow : OpenClaim := { program := "ytdchaldcnnahmaa", sum := "f1ce009da38b78df7022fd583230a14f3f28b2b75cb33e0eb5adda1308156f26", func := "porpoise/porpoiselaw01.SatBack", spec := "satBack", apart := false, narrowed := true }
def SatBackUptoSaid : Prop := satBackUptoRow.holds Try.pinned (OpenSpec.upto satBackSpec)

/-- 'porpoiselaw01.SatLess', WHERE WHAT IT READS IS OF BULK AT MOST 1048576: true; the input reads as it did. -/
def satLessUptoRow : OpenClaim := { program := "ytdchaldcnnahmaa", sum := "f1ce009da38b78df7022fd583230a14f3f28b2b75cb33e0eb5adda1308156f26", func := "porpoise/porpoiselaw01.SatLess", spec := "satLess", apart := false, narrowed := true }
def SatLessUptoSaid : Prop := satLessUptoRow.holds Try.pinned (OpenSpec.upto satLessSpec)

/-- 'porpoiselaw01.SatTimes', WHERE WHAT IT READS IS OF BULK AT MOST 1048576: true; the input reads as it did. -/
def satTimesUptoRow : OpenClaim := { program := "ytdchaldcnnahmaa", sum := "f1ce009da38b78df7022fd583230a14f3f28b2b75cb33e0eb5adda1308156f26", func := "porpoise/porpoiselaw01.SatTimes", spec := "satTimes", apart := false, narrowed := true }
def SatTimesUptoSaid : Prop := satTimesUptoRow.holds Try.pinned (OpenSpec.upto satTimesSpec)

end Rows
end Go.Proofs.Ytdchaldcnnahmaa
