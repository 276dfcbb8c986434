/-
  No cell of these rows narrows 'for every input' (looked for: loops, veiled, ifaces, maps, wideKeys, modest, calm, conditions, laid).
  DERIVED. THE GIVEN ROWS OF THIS SEAT. 6 by the template 'for every input the law returns true; each argument reads behind the call as it read before'; 0 by the template 'total and deterministic' (their statements: YtmemafhdondfhaaTotals.lean).
  GIVEN WITH THE SEED: the statements are not yours to turn. If you find one false, say at which input.
  Laid BY PROGRAM, IN A SANDBOX (cutbox-rows.mjs): the forced cells as the released guide's own fill.sh prints them over the translation fde48df675351b03… (all of the seat's roots in one cut). By AI agents, Wed Nov 11 2026. No macro, syntax, notation, axiom, sorry.
-/
import Derived.Test.YtmemafhdondfhaaChecked
import GoSem.Claim
import GoSem.ClaimJoined
import GoSem.ClaimMapViews
import Derived.JoinedTies
import Derived.KernelRfl
namespace Go.Proofs.Ytmemafhdondfhaa
/- THE CELL 'sum', in the pinned program and in every row, IS THE sha256 OF THE DUMP (.gsa) THAT YtmemafhdondfhaaProg.lean LOADS. Nothing in Lean hashes anything: it is a label: what it is worth is what the hold of that sum in a sandbox is worth. -/
noncomputable def Try.pinned : Pinned := { name := "ytmemafhdondfhaa", sum := "fde48df675351b03b63448f6e702d0225ea6b358db181e25009afc1a7c5b5af7", checked := Try.checked }
namespace Rows
def none {H : Type} : Left H := { results := [], args := [] }

/-- 'porpoiselaw07.HistTells': WHATEVER THE INPUT: true; the input reads as it did. -/
def histTellsSpec : ChangeSpec := { name := "histTells", fn := fun _ => fun
  | [d1, d2, d3] => { results := [.lit (.bool true)], args := [d1, d2, d3] }
  | _ => none }
def histTellsRow : OpenClaim := { program := "ytmemafhdondfhaa", sum := "fde48df675351b03b63448f6e702d0225ea6b358db181e25009afc1a7c5b5af7", func := "porpoise/porpoiselaw07.HistTells", spec := "histTells", apart := false }
def HistTellsSaid : Prop := histTellsRow.holds Try.pinned (OpenSpec.ofChange histTellsSpec)

/-- ITS FALSE NEIGHBOUR: 'it returns false'. Refute it at one input. -/
def histTellsWrong : ChangeSpec := { name := "histTells", fn := fun _ => fun
  | [d1, d2, d3] => { results := [.lit (.bool false)], args := [d1, d2, d3] }
  | _ => none }
def HistTellsWrongFalsely : Prop := histTellsRow.holds Try.pinned (OpenSpec.ofChange histTellsWrong)

/-- 'porpoiselaw07.HistBins': WHATEVER THE INPUT: true; the input reads as it did. -/
def histBinsSpec : ChangeSpec := { name := "histBins", fn := fun _ => fun
  | [d1, d2] => { results := [.lit (.bool true)], args := [d1, d2] }
  | _ => none }
def histBinsRow : OpenClaim := { program := "ytmemafhdondfhaa", sum := "fde48df675351b03b63448f6e702d0225ea6b358db181e25009afc1a7c5b5af7", func := "porpoise/porpoiselaw07.HistBins", spec := "histBins", apart := false }
def HistBinsSaid : Prop := histBinsRow.holds Try.pinned (OpenSpec.ofChange histBinsSpec)

/-- ITS FALSE NEIGHBOUR: 'it returns false'. Refute it at one input. -/
def histBinsWrong : ChangeSpec := { name := "histBins", fn := fun _ => fun
  | [d1, d2] => { results := [.lit (.bool false)], args := [d1, d2] }
  | _ => none }
def HistBinsWrongFalsely : Prop := histBinsRow.holds Try.pinned (OpenSpec.ofChange histBinsWrong)

/-- 'porpoiselaw07.HistRises': WHATEVER THE INPUT: true; the input reads as it did. -/
def histRisesSpec : ChangeSpec := { name := "histRises", fn := fun _ => fun
  | [d1, d2, d3] => { results := [.lit (.bool true)], args := [d1, d2, d3] }
  | _ => none }
def histRisesRow : OpenClaim := { program := "ytmemafhdondfhaa", sum := "fde48df675351b03b63448f6e702d0225ea6b358db181e25009afc1a7c5b5af7", func := "porpoise/porpoiselaw07.HistRises", spec := "histRises", apart := false }
def HistRisesSaid : Prop := histRisesRow.holds Try.pinned (OpenSpec.ofChange histRisesSpec)

/-- ITS FALSE NEIGHBOUR: 'it returns false'. Refute it at one input. -/
def histRisesWrong : ChangeSpec := { name := "histRises", fn := fun _ => fun
  | [d1, d2, d3] => { results := [.lit (.bool false)], args := [d1, d2, d3] }
  | _ => none }
def HistRisesWrongFalsely : Prop := histRisesRow.holds Try.pinned (OpenSpec.ofChange histRisesWrong)

/-- 'porpoiselaw07.HistAll': WHATEVER THE INPUT: true; the input reads as it did. -/
def histAllSpec : ChangeSpec := { name := "histAll", fn := fun _ => fun
  | [d1, d2] => { results := [.lit (.bool true)], args := [d1, d2] }
  | _ => none }
def histAllRow : OpenClaim := { program := "ytmemafhdondfhaa", sum := "fde48df675351b03b63448f6e702d0225ea6b358db181e25009afc1a7c5b5af7", func := "porpoise/porpoiselaw07.HistAll", spec := "histAll", apart := false }
def HistAllSaid : Prop := histAllRow.holds Try.pinned (OpenSpec.ofChange histAllSpec)

/-- ITS FALSE NEIGHBOUR: 'it returns false'. Refute it at one input. -/
def histAllWrong : ChangeSpec := { name := "histAll", fn := fun _ => fun
  | [d1, d2] => { results := [.lit (.bool false)], args := [d1, d2] }
  | _ => none }
def HistAllWrongFalsely : Prop := histAllRow.holds Try.pinned (OpenSpec.ofChange histAllWrong)

/-- 'porpoiselaw07.HistLasts': WHATEVER THE INPUT: true; the input reads as it did. -/
def histLastsSpec : ChangeSpec := { name := "histLasts", fn := fun _ => fun
  | [d1, d2] => { results := [.lit (.bool true)], args := [d1, d2] }
  | _ => none }
def histLastsRow : OpenClaim := { program := "ytmemafhdondfhaa", sum := "fde48df675351b03b63448f6e702d0225ea6b358db181e25009afc1a7c5b5af7", func := "porpoise/porpoiselaw07.HistLasts", spec := "histLasts", apart := false }
def HistLastsSaid : Prop := histLastsRow.holds Try.pinned (OpenSpec.ofChange histLastsSpec)

/-- ITS FALSE NEIGHBOUR: 'it returns false'. Refute it at one input. -/
def histLastsWrong : ChangeSpec := { name := "histLasts", fn := fun _ => fun
  | [d1, d2] => { results := [.lit (.bool false)], args := [d1, d2] }
  | _ => none }
def HistLastsWrongFalsely : Prop := histLastsRow.holds Try.pinned (OpenSpec.ofChange histLastsWrong)

/-- 'porpoiselaw07.HistNobody': WHATEVER THE INPUT: true; the input reads as it did. -/
def histNobodySpec : ChangeSpec := { name := "histNobody", fn := fun _ => fun
  | [d1, d2, d3] => { results := [.lit (.bool true)], args := [d1, d2, d3] }
  | _ => none }
def histNobodyRow : OpenClaim := { program := "ytmemafhdondfhaa", sum := "fde48df675351b03b63448f6e702d0225ea6b358db181e25009afc1a7c5b5af7", func := "porpoise/porpoiselaw07.HistNobody", spec := "histNobody", apart := false }
def HistNobodySaid : Prop := histNobodyRow.holds Try.pinned (OpenSpec.ofChange histNobodySpec)

/-- ITS FALSE NEIGHBOUR: 'it returns false'. Refute it at one input. -/
def histNobodyWrong : ChangeSpec := { name := "histNobody", fn := fun _ => fun
  | [d1, d2, d3] => { results := [.lit (.bool false)], args := [d1, d2, d3] }
  | _ => none }
def HistNobodyWrongFalsely : Prop := histNobodyRow.holds Try.pinned (OpenSpec.ofChange histNobodyWrong)

/- THE SECOND FORM. 'bulk': how many values and letters a reading holds, each counted each time it is reached (what is shared counts as often as it is met; a slice's spare places count too). A statement '..UptoSaid' is the law's where the arguments, and the package variables that the reading takes, are together of bulk at most 1048576: NARROWER than '..Said'. Prove '..Said' where nothing that the law and all that it calls make is longer than what came in: it says more and counts as full. Else prove '..UptoSaid'. A law counts once. -/
mutual
def uptoBulk {H : Type} : DataW H → Nat
  | .lit (.string bytes) => bytes.length + 1
  | .lit _ => 1
  | .nil => 1
  | .ptr d => uptoBulk d + 1
  | .slice elems spare => uptoBulkAll elems + uptoBulkAll spare + 1
  | .agg parts => uptoBulkAll parts + 1
  | .iface _ d => uptoBulk d + 1
  | .map entries => uptoBulkEntries entries + 1
  | .held _ => 1
def uptoBulkAll {H : Type} : List (DataW H) → Nat
  | [] => 0
  | d :: r => uptoBulk d + uptoBulkAll r
def uptoBulkEntries {H : Type} : List (Lit × DataW H) → Nat
  | [] => 0
  | x :: r => uptoBulkEntry x + uptoBulkEntries r
def uptoBulkEntry {H : Type} : Lit × DataW H → Nat
  | (.string bytes, d) => bytes.length + uptoBulk d + 1
  | (_, d) => uptoBulk d + 1
 end
def uptoSmall : (H : Type) → List (DataW H) → Bool := fun _ ds => decide (uptoBulkAll ds ≤ 1048576)
def OpenSpec.upto (s : _root_.Go.ChangeSpec) : _root_.Go.OpenSpec := { _root_.Go.OpenSpec.ofChange s with cond := some uptoSmall }

/-- 'porpoiselaw07.HistTells', WHERE WHAT IT READS IS OF BULK AT MOST 1048576: true; the input reads as it did. -/
def histTellsUptoRow : OpenClaim := { program := "ytmemafhdondfhaa", sum := "fde48df675351b03b63448f6e702d0225ea6b358db181e25009afc1a7c5b5af7", func := "porpoise/porpoiselaw07.HistTells", spec := "histTells", apart := false, narrowed := true }
def HistTellsUptoSaid : Prop := histTellsUptoRow.holds Try.pinned (OpenSpec.upto histTellsSpec)

/-- 'porpoiselaw07.HistBins', WHERE WHAT IT READS IS OF BULK AT MOST 1048576: true; the input reads as it did. -/
def histBinsUptoRow : OpenClaim := { program := "ytmemafhdondfhaa", sum := "fde48df675351b03b63448f6e702d0225ea6b358db181e25009afc1a7c5b5af7", func := "porpoise/porpoiselaw07.HistBins", spec := "histBins", apart := false, narrowed := true }
def HistBinsUptoSaid : Prop := histBinsUptoRow.holds Try.pinned (OpenSpec.upto histBinsSpec)

/-- 'porpoiselaw07.HistRises', WHERE WHAT IT READS IS OF BULK AT MOST 1048576: true; the input reads as it did. -/
def histRisesUptoRow : OpenClaim := { program := "ytmemafhdondfhaa", sum := "fde48df675351b03b63448f6e702d0225ea6b358db181e25009afc1a7c5b5af7", func := "porpoise/porpoiselaw07.HistRises", spec := "histRises", apart := false, narrowed := true }
def HistRisesUptoSaid : Prop := histRisesUptoRow.holds Try.pinned (OpenSpec.upto histRisesSpec)

/-- 'porpoiselaw07.HistAll', WHERE WHAT IT READS IS OF BULK AT MOST 1048576: true; the input reads as it did. -/
def histAllUptoRow : OpenClaim := { program := "ytmemafhdondfhaa", sum := "fde48df675351b03b63448f6e702d0225ea6b358db181e25009afc1a7c5b5af7", func := "porpoise/porpoiselaw07.HistAll", spec := "histAll", apart := false, narrowed := true }
def HistAllUptoSaid : Prop := histAllUptoRow.holds Try.pinned (OpenSpec.upto histAllSpec)

/-- 'porpoiselaw07.HistLasts', WHERE WHAT IT READS IS OF BULK AT MOST 1048576: true; the input reads as it did. -/
def histLastsUptoRow : OpenClaim := { program := "ytmemafhdondfhaa", sum := "fde48df675351b03b63448f6e702d0225ea6b358db181e25009afc1a7c5b5af7", func := "porpoise/porpoiselaw07.HistLasts", spec := "histLasts", apart := false, narrowed := true }
def HistLastsUptoSaid : Prop := histLastsUptoRow.holds Try.pinned (OpenSpec.upto histLastsSpec)

/-- 'porpoiselaw07.HistNobody', WHERE WHAT IT READS IS OF BULK AT MOST 1048576: true; the input reads as it did. -/
def histNobodyUptoRow : OpenClaim := { program := "ytmemafhdondfhaa", sum := "fde48df675351b03b63448f6e702d0225ea6b358db181e25009afc1a7c5b5af7", func := "porpoise/porpoiselaw07.HistNobody", spec := "histNobody", apart := false, narrowed := true }
def HistNobodyUptoSaid : Prop := histNobodyUptoRow.holds Try.pinned (OpenSpec.upto histNobodySpec)

end Rows
end Go.Proofs.Ytmemafhdondfhaa
