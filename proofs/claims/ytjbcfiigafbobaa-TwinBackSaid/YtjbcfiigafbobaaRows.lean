/-
  No cell of these rows narrows 'for every input' (looked for: loops, veiled, ifaces, maps, wideKeys, modest, calm, conditions, laid).
  DERIVED. THE GIVEN ROWS OF THIS SEAT. 19 by the template 'for every input the law returns true; each argument reads behind the call as it read before'; 0 by the template 'total and deterministic' (their statements: YtjbcfiigafbobaaTotals.lean).
  GIVEN WITH THE SEED: the statements are not yours to turn. If you find one false, say at which input.
  Laid BY PROGRAM, IN A SANDBOX (cutbox-rows.mjs): the forced cells as the released guide's own fill.sh prints them over the translation 438ec92d3ee6ea98… (all of the seat's roots in one cut). By AI agents, Wed Nov 11 2026. No macro, syntax, notation, axiom, sorry.
-/
import Derived.Test.YtjbcfiigafbobaaChecked
import GoSem.Claim
import GoSem.ClaimJoined
import GoSem.ClaimMapViews
import Derived.JoinedTies
import Derived.KernelRfl
namespace Go.Proofs.Ytjbcfiigafbobaa
/- THE CELL 'sum', in the pinned program and in every row, IS THE sha256 OF THE DUMP (.gsa) THAT YtjbcfiigafbobaaProg.lean LOADS. Nothing in Lean hashes anything: it is a label: what it is worth is what the hold of that sum in a sandbox is worth. -/
noncomputable def Try.pinned : Pinned := { name := "ytjbcfiigafbobaa", sum := "438ec92d3ee6ea989cd0473c00e97de308cca04b931ecfc45ad573211416a46f", checked := Try.checked }
namespace Rows
def none {H : Type} : Left H := { results := [], args := [] }

/-- 'vernierlaw02.TwinMuls': WHATEVER THE INPUT: true; the input reads as it did. -/
def twinMulsSpec : ChangeSpec := { name := "twinMuls", fn := fun _ => fun
  | [d1, d2] => { results := [.lit (.bool true)], args := [d1, d2] }
  | _ => none }
def twinMulsRow : OpenClaim := { program := "ytjbcfiigafbobaa", sum := "438ec92d3ee6ea989cd0473c00e97de308cca04b931ecfc45ad573211416a46f", func := "vernier/vernierlaw02.TwinMuls", spec := "twinMuls", inPlace := ["math/bits.Add64"], apart := false }
def TwinMulsSaid : Prop := twinMulsRow.holds Try.pinned (OpenSpec.ofChange twinMulsSpec)

/-- ITS FALSE NEIGHBOUR: 'it returns false'. Refute it at one input. -/
def twinMulsWrong : ChangeSpec := { name := "twinMuls", fn := fun _ => fun
  | [d1, d2] => { results := [.lit (.bool false)], args := [d1, d2] }
  | _ => none }
def TwinMulsWrongFalsely : Prop := twinMulsRow.holds Try.pinned (OpenSpec.ofChange twinMulsWrong)

/-- 'vernierlaw01.LeadRuns': WHATEVER THE INPUT: true; the input reads as it did. -/
def leadRunsSpec : ChangeSpec := { name := "leadRuns", fn := fun _ => fun
  | [d1, d2] => { results := [.lit (.bool true)], args := [d1, d2] }
  | _ => none }
def leadRunsRow : OpenClaim := { program := "ytjbcfiigafbobaa", sum := "438ec92d3ee6ea989cd0473c00e97de308cca04b931ecfc45ad573211416a46f", func := "vernier/vernierlaw01.LeadRuns", spec := "leadRuns", apart := false }
def LeadRunsSaid : Prop := leadRunsRow.holds Try.pinned (OpenSpec.ofChange leadRunsSpec)

/-- ITS FALSE NEIGHBOUR: 'it returns false'. Refute it at one input. -/
def leadRunsWrong : ChangeSpec := { name := "leadRuns", fn := fun _ => fun
  | [d1, d2] => { results := [.lit (.bool false)], args := [d1, d2] }
  | _ => none }
def LeadRunsWrongFalsely : Prop := leadRunsRow.holds Try.pinned (OpenSpec.ofChange leadRunsWrong)

/-- 'vernierlaw01.LeadShows': WHATEVER THE INPUT: true; the input reads as it did. -/
def leadShowsSpec : ChangeSpec := { name := "leadShows", fn := fun _ => fun
  | [d1, d2] => { results := [.lit (.bool true)], args := [d1, d2] }
  | _ => none }
def leadShowsRow : OpenClaim := { program := "ytjbcfiigafbobaa", sum := "438ec92d3ee6ea989cd0473c00e97de308cca04b931ecfc45ad573211416a46f", func := "vernier/vernierlaw01.LeadShows", spec := "leadShows", apart := false }
def LeadShowsSaid : Prop := leadShowsRow.holds Try.pinned (OpenSpec.ofChange leadShowsSpec)

/-- ITS FALSE NEIGHBOUR: 'it returns false'. Refute it at one input. -/
def leadShowsWrong : ChangeSpec := { name := "leadShows", fn := fun _ => fun
  | [d1, d2] => { results := [.lit (.bool false)], args := [d1, d2] }
  | _ => none }
def LeadShowsWrongFalsely : Prop := leadShowsRow.holds Try.pinned (OpenSpec.ofChange leadShowsWrong)

/-- 'vernierlaw02.TwinCmps': WHATEVER THE INPUT: true; the input reads as it did. -/
def twinCmpsSpec : ChangeSpec := { name := "twinCmps", fn := fun _ => fun
  | [d1, d2] => { results := [.lit (.bool true)], args := [d1, d2] }
  | _ => none }
def twinCmpsRow : OpenClaim := { program := "ytjbcfiigafbobaa", sum := "438ec92d3ee6ea989cd0473c00e97de308cca04b931ecfc45ad573211416a46f", func := "vernier/vernierlaw02.TwinCmps", spec := "twinCmps", inPlace := ["math/bits.Add64"], apart := false }
def TwinCmpsSaid : Prop := twinCmpsRow.holds Try.pinned (OpenSpec.ofChange twinCmpsSpec)

/-- ITS FALSE NEIGHBOUR: 'it returns false'. Refute it at one input. -/
def twinCmpsWrong : ChangeSpec := { name := "twinCmps", fn := fun _ => fun
  | [d1, d2] => { results := [.lit (.bool false)], args := [d1, d2] }
  | _ => none }
def TwinCmpsWrongFalsely : Prop := twinCmpsRow.holds Try.pinned (OpenSpec.ofChange twinCmpsWrong)

/-- 'vernierlaw01.LeadSigns': WHATEVER THE INPUT: true; the input reads as it did. -/
def leadSignsSpec : ChangeSpec := { name := "leadSigns", fn := fun _ => fun
  | [d1, d2] => { results := [.lit (.bool true)], args := [d1, d2] }
  | _ => none }
def leadSignsRow : OpenClaim := { program := "ytjbcfiigafbobaa", sum := "438ec92d3ee6ea989cd0473c00e97de308cca04b931ecfc45ad573211416a46f", func := "vernier/vernierlaw01.LeadSigns", spec := "leadSigns", apart := false }
def LeadSignsSaid : Prop := leadSignsRow.holds Try.pinned (OpenSpec.ofChange leadSignsSpec)

/-- ITS FALSE NEIGHBOUR: 'it returns false'. Refute it at one input. -/
def leadSignsWrong : ChangeSpec := { name := "leadSigns", fn := fun _ => fun
  | [d1, d2] => { results := [.lit (.bool false)], args := [d1, d2] }
  | _ => none }
def LeadSignsWrongFalsely : Prop := leadSignsRow.holds Try.pinned (OpenSpec.ofChange leadSignsWrong)

/-- 'vernierlaw02.TwinAdds': WHATEVER THE INPUT: true; the input reads as it did. -/
def twinAddsSpec : ChangeSpec := { name := "twinAdds", fn := fun _ => fun
  | [d1, d2] => { results := [.lit (.bool true)], args := [d1, d2] }
  | _ => none }
def twinAddsRow : OpenClaim := { program := "ytjbcfiigafbobaa", sum := "438ec92d3ee6ea989cd0473c00e97de308cca04b931ecfc45ad573211416a46f", func := "vernier/vernierlaw02.TwinAdds", spec := "twinAdds", inPlace := ["math/bits.Add64", "math/bits.Sub64"], apart := false }
def TwinAddsSaid : Prop := twinAddsRow.holds Try.pinned (OpenSpec.ofChange twinAddsSpec)

/-- ITS FALSE NEIGHBOUR: 'it returns false'. Refute it at one input. -/
def twinAddsWrong : ChangeSpec := { name := "twinAdds", fn := fun _ => fun
  | [d1, d2] => { results := [.lit (.bool false)], args := [d1, d2] }
  | _ => none }
def TwinAddsWrongFalsely : Prop := twinAddsRow.holds Try.pinned (OpenSpec.ofChange twinAddsWrong)

/-- 'vernierlaw02.TwinRing': WHATEVER THE INPUT: true; the input reads as it did. -/
def twinRingSpec : ChangeSpec := { name := "twinRing", fn := fun _ => fun
  | [d1, d2, d3, d4, d5] => { results := [.lit (.bool true)], args := [d1, d2, d3, d4, d5] }
  | _ => none }
def twinRingRow : OpenClaim := { program := "ytjbcfiigafbobaa", sum := "438ec92d3ee6ea989cd0473c00e97de308cca04b931ecfc45ad573211416a46f", func := "vernier/vernierlaw02.TwinRing", spec := "twinRing", inPlace := ["math/bits.Add64", "math/bits.Sub64"], apart := false }
def TwinRingSaid : Prop := twinRingRow.holds Try.pinned (OpenSpec.ofChange twinRingSpec)

/-- ITS FALSE NEIGHBOUR: 'it returns false'. Refute it at one input. -/
def twinRingWrong : ChangeSpec := { name := "twinRing", fn := fun _ => fun
  | [d1, d2, d3, d4, d5] => { results := [.lit (.bool false)], args := [d1, d2, d3, d4, d5] }
  | _ => none }
def TwinRingWrongFalsely : Prop := twinRingRow.holds Try.pinned (OpenSpec.ofChange twinRingWrong)

/-- 'vernierlaw05.ShapePatterns': WHATEVER THE INPUT: true; the input reads as it did. -/
def shapePatternsSpec : ChangeSpec := { name := "shapePatterns", fn := fun _ => fun
  | [d1, d2] => { results := [.lit (.bool true)], args := [d1, d2] }
  | _ => none }
def shapePatternsRow : OpenClaim := { program := "ytjbcfiigafbobaa", sum := "438ec92d3ee6ea989cd0473c00e97de308cca04b931ecfc45ad573211416a46f", func := "vernier/vernierlaw05.ShapePatterns", spec := "shapePatterns", apart := false }
def ShapePatternsSaid : Prop := shapePatternsRow.holds Try.pinned (OpenSpec.ofChange shapePatternsSpec)

/-- ITS FALSE NEIGHBOUR: 'it returns false'. Refute it at one input. -/
def shapePatternsWrong : ChangeSpec := { name := "shapePatterns", fn := fun _ => fun
  | [d1, d2] => { results := [.lit (.bool false)], args := [d1, d2] }
  | _ => none }
def ShapePatternsWrongFalsely : Prop := shapePatternsRow.holds Try.pinned (OpenSpec.ofChange shapePatternsWrong)

/-- 'vernierlaw01.LeadReads': WHATEVER THE INPUT: true; the input reads as it did. -/
def leadReadsSpec : ChangeSpec := { name := "leadReads", fn := fun _ => fun
  | [d] => { results := [.lit (.bool true)], args := [d] }
  | _ => none }
def leadReadsRow : OpenClaim := { program := "ytjbcfiigafbobaa", sum := "438ec92d3ee6ea989cd0473c00e97de308cca04b931ecfc45ad573211416a46f", func := "vernier/vernierlaw01.LeadReads", spec := "leadReads", apart := false }
def LeadReadsSaid : Prop := leadReadsRow.holds Try.pinned (OpenSpec.ofChange leadReadsSpec)

/-- ITS FALSE NEIGHBOUR: 'it returns false'. Refute it at one input. -/
def leadReadsWrong : ChangeSpec := { name := "leadReads", fn := fun _ => fun
  | [d] => { results := [.lit (.bool false)], args := [d] }
  | _ => none }
def LeadReadsWrongFalsely : Prop := leadReadsRow.holds Try.pinned (OpenSpec.ofChange leadReadsWrong)

/-- 'vernierlaw05.ShapeOfs': WHATEVER THE INPUT: true; the input reads as it did. -/
def shapeOfsSpec : ChangeSpec := { name := "shapeOfs", fn := fun _ => fun
  | [d] => { results := [.lit (.bool true)], args := [d] }
  | _ => none }
def shapeOfsRow : OpenClaim := { program := "ytjbcfiigafbobaa", sum := "438ec92d3ee6ea989cd0473c00e97de308cca04b931ecfc45ad573211416a46f", func := "vernier/vernierlaw05.ShapeOfs", spec := "shapeOfs", apart := false }
def ShapeOfsSaid : Prop := shapeOfsRow.holds Try.pinned (OpenSpec.ofChange shapeOfsSpec)

/-- ITS FALSE NEIGHBOUR: 'it returns false'. Refute it at one input. -/
def shapeOfsWrong : ChangeSpec := { name := "shapeOfs", fn := fun _ => fun
  | [d] => { results := [.lit (.bool false)], args := [d] }
  | _ => none }
def ShapeOfsWrongFalsely : Prop := shapeOfsRow.holds Try.pinned (OpenSpec.ofChange shapeOfsWrong)

/-- 'vernierlaw01.LeadPuts': WHATEVER THE INPUT: true; the input reads as it did. -/
def leadPutsSpec : ChangeSpec := { name := "leadPuts", fn := fun _ => fun
  | [d1, d2, d3, d4] => { results := [.lit (.bool true)], args := [d1, d2, d3, d4] }
  | _ => none }
def leadPutsRow : OpenClaim := { program := "ytjbcfiigafbobaa", sum := "438ec92d3ee6ea989cd0473c00e97de308cca04b931ecfc45ad573211416a46f", func := "vernier/vernierlaw01.LeadPuts", spec := "leadPuts", apart := false }
def LeadPutsSaid : Prop := leadPutsRow.holds Try.pinned (OpenSpec.ofChange leadPutsSpec)

/-- ITS FALSE NEIGHBOUR: 'it returns false'. Refute it at one input. -/
def leadPutsWrong : ChangeSpec := { name := "leadPuts", fn := fun _ => fun
  | [d1, d2, d3, d4] => { results := [.lit (.bool false)], args := [d1, d2, d3, d4] }
  | _ => none }
def LeadPutsWrongFalsely : Prop := leadPutsRow.holds Try.pinned (OpenSpec.ofChange leadPutsWrong)

/-- 'vernierlaw02.TwinShrs': WHATEVER THE INPUT: true; the input reads as it did. -/
def twinShrsSpec : ChangeSpec := { name := "twinShrs", fn := fun _ => fun
  | [d1, d2] => { results := [.lit (.bool true)], args := [d1, d2] }
  | _ => none }
def twinShrsRow : OpenClaim := { program := "ytjbcfiigafbobaa", sum := "438ec92d3ee6ea989cd0473c00e97de308cca04b931ecfc45ad573211416a46f", func := "vernier/vernierlaw02.TwinShrs", spec := "twinShrs", inPlace := ["math/bits.Add64"], apart := false }
def TwinShrsSaid : Prop := twinShrsRow.holds Try.pinned (OpenSpec.ofChange twinShrsSpec)

/-- ITS FALSE NEIGHBOUR: 'it returns false'. Refute it at one input. -/
def twinShrsWrong : ChangeSpec := { name := "twinShrs", fn := fun _ => fun
  | [d1, d2] => { results := [.lit (.bool false)], args := [d1, d2] }
  | _ => none }
def TwinShrsWrongFalsely : Prop := twinShrsRow.holds Try.pinned (OpenSpec.ofChange twinShrsWrong)

/-- 'vernierlaw05.ShapeRanks': WHATEVER THE INPUT: true; the input reads as it did. -/
def shapeRanksSpec : ChangeSpec := { name := "shapeRanks", fn := fun _ => fun
  | [d1, d2] => { results := [.lit (.bool true)], args := [d1, d2] }
  | _ => none }
def shapeRanksRow : OpenClaim := { program := "ytjbcfiigafbobaa", sum := "438ec92d3ee6ea989cd0473c00e97de308cca04b931ecfc45ad573211416a46f", func := "vernier/vernierlaw05.ShapeRanks", spec := "shapeRanks", apart := false }
def ShapeRanksSaid : Prop := shapeRanksRow.holds Try.pinned (OpenSpec.ofChange shapeRanksSpec)

/-- ITS FALSE NEIGHBOUR: 'it returns false'. Refute it at one input. -/
def shapeRanksWrong : ChangeSpec := { name := "shapeRanks", fn := fun _ => fun
  | [d1, d2] => { results := [.lit (.bool false)], args := [d1, d2] }
  | _ => none }
def ShapeRanksWrongFalsely : Prop := shapeRanksRow.holds Try.pinned (OpenSpec.ofChange shapeRanksWrong)

/-- 'vernierlaw05.ShapeBack': WHATEVER THE INPUT: true; the input reads as it did. -/
def shapeBackSpec : ChangeSpec := { name := "shapeBack", fn := fun _ => fun
  | [d1, d2, d3] => { results := [.lit (.bool true)], args := [d1, d2, d3] }
  | _ => none }
def shapeBackRow : OpenClaim := { program := "ytjbcfiigafbobaa", sum := "438ec92d3ee6ea989cd0473c00e97de308cca04b931ecfc45ad573211416a46f", func := "vernier/vernierlaw05.ShapeBack", spec := "shapeBack", apart := false }
def ShapeBackSaid : Prop := shapeBackRow.holds Try.pinned (OpenSpec.ofChange shapeBackSpec)

/-- ITS FALSE NEIGHBOUR: 'it returns false'. Refute it at one input. -/
def shapeBackWrong : ChangeSpec := { name := "shapeBack", fn := fun _ => fun
  | [d1, d2, d3] => { results := [.lit (.bool false)], args := [d1, d2, d3] }
  | _ => none }
def ShapeBackWrongFalsely : Prop := shapeBackRow.holds Try.pinned (OpenSpec.ofChange shapeBackWrong)

/-- 'vernierlaw01.LeadFields': WHATEVER THE INPUT: true; the input reads as it did. -/
def leadFieldsSpec : ChangeSpec := { name := "leadFields", fn := fun _ => fun
  | [d1, d2, d3] => { results := [.lit (.bool true)], args := [d1, d2, d3] }
  | _ => none }
def leadFieldsRow : OpenClaim := { program := "ytjbcfiigafbobaa", sum := "438ec92d3ee6ea989cd0473c00e97de308cca04b931ecfc45ad573211416a46f", func := "vernier/vernierlaw01.LeadFields", spec := "leadFields", apart := false }
def LeadFieldsSaid : Prop := leadFieldsRow.holds Try.pinned (OpenSpec.ofChange leadFieldsSpec)

/-- ITS FALSE NEIGHBOUR: 'it returns false'. Refute it at one input. -/
def leadFieldsWrong : ChangeSpec := { name := "leadFields", fn := fun _ => fun
  | [d1, d2, d3] => { results := [.lit (.bool false)], args := [d1, d2, d3] }
  | _ => none }
def LeadFieldsWrongFalsely : Prop := leadFieldsRow.holds Try.pinned (OpenSpec.ofChange leadFieldsWrong)

/-- 'vernierlaw05.ShapeFolds': WHATEVER THE INPUT: true; the input reads as it did. -/
def shapeFoldsSpec : ChangeSpec := { name := "shapeFolds", fn := fun _ => fun
  | [d1, d2] => { results := [.lit (.bool true)], args := [d1, d2] }
  | _ => none }
def shapeFoldsRow : OpenClaim := { program := "ytjbcfiigafbobaa", sum := "438ec92d3ee6ea989cd0473c00e97de308cca04b931ecfc45ad573211416a46f", func := "vernier/vernierlaw05.ShapeFolds", spec := "shapeFolds", apart := false }
def ShapeFoldsSaid : Prop := shapeFoldsRow.holds Try.pinned (OpenSpec.ofChange shapeFoldsSpec)

/-- ITS FALSE NEIGHBOUR: 'it returns false'. Refute it at one input. -/
def shapeFoldsWrong : ChangeSpec := { name := "shapeFolds", fn := fun _ => fun
  | [d1, d2] => { results := [.lit (.bool false)], args := [d1, d2] }
  | _ => none }
def ShapeFoldsWrongFalsely : Prop := shapeFoldsRow.holds Try.pinned (OpenSpec.ofChange shapeFoldsWrong)

/-- 'vernierlaw02.TwinShls': WHATEVER THE INPUT: true; the input reads as it did. -/
def twinShlsSpec : ChangeSpec := { name := "twinShls", fn := fun _ => fun
  | [d1, d2] => { results := [.lit (.bool true)], args := [d1, d2] }
  | _ => none }
def twinShlsRow : OpenClaim := { program := "ytjbcfiigafbobaa", sum := "438ec92d3ee6ea989cd0473c00e97de308cca04b931ecfc45ad573211416a46f", func := "vernier/vernierlaw02.TwinShls", spec := "twinShls", inPlace := ["math/bits.Add64"], apart := false }
def TwinShlsSaid : Prop := twinShlsRow.holds Try.pinned (OpenSpec.ofChange twinShlsSpec)

/-- ITS FALSE NEIGHBOUR: 'it returns false'. Refute it at one input. -/
def twinShlsWrong : ChangeSpec := { name := "twinShls", fn := fun _ => fun
  | [d1, d2] => { results := [.lit (.bool false)], args := [d1, d2] }
  | _ => none }
def TwinShlsWrongFalsely : Prop := twinShlsRow.holds Try.pinned (OpenSpec.ofChange twinShlsWrong)

/-- 'vernierlaw02.TwinLens': WHATEVER THE INPUT: true; the input reads as it did. -/
def twinLensSpec : ChangeSpec := { name := "twinLens", fn := fun _ => fun
  | [d] => { results := [.lit (.bool true)], args := [d] }
  | _ => none }
def twinLensRow : OpenClaim := { program := "ytjbcfiigafbobaa", sum := "438ec92d3ee6ea989cd0473c00e97de308cca04b931ecfc45ad573211416a46f", func := "vernier/vernierlaw02.TwinLens", spec := "twinLens", inPlace := ["math/bits.Add64"], apart := false }
def TwinLensSaid : Prop := twinLensRow.holds Try.pinned (OpenSpec.ofChange twinLensSpec)

/-- ITS FALSE NEIGHBOUR: 'it returns false'. Refute it at one input. -/
def twinLensWrong : ChangeSpec := { name := "twinLens", fn := fun _ => fun
  | [d] => { results := [.lit (.bool false)], args := [d] }
  | _ => none }
def TwinLensWrongFalsely : Prop := twinLensRow.holds Try.pinned (OpenSpec.ofChange twinLensWrong)

/-- 'vernierlaw02.TwinBack': WHATEVER THE INPUT: true; the input reads as it did. -/
def twinBackSpec : ChangeSpec := { name := "twinBack", fn := fun _ => fun
  | [d1, d2] => { results := [.lit (.bool true)], args := [d1, d2] }
  | _ => none }
def twinBackRow : OpenClaim := { program := "ytjbcfiigafbobaa", sum := "438ec92d3ee6ea989cd0473c00e97de308cca04b931ecfc45ad573211416a46f", func := "vernier/vernierlaw02.TwinBack", spec := "twinBack", inPlace := ["math/bits.Add64", "math/bits.Sub64"], apart := false }
def TwinBackSaid : Prop := twinBackRow.holds Try.pinned (OpenSpec.ofChange twinBackSpec)

/-- ITS FALSE NEIGHBOUR: 'it returns false'. Refute it at one input. -/
def twinBackWrong : ChangeSpec := { name := "twinBack", fn := fun _ => fun
  | [d1, d2] => { results := [.lit (.bool false)], args := [d1, d2] }
  | _ => none }
def TwinBackWrongFalsely : Prop := twinBackRow.holds Try.pinned (OpenSpec.ofChange twinBackWrong)

/- THE SECOND FORM. 'bulk': how many values and letters a reading holds, each counted each time it is reached (what is shared counts as often as it is met; a slice's spare places count too). A statement '..UptoSaid' is the law's where the arguments, and the package variables that the reading takes, are together of bulk at most 1048576: NARROWER than '..Said'. Prove '..Said' where nothing that the law and all that it calls make is longer than what came in: it says more and counts as full. Else prove '..UptoSaid'. A law counts once. -/
mutual
def uptoBulk {H : Type} : DataW H → Nat
  | .lit (.string bytes) => bytes.length + 1
  | .lit _ => 1
  | .nil => 1
  | .ptr d => uptoBulk d + 1
  | .slice elems spare => uptoBulkAll elems + uptoBulkAll spare + 1
  | .agg parts => uptoBulkAll parts + 1
  | .iface _ d => uptoBulk d + 1
  | .map entries => uptoBulkEntries entries + 1
  | .held _ => 1
def uptoBulkAll {H : Type} : List (DataW H) → Nat
  | [] => 0
  | d :: r => uptoBulk d + uptoBulkAll r
def uptoBulkEntries {H : Type} : List (Lit × DataW H) → Nat
  | [] => 0
  | x :: r => uptoBulkEntry x + uptoBulkEntries r
def uptoBulkEntry {H : Type} : Lit × DataW H → Nat
  | (.string bytes, d) => bytes.length + uptoBulk d + 1
  | (_, d) => uptoBulk d + 1
 end
def uptoSmall : (H : Type) → List (DataW H) → Bool := fun _ ds => decide (uptoBulkAll ds ≤ 1048576)
def OpenSpec.upto (s : _root_.Go.ChangeSpec) : _root_.Go.OpenSpec := { _root_.Go.OpenSpec.ofChange s with cond := some uptoSmall }

/-- 'vernierlaw02.TwinMuls', WHERE WHAT IT READS IS OF BULK AT MOST 1048576: true; the input reads as it did. -/
def twinMulsUptoRow : OpenClaim := { program := "ytjbcfiigafbobaa", sum := "438ec92d3ee6ea989cd0473c00e97de308cca04b931ecfc45ad573211416a46f", func := "vernier/vernierlaw02.TwinMuls", spec := "twinMuls", inPlace := ["math/bits.Add64"], apart := false, narrowed := true }
def TwinMulsUptoSaid : Prop := twinMulsUptoRow.holds Try.pinned (OpenSpec.upto twinMulsSpec)

/-- 'vernierlaw01.LeadRuns', WHERE WHAT IT READS IS OF BULK AT MOST 1048576: true; the input reads as it did. -/
def leadRunsUptoRow : OpenClaim := { program := "ytjbcfiigafbobaa", sum := "438ec92d3ee6ea989cd0473c00e97de308cca04b931ecfc45ad573211416a46f", func := "vernier/vernierlaw01.LeadRuns", spec := "leadRuns", apart := false, narrowed := true }
def LeadRunsUptoSaid : Prop := leadRunsUptoRow.holds Try.pinned (OpenSpec.upto leadRunsSpec)

/-- 'vernierlaw01.LeadShows', WHERE WHAT IT READS IS OF BULK AT MOST 1048576: true; the input reads as it did. -/
def leadShowsUptoRow : OpenClaim := { program := "ytjbcfiigafbobaa", sum := "438ec92d3ee6ea989cd0473c00e97de308cca04b931ecfc45ad573211416a46f", func := "vernier/vernierlaw01.LeadShows", spec := "leadShows", apart := false, narrowed := true }
def LeadShowsUptoSaid : Prop := leadShowsUptoRow.holds Try.pinned (OpenSpec.upto leadShowsSpec)

/-- 'vernierlaw02.TwinCmps', WHERE WHAT IT READS IS OF BULK AT MOST 1048576: true; the input reads as it did. -/
def twinCmpsUptoRow : OpenClaim := { program := "ytjbcfiigafbobaa", sum := "438ec92d3ee6ea989cd0473c00e97de308cca04b931ecfc45ad573211416a46f", func := "vernier/vernierlaw02.TwinCmps", spec := "twinCmps", inPlace := ["math/bits.Add64"], apart := false, narrowed := true }
def TwinCmpsUptoSaid : Prop := twinCmpsUptoRow.holds Try.pinned (OpenSpec.upto twinCmpsSpec)

/-- 'vernierlaw01.LeadSigns', WHERE WHAT IT READS IS OF BULK AT MOST 1048576: true; the input reads as it did. -/
def leadSignsUptoRow : OpenClaim := { program := "ytjbcfiigafbobaa", sum := "438ec92d3ee6ea989cd0473c00e97de308cca04b931ecfc45ad573211416a46f", func := "vernier/vernierlaw01.LeadSigns", spec := "leadSigns", apart := false, narrowed := true }
def LeadSignsUptoSaid : Prop := leadSignsUptoRow.holds Try.pinned (OpenSpec.upto leadSignsSpec)

/-- 'vernierlaw02.TwinAdds', WHERE WHAT IT READS IS OF BULK AT MOST 1048576: true; the input reads as it did. -/
def twinAddsUptoRow : OpenClaim := { program := "ytjbcfiigafbobaa", sum := "438ec92d3ee6ea989cd0473c00e97de308cca04b931ecfc45ad573211416a46f", func := "vernier/vernierlaw02.TwinAdds", spec := "twinAdds", inPlace := ["math/bits.Add64", "math/bits.Sub64"], apart := false, narrowed := true }
def TwinAddsUptoSaid : Prop := twinAddsUptoRow.holds Try.pinned (OpenSpec.upto twinAddsSpec)

/-- 'vernierlaw02.TwinRing', WHERE WHAT IT READS IS OF BULK AT MOST 1048576: true; the input reads as it did. -/
def twinRingUptoRow : OpenClaim := { program := "ytjbcfiigafbobaa", sum := "438ec92d3ee6ea989cd0473c00e97de308cca04b931ecfc45ad573211416a46f", func := "vernier/vernierlaw02.TwinRing", spec := "twinRing", inPlace := ["math/bits.Add64", "math/bits.Sub64"], apart := false, narrowed := true }
def TwinRingUptoSaid : Prop := twinRingUptoRow.holds Try.pinned (OpenSpec.upto twinRingSpec)

/-- 'vernierlaw05.ShapePatterns', WHERE WHAT IT READS IS OF BULK AT MOST 1048576: true; the input reads as it did. -/
def shapePatternsUptoRow : OpenClaim := { program := "ytjbcfiigafbobaa", sum := "438ec92d3ee6ea989cd0473c00e97de308cca04b931ecfc45ad573211416a46f", func := "vernier/vernierlaw05.ShapePatterns", spec := "shapePatterns", apart := false, narrowed := true }
def ShapePatternsUptoSaid : Prop := shapePatternsUptoRow.holds Try.pinned (OpenSpec.upto shapePatternsSpec)

/-- 'vernierlaw01.LeadReads', WHERE WHAT IT READS IS OF BULK AT MOST 1048576: true; the input reads as it did. -/
def leadReadsUptoRow : OpenClaim := { program := "ytjbcfiigafbobaa", sum := "438ec92d3ee6ea989cd0473c00e97de308cca04b931ecfc45ad573211416a46f", func := "vernier/vernierlaw01.LeadReads", spec := "leadReads", apart := false, narrowed := true }
def LeadReadsUptoSaid : Prop := leadReadsUptoRow.holds Try.pinned (OpenSpec.upto leadReadsSpec)

/-- 'vernierlaw05.ShapeOfs', WHERE WHAT IT READS IS OF BULK AT MOST 1048576: true; the input reads as it did. -/
def shapeOfsUptoRow : OpenClaim := { program := "ytjbcfiigafbobaa", sum := "438ec92d3ee6ea989cd0473c00e97de308cca04b931ecfc45ad573211416a46f", func := "vernier/vernierlaw05.ShapeOfs", spec := "shapeOfs", apart := false, narrowed := true }
def ShapeOfsUptoSaid : Prop := shapeOfsUptoRow.holds Try.pinned (OpenSpec.upto shapeOfsSpec)

/-- 'vernierlaw01.LeadPuts', WHERE WHAT IT READS IS OF BULK AT MOST 1048576: true; the input reads as it did. -/
def leadPutsUptoRow : OpenClaim := { program := "ytjbcfiigafbobaa", sum := "438ec92d3ee6ea989cd0473c00e97de308cca04b931ecfc45ad573211416a46f", func := "vernier/vernierlaw01.LeadPuts", spec := "leadPuts", apart := false, narrowed := true }
def LeadPutsUptoSaid : Prop := leadPutsUptoRow.holds Try.pinned (OpenSpec.upto leadPutsSpec)

/-- 'vernierlaw02.TwinShrs', WHERE WHAT IT READS IS OF BULK AT MOST 1048576: true; the input reads as it did. -/
def twinShrsUptoRow : OpenClaim := { program := "ytjbcfiigafbobaa", sum := "438ec92d3ee6ea989cd0473c00e97de308cca04b931ecfc45ad573211416a46f", func := "vernier/vernierlaw02.TwinShrs", spec := "twinShrs", inPlace := ["math/bits.Add64"], apart := false, narrowed := true }
def TwinShrsUptoSaid : Prop := twinShrsUptoRow.holds Try.pinned (OpenSpec.upto twinShrsSpec)

/-- 'vernierlaw05.ShapeRanks', WHERE WHAT IT READS IS OF BULK AT MOST 1048576: true; the input reads as it did. -/
def shapeRanksUptoRow : OpenClaim := { program := "ytjbcfiigafbobaa", sum := "438ec92d3ee6ea989cd0473c00e97de308cca04b931ecfc45ad573211416a46f", func := "vernier/vernierlaw05.ShapeRanks", spec := "shapeRanks", apart := false, narrowed := true }
def ShapeRanksUptoSaid : Prop := shapeRanksUptoRow.holds Try.pinned (OpenSpec.upto shapeRanksSpec)

/-- 'vernierlaw05.ShapeBack', WHERE WHAT IT READS IS OF BULK AT MOST 1048576: true; the input reads as it did. -/
def shapeBackUptoRow : OpenClaim := { program := "ytjbcfiigafbobaa", sum := "438ec92d3ee6ea989cd0473c00e97de308cca04b931ecfc45ad573211416a46f", func := "vernier/vernierlaw05.ShapeBack", spec := "shapeBack", apart := false, narrowed := true }
def ShapeBackUptoSaid : Prop := shapeBackUptoRow.holds Try.pinned (OpenSpec.upto shapeBackSpec)

/-- 'vernierlaw01.LeadFields', WHERE WHAT IT READS IS OF BULK AT MOST 1048576: true; the input reads as it did. -/
def leadFieldsUptoRow : OpenClaim := { program := "ytjbcfiigafbobaa", sum := "438ec92d3ee6ea989cd0473c00e97de308cca04b931ecfc45ad573211416a46f", func := "vernier/vernierlaw01.LeadFields", spec := "leadFields", apart := false, narrowed := true }
def LeadFieldsUptoSaid : Prop := leadFieldsUptoRow.holds Try.pinned (OpenSpec.upto leadFieldsSpec)

/-- 'vernierlaw05.ShapeFolds', WHERE WHAT IT READS IS OF BULK AT MOST 1048576: true; the input reads as it did. -/
def shapeFoldsUptoRow : OpenClaim := { program := "ytjbcfiigafbobaa", sum := "438ec92d3ee6ea989cd0473c00e97de308cca04b931ecfc45ad573211416a46f", func := "vernier/vernierlaw05.ShapeFolds", spec := "shapeFolds", apart := false, narrowed := true }
def ShapeFoldsUptoSaid : Prop := shapeFoldsUptoRow.holds Try.pinned (OpenSpec.upto shapeFoldsSpec)

/-- 'vernierlaw02.TwinShls', WHERE WHAT IT READS IS OF BULK AT MOST 1048576: true; the input reads as it did. -/
def twinShlsUptoRow : OpenClaim := { program := "ytjbcfiigafbobaa", sum := "438ec92d3ee6ea989cd0473c00e97de308cca04b931ecfc45ad573211416a46f", func := "vernier/vernierlaw02.TwinShls", spec := "twinShls", inPlace := ["math/bits.Add64"], apart := false, narrowed := true }
def TwinShlsUptoSaid : Prop := twinShlsUptoRow.holds Try.pinned (OpenSpec.upto twinShlsSpec)

/-- 'vernierlaw02.TwinLens', WHERE WHAT IT READS IS OF BULK AT MOST 1048576: true; the input reads as it did. -/
def twinLensUptoRow : OpenClaim := { program := "ytjbcfiigafbobaa", sum := "438ec92d3ee6ea989cd0473c00e97de308cca04b931ecfc45ad573211416a46f", func := "vernier/vernierlaw02.TwinLens", spec := "twinLens", inPlace := ["math/bits.Add64"], apart := false, narrowed := true }
def TwinLensUptoSaid : Prop := twinLensUptoRow.holds Try.pinned (OpenSpec.upto twinLensSpec)

/-- 'vernierlaw02.TwinBack', WHERE WHAT IT READS IS OF BULK AT MOST 1048576: true; the input reads as it did. -/
def twinBackUptoRow : OpenClaim := { program := "ytjbcfiigafbobaa", sum := "438ec92d3ee6ea989cd0473c00e97de308cca04b931ecfc45ad573211416a46f", func := "vernier/vernierlaw02.TwinBack", spec := "twinBack", inPlace := ["math/bits.Add64", "math/bits.Sub64"], apart := false, narrowed := true }
def TwinBackUptoSaid : Prop := twinBackUptoRow.holds Try.pinned (OpenSpec.upto twinBackSpec)

end Rows
end Go.Proofs.Ytjbcfiigafbobaa
