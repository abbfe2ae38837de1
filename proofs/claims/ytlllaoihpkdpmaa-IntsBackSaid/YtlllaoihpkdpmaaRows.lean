/-
  No cell of these rows narrows 'for every input' (looked for: loops, veiled, ifaces, maps, wideKeys, modest, calm, conditions, laid).
  DERIVED. THE GIVEN ROWS OF THIS SEAT. 4 by the template 'for every input the law returns true; each argument reads behind the call as it read before'; 0 by the template 'total and deterministic' (their statements: YtlllaoihpkdpmaaTotals.lean).
  GIVEN WITH THE SEED: the statements are not yours to turn. If you find one false, say at which input.
  Laid BY PROGRAM, IN A SANDBOX (cutbox-rows.mjs): the forced cells as the released guide's own fill.sh prints them over the translation 8ee03546281d22b5… (all of the seat's roots in one cut). By AI agents, Wed Nov 11 2026. No macro, syntax, notation, axiom, sorry.
-/
import Derived.Test.YtlllaoihpkdpmaaChecked
import GoSem.Claim
import GoSem.ClaimJoined
import GoSem.ClaimMapViews
import Derived.JoinedTies
import Derived.KernelRfl
namespace Go.Proofs.Ytlllaoihpkdpmaa
/- THE CELL 'sum', in the pinned program and in every row, IS THE sha256 OF THE DUMP (.gsa) THAT YtlllaoihpkdpmaaProg.lean LOADS. Nothing in Lean hashes anything: it is a label: what it is worth is what the hold of that sum in a sandbox is worth. -/
noncomputable def Try.pinned : Pinned := { name := "ytlllaoihpkdpmaa", sum := "8ee03546281d22b5a97812edc17d3d046b7727d6e2fc9a4a9a2eb3162a77356e", checked := Try.checked }
namespace Rows
def none {H : Type} : Left H := { results := [], args := [] }

/-- 'vernierlaw16.IntsFrom': WHATEVER THE INPUT: true; the input reads as it did. -/
def intsFromSpec : ChangeSpec := { name := "intsFrom", fn := fun _ => fun
  | [d1, d2, d3] => { results := [.lit (.bool true)], args := [d1, d2, d3] }
  | _ => none }
def intsFromRow : OpenClaim := { program := "ytlllaoihpkdpmaa", sum := "8ee03546281d22b5a97812edc17d3d046b7727d6e2fc9a4a9a2eb3162a77356e", func := "vernier/vernierlaw16.IntsFrom", spec := "intsFrom", apart := false }
def IntsFromSaid : Prop := intsFromRow.holds Try.pinned (OpenSpec.ofChange intsFromSpec)

/-- ITS FALSE NEIGHBOUR: 'it returns false'. Refute it at one input. -/
def intsFromWrong : ChangeSpec := { name := "intsFrom", fn := fun _ => fun
  | [d1, d2, d3] => { results := [.lit (.bool false)], args := [d1, d2, d3] }
  | _ => none }
def IntsFromWrongFalsely : Prop := intsFromRow.holds Try.pinned (OpenSpec.ofChange intsFromWrong)

/-- 'vernierlaw16.IntsTo': WHATEVER THE INPUT: true; the input reads as it did. -/
def intsToSpec : ChangeSpec := { name := "intsTo", fn := fun _ => fun
  | [d1, d2, d3] => { results := [.lit (.bool true)], args := [d1, d2, d3] }
  | _ => none }
def intsToRow : OpenClaim := { program := "ytlllaoihpkdpmaa", sum := "8ee03546281d22b5a97812edc17d3d046b7727d6e2fc9a4a9a2eb3162a77356e", func := "vernier/vernierlaw16.IntsTo", spec := "intsTo", apart := false }
def IntsToSaid : Prop := intsToRow.holds Try.pinned (OpenSpec.ofChange intsToSpec)

/-- ITS FALSE NEIGHBOUR: 'it returns false'. Refute it at one input. -/
def intsToWrong : ChangeSpec := { name := "intsTo", fn := fun _ => fun
  | [d1, d2, d3] => { results := [.lit (.bool false)], args := [d1, d2, d3] }
  | _ => none }
def IntsToWrongFalsely : Prop := intsToRow.holds Try.pinned (OpenSpec.ofChange intsToWrong)

/-- 'vernierlaw16.IntsBack': WHATEVER THE INPUT: true; the input reads as it did. -/
def intsBackSpec : ChangeSpec := { name := "intsBack", fn := fun _ => fun
  | [d1, d2, d3] => { results := [.lit (.bool true)], args := [d1, d2, d3] }
  | _ => none }
def intsBackRow : OpenClaim := { program := "ytlllaoihpkdpmaa", sum := "8ee03546281d22b5a97812edc17d3d046b7727d6e2fc9a4a9a2eb3162a77356e", func := "vernier/vernierlaw16.IntsBack", spec := "intsBack", apart := false }
def IntsBackSaid : Prop := intsBackRow.holds Try.pinned (OpenSpec.ofChange intsBackSpec)

/-- ITS FALSE NEIGHBOUR: 'it returns false'. Refute it at one input. -/
def intsBackWrong : ChangeSpec := { name := "intsBack", fn := fun _ => fun
  | [d1, d2, d3] => { results := [.lit (.bool false)], args := [d1, d2, d3] }
  | _ => none }
def IntsBackWrongFalsely : Prop := intsBackRow.holds Try.pinned (OpenSpec.ofChange intsBackWrong)

/-- 'vernierlaw16.IntsRise': WHATEVER THE INPUT: true; the input reads as it did. -/
def intsRiseSpec : ChangeSpec := { name := "intsRise", fn := fun _ => fun
  | [d1, d2, d3] => { results := [.lit (.bool true)], args := [d1, d2, d3] }
  | _ => none }
def intsRiseRow : OpenClaim := { program := "ytlllaoihpkdpmaa", sum := "8ee03546281d22b5a97812edc17d3d046b7727d6e2fc9a4a9a2eb3162a77356e", func := "vernier/vernierlaw16.IntsRise", spec := "intsRise", apart := false }
def IntsRiseSaid : Prop := intsRiseRow.holds Try.pinned (OpenSpec.ofChange intsRiseSpec)

/-- ITS FALSE NEIGHBOUR: 'it returns false'. Refute it at one input. -/
def intsRiseWrong : ChangeSpec := { name := "intsRise", fn := fun _ => fun
  | [d1, d2, d3] => { results := [.lit (.bool false)], args := [d1, d2, d3] }
  | _ => none }
def IntsRiseWrongFalsely : Prop := intsRiseRow.holds Try.pinned (OpenSpec.ofChange intsRiseWrong)

/- THE SECOND FORM. 'bulk': how many values and letters a reading holds, each counted each time it is reached (what is shared counts as often as it is met; a slice's spare places count too). A statement '..UptoSaid' is the law's where the arguments, and the package variables that the reading takes, are together of bulk at most 1048576: NARROWER than '..Said'. Prove '..Said' where nothing that the law and all that it calls make is longer than what came in: it says more and counts as full. Else prove '..UptoSaid'. A law counts once. -/
mutual
def uptoBulk {H : Type} : DataW H → Nat
  | .lit (.string bytes) => bytes.length + 1
  | .lit _ => 1
  | .nil => 1
  | .ptr d => uptoBulk d + 1
  | .slice elems spare => uptoBulkAll elems + uptoBulkAll spare + 1
  | .agg parts => uptoBulkAll parts + 1
  | .iface _ d => uptoBulk d + 1
  | .map entries => uptoBulkEntries entries + 1
  | .held _ => 1
def uptoBulkAll {H : Type} : List (DataW H) → Nat
  | [] => 0
  | d :: r => uptoBulk d + uptoBulkAll r
def uptoBulkEntries {H : Type} : List (Lit × DataW H) → Nat
  | [] => 0
  | x :: r => uptoBulkEntry x + uptoBulkEntries r
def uptoBulkEntry {H : Type} : Lit × DataW H → Nat
  | (.string bytes, d) => bytes.length + uptoBulk d + 1
  | (_, d) => uptoBulk d + 1
 end
def uptoSmall : (H : Type) → List (DataW H) → Bool := fun _ ds => decide (uptoBulkAll ds ≤ 1048576)
def OpenSpec.upto (s : _root_.Go.ChangeSpec) : _root_.Go.OpenSpec := { _root_.Go.OpenSpec.ofChange s with cond := some uptoSmall }

/-- 'vernierlaw16.IntsFrom', WHERE WHAT IT READS IS OF BULK AT MOST 1048576: true; the input reads as it did. -/
def intsFromUptoRow : OpenClaim := { program := "ytlllaoihpkdpmaa", sum := "8ee03546281d22b5a97812edc17d3d046b7727d6e2fc9a4a9a2eb3162a77356e", func := "vernier/vernierlaw16.IntsFrom", spec := "intsFrom", apart := false, narrowed := true }
def IntsFromUptoSaid : Prop := intsFromUptoRow.holds Try.pinned (OpenSpec.upto intsFromSpec)

/-- 'vernierlaw16.IntsTo', WHERE WHAT IT READS IS OF BULK AT MOST 1048576: true; the input reads as it did. -/
def intsToUptoRow : OpenClaim := { program := "ytlllaoihpkdpmaa", sum := "8ee03546281d22b5a97812edc17d3d046b7727d6e2fc9a4a9a2eb3162a77356e", func := "vernier/vernierlaw16.IntsTo", spec := "intsTo", apart := false, narrowed := true }
def IntsToUptoSaid : Prop := intsToUptoRow.holds Try.pinned (OpenSpec.upto intsToSpec)

/-- 'vernierlaw16.IntsBack', WHERE WHAT IT READS IS OF BULK AT MOST 1048576: true; the input reads as it did. -/
def intsBackUptoRow : OpenClaim := { program := "ytlllaoihpkdpmaa", sum := "8ee03546281d22b5a97812edc17d3d046b7727d6e2fc9a4a9a2eb3162a77356e", func := "vernier/vernierlaw16.IntsBack", spec := "intsBack", apart := false, narrowed := true }
def IntsBackUptoSaid : Prop := intsBackUptoRow.holds Try.pinned (OpenSpec.upto intsBackSpec)

/-- 'vernierlaw16.IntsRise', WHERE WHAT IT READS IS OF BULK AT MOST 1048576: true; the input reads as it did. -/
def intsRiseUptoRow : OpenClaim := { program := "ytlllaoihpkdpmaa", sum := "8ee03546281d22b5a97812edc17d3d046b7727d6e2fc9a4a9a2eb3162a77356e", func := "vernier/vernierlaw16.IntsRise", spec := "intsRise", apart := false, narrowed := true }
def IntsRiseUptoSaid : Prop := intsRiseUptoRow.holds Try.pinned (OpenSpec.upto intsRiseSpec)

end Rows
end Go.Proofs.Ytlllaoihpkdpmaa
