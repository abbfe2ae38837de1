/-
  No cell of these rows narrows 'for every input' (looked for: loops, veiled, ifaces, maps, wideKeys, modest, calm, conditions, laid).
  DERIVED. THE GIVEN ROWS OF THIS SEAT. 7 by the template 'for every input the law returns true; each argument reads behind the call as it read before'; 0 by the template 'total and deterministic' (their statements: YtmofdimkdkfdgaaTotals.lean).
  GIVEN WITH THE SEED: the statements are not yours to turn. If you find one false, say at which input.
  Laid BY PROGRAM, IN A SANDBOX (cutbox-rows.mjs): the forced cells as the released guide's own fill.sh prints them over the translation 437df12f66ea2460… (all of the seat's roots in one cut). By AI agents, Wed Nov 11 2026. No macro, syntax, notation, axiom, sorry.
-/
import Derived.Test.YtmofdimkdkfdgaaChecked
import GoSem.Claim
import GoSem.ClaimJoined
import GoSem.ClaimMapViews
import Derived.JoinedTies
import Derived.KernelRfl
namespace Go.Proofs.Ytmofdimkdkfdgaa
/- THE CELL 'sum', in the pinned program and in every row, IS THE sha256 OF THE DUMP (.gsa) THAT YtmofdimkdkfdgaaProg.lean LOADS. Nothing in Lean hashes anything: it is a label: what it is worth is what the hold of that sum in a sandbox is worth. -/
noncomputable def Try.pinned : Pinned := { name := "ytmofdimkdkfdgaa", sum := "437df12f66ea24607105b35f2541ca82e80491cd6ecefb8a1dcae4d17b7352e8", checked := Try.checked }
namespace Rows
def none {H : Type} : Left H := { results := [], args := [] }

/-- 'vernierlaw06.CodecSplits': WHATEVER THE INPUT: true; the input reads as it did. -/
def codecSplitsSpec : ChangeSpec := { name := "codecSplits", fn := fun _ => fun
  | [d1, d2] => { results := [.lit (.bool true)], args := [d1, d2] }
  | _ => none }
def codecSplitsRow : OpenClaim := { program := "ytmofdimkdkfdgaa", sum := "437df12f66ea24607105b35f2541ca82e80491cd6ecefb8a1dcae4d17b7352e8", func := "vernier/vernierlaw06.CodecSplits", spec := "codecSplits", apart := false }
def CodecSplitsSaid : Prop := codecSplitsRow.holds Try.pinned (OpenSpec.ofChange codecSplitsSpec)

/-- ITS FALSE NEIGHBOUR: 'it returns false'. Refute it at one input. -/
def codecSplitsWrong : ChangeSpec := { name := "codecSplits", fn := fun _ => fun
  | [d1, d2] => { results := [.lit (.bool false)], args := [d1, d2] }
  | _ => none }
def CodecSplitsWrongFalsely : Prop := codecSplitsRow.holds Try.pinned (OpenSpec.ofChange codecSplitsWrong)

/-- 'vernierlaw06.CodecJoins': WHATEVER THE INPUT: true; the input reads as it did. -/
def codecJoinsSpec : ChangeSpec := { name := "codecJoins", fn := fun _ => fun
  | [d1, d2] => { results := [.lit (.bool true)], args := [d1, d2] }
  | _ => none }
def codecJoinsRow : OpenClaim := { program := "ytmofdimkdkfdgaa", sum := "437df12f66ea24607105b35f2541ca82e80491cd6ecefb8a1dcae4d17b7352e8", func := "vernier/vernierlaw06.CodecJoins", spec := "codecJoins", apart := false }
def CodecJoinsSaid : Prop := codecJoinsRow.holds Try.pinned (OpenSpec.ofChange codecJoinsSpec)

/-- ITS FALSE NEIGHBOUR: 'it returns false'. Refute it at one input. -/
def codecJoinsWrong : ChangeSpec := { name := "codecJoins", fn := fun _ => fun
  | [d1, d2] => { results := [.lit (.bool false)], args := [d1, d2] }
  | _ => none }
def CodecJoinsWrongFalsely : Prop := codecJoinsRow.holds Try.pinned (OpenSpec.ofChange codecJoinsWrong)

/-- 'vernierlaw06.CodecDecodes': WHATEVER THE INPUT: true; the input reads as it did. -/
def codecDecodesSpec : ChangeSpec := { name := "codecDecodes", fn := fun _ => fun
  | [d1, d2] => { results := [.lit (.bool true)], args := [d1, d2] }
  | _ => none }
def codecDecodesRow : OpenClaim := { program := "ytmofdimkdkfdgaa", sum := "437df12f66ea24607105b35f2541ca82e80491cd6ecefb8a1dcae4d17b7352e8", func := "vernier/vernierlaw06.CodecDecodes", spec := "codecDecodes", apart := false }
def CodecDecodesSaid : Prop := codecDecodesRow.holds Try.pinned (OpenSpec.ofChange codecDecodesSpec)

/-- ITS FALSE NEIGHBOUR: 'it returns false'. Refute it at one input. -/
def codecDecodesWrong : ChangeSpec := { name := "codecDecodes", fn := fun _ => fun
  | [d1, d2] => { results := [.lit (.bool false)], args := [d1, d2] }
  | _ => none }
def CodecDecodesWrongFalsely : Prop := codecDecodesRow.holds Try.pinned (OpenSpec.ofChange codecDecodesWrong)

/-- 'vernierlaw06.CodecEncodes': WHATEVER THE INPUT: true; the input reads as it did. -/
def codecEncodesSpec : ChangeSpec := { name := "codecEncodes", fn := fun _ => fun
  | [d1, d2] => { results := [.lit (.bool true)], args := [d1, d2] }
  | _ => none }
def codecEncodesRow : OpenClaim := { program := "ytmofdimkdkfdgaa", sum := "437df12f66ea24607105b35f2541ca82e80491cd6ecefb8a1dcae4d17b7352e8", func := "vernier/vernierlaw06.CodecEncodes", spec := "codecEncodes", apart := false }
def CodecEncodesSaid : Prop := codecEncodesRow.holds Try.pinned (OpenSpec.ofChange codecEncodesSpec)

/-- ITS FALSE NEIGHBOUR: 'it returns false'. Refute it at one input. -/
def codecEncodesWrong : ChangeSpec := { name := "codecEncodes", fn := fun _ => fun
  | [d1, d2] => { results := [.lit (.bool false)], args := [d1, d2] }
  | _ => none }
def CodecEncodesWrongFalsely : Prop := codecEncodesRow.holds Try.pinned (OpenSpec.ofChange codecEncodesWrong)

/-- 'vernierlaw06.CodecBack': WHATEVER THE INPUT: true; the input reads as it did. -/
def codecBackSpec : ChangeSpec := { name := "codecBack", fn := fun _ => fun
  | [d1, d2] => { results := [.lit (.bool true)], args := [d1, d2] }
  | _ => none }
def codecBackRow : OpenClaim := { program := "ytmofdimkdkfdgaa", sum := "437df12f66ea24607105b35f2541ca82e80491cd6ecefb8a1dcae4d17b7352e8", func := "vernier/vernierlaw06.CodecBack", spec := "codecBack", apart := false }
def CodecBackSaid : Prop := codecBackRow.holds Try.pinned (OpenSpec.ofChange codecBackSpec)

/-- ITS FALSE NEIGHBOUR: 'it returns false'. Refute it at one input. -/
def codecBackWrong : ChangeSpec := { name := "codecBack", fn := fun _ => fun
  | [d1, d2] => { results := [.lit (.bool false)], args := [d1, d2] }
  | _ => none }
def CodecBackWrongFalsely : Prop := codecBackRow.holds Try.pinned (OpenSpec.ofChange codecBackWrong)

/-- 'vernierlaw06.CodecOnly': WHATEVER THE INPUT: true; the input reads as it did. -/
def codecOnlySpec : ChangeSpec := { name := "codecOnly", fn := fun _ => fun
  | [d1, d2, d3] => { results := [.lit (.bool true)], args := [d1, d2, d3] }
  | _ => none }
def codecOnlyRow : OpenClaim := { program := "ytmofdimkdkfdgaa", sum := "437df12f66ea24607105b35f2541ca82e80491cd6ecefb8a1dcae4d17b7352e8", func := "vernier/vernierlaw06.CodecOnly", spec := "codecOnly", apart := false }
def CodecOnlySaid : Prop := codecOnlyRow.holds Try.pinned (OpenSpec.ofChange codecOnlySpec)

/-- ITS FALSE NEIGHBOUR: 'it returns false'. Refute it at one input. -/
def codecOnlyWrong : ChangeSpec := { name := "codecOnly", fn := fun _ => fun
  | [d1, d2, d3] => { results := [.lit (.bool false)], args := [d1, d2, d3] }
  | _ => none }
def CodecOnlyWrongFalsely : Prop := codecOnlyRow.holds Try.pinned (OpenSpec.ofChange codecOnlyWrong)

/-- 'vernierlaw06.CodecWider': WHATEVER THE INPUT: true; the input reads as it did. -/
def codecWiderSpec : ChangeSpec := { name := "codecWider", fn := fun _ => fun
  | [d] => { results := [.lit (.bool true)], args := [d] }
  | _ => none }
def codecWiderRow : OpenClaim := { program := "ytmofdimkdkfdgaa", sum := "437df12f66ea24607105b35f2541ca82e80491cd6ecefb8a1dcae4d17b7352e8", func := "vernier/vernierlaw06.CodecWider", spec := "codecWider", apart := false }
def CodecWiderSaid : Prop := codecWiderRow.holds Try.pinned (OpenSpec.ofChange codecWiderSpec)

/-- ITS FALSE NEIGHBOUR: 'it returns false'. Refute it at one input. -/
def codecWiderWrong : ChangeSpec := { name := "codecWider", fn := fun _ => fun
  | [d] => { results := [.lit (.bool false)], args := [d] }
  | _ => none }
def CodecWiderWrongFalsely : Prop := codecWiderRow.holds Try.pinned (OpenSpec.ofChange codecWiderWrong)

/- THE SECOND FORM. 'bulk': how many values and letters a reading holds, each counted each time it is reached (what is shared counts as often as it is met; a slice's spare places count too). A statement '..UptoSaid' is the law's where the arguments, and the package variables that the reading takes, are together of bulk at most 1048576: NARROWER than '..Said'. Prove '..Said' where nothing that the law and all that it calls make is longer than what came in: it says more and counts as full. Else prove '..UptoSaid'. A law counts once. -/
mutual
def uptoBulk {H : Type} : DataW H → Nat
  | .lit (.string bytes) => bytes.length + 1
  | .lit _ => 1
  | .nil => 1
  | .ptr d => uptoBulk d + 1
  | .slice elems spare => uptoBulkAll elems + uptoBulkAll spare + 1
  | .agg parts => uptoBulkAll parts + 1
  | .iface _ d => uptoBulk d + 1
  | .map entries => uptoBulkEntries entries + 1
  | .held _ => 1
def uptoBulkAll {H : Type} : List (DataW H) → Nat
  | [] => 0
  | d :: r => uptoBulk d + uptoBulkAll r
def uptoBulkEntries {H : Type} : List (Lit × DataW H) → Nat
  | [] => 0
  | x :: r => uptoBulkEntry x + uptoBulkEntries r
def uptoBulkEntry {H : Type} : Lit × DataW H → Nat
  | (.string bytes, d) => bytes.length + uptoBulk d + 1
  | (_, d) => uptoBulk d + 1
 end
def uptoSmall : (H : Type) → List (DataW H) → Bool := fun _ ds => decide (uptoBulkAll ds ≤ 1048576)
def OpenSpec.upto (s : _root_.Go.ChangeSpec) : _root_.Go.OpenSpec := { _root_.Go.OpenSpec.ofChange s with cond := some uptoSmall }

/-- 'vernierlaw06.CodecSplits', WHERE WHAT IT READS IS OF BULK AT MOST 1048576: true; the input reads as it did. -/
def codecSplitsUptoRow : OpenClaim := { program := "ytmofdimkdkfdgaa", sum := "437df12f66ea24607105b35f2541ca82e80491cd6ecefb8a1dcae4d17b7352e8", func := "vernier/vernierlaw06.CodecSplits", spec := "codecSplits", apart := false, narrowed := true }
def CodecSplitsUptoSaid : Prop := codecSplitsUptoRow.holds Try.pinned (OpenSpec.upto codecSplitsSpec)

/-- 'vernierlaw06.CodecJoins', WHERE WHAT IT READS IS OF BULK AT MOST 1048576: true; the input reads as it did. -/
def codecJoinsUptoRow : OpenClaim := { program := "ytmofdimkdkfdgaa", sum := "437df12f66ea24607105b35f2541ca82e80491cd6ecefb8a1dcae4d17b7352e8", func := "vernier/vernierlaw06.CodecJoins", spec := "codecJoins", apart := false, narrowed := true }
def CodecJoinsUptoSaid : Prop := codecJoinsUptoRow.holds Try.pinned (OpenSpec.upto codecJoinsSpec)

/-- 'vernierlaw06.CodecDecodes', WHERE WHAT IT READS IS OF BULK AT MOST 1048576: true; the input reads as it did. -/
def codecDecodesUptoRow : OpenClaim := { program := "ytmofdimkdkfdgaa", sum := "437df12f66ea24607105b35f2541ca82e80491cd6ecefb8a1dcae4d17b7352e8", func := "vernier/vernierlaw06.CodecDecodes", spec := "codecDecodes", apart := false, narrowed := true }
def CodecDecodesUptoSaid : Prop := codecDecodesUptoRow.holds Try.pinned (OpenSpec.upto codecDecodesSpec)

/-- 'vernierlaw06.CodecEncodes', WHERE WHAT IT READS IS OF BULK AT MOST 1048576: true; the input reads as it did. -/
def codecEncodesUptoRow : OpenClaim := { program := "ytmofdimkdkfdgaa", sum := "437df12f66ea24607105b35f2541ca82e80491cd6ecefb8a1dcae4d17b7352e8", func := "vernier/vernierlaw06.CodecEncodes", spec := "codecEncodes", apart := false, narrowed := true }
def CodecEncodesUptoSaid : Prop := codecEncodesUptoRow.holds Try.pinned (OpenSpec.upto codecEncodesSpec)

/-- 'vernierlaw06.CodecBack', WHERE WHAT IT READS IS OF BULK AT MOST 1048576: true; the input reads as it did. -/
def codecBackUptoRow : OpenClaim := { program := "ytmofdimkdkfdgaa", sum := "437df12f66ea24607105b35f2541ca82e80491cd6ecefb8a1dcae4d17b7352e8", func := "vernier/vernierlaw06.CodecBack", spec := "codecBack", apart := false, narrowed := true }
def CodecBackUptoSaid : Prop := codecBackUptoRow.holds Try.pinned (OpenSpec.upto codecBackSpec)

/-- 'vernierlaw06.CodecOnly', WHERE WHAT IT READS IS OF BULK AT MOST 1048576: true; the input reads as it did. -/
def codecOnlyUptoRow : OpenClaim := { program := "ytmofdimkdkfdgaa", sum := "437df12f66ea24607105b35f2541ca82e80491cd6ecefb8a1dcae4d17b7352e8", func := "vernier/vernierlaw06.CodecOnly", spec := "codecOnly", apart := false, narrowed := true }
def CodecOnlyUptoSaid : Prop := codecOnlyUptoRow.holds Try.pinned (OpenSpec.upto codecOnlySpec)

/-- 'vernierlaw06.CodecWider', WHERE WHAT IT READS IS OF BULK AT MOST 1048576: true; the input reads as it did. -/
def codecWiderUptoRow : OpenClaim := { program := "ytmofdimkdkfdgaa", sum := "437df12f66ea24607105b35f2541ca82e80491cd6ecefb8a1dcae4d17b7352e8", func := "vernier/vernierlaw06.CodecWider", spec := "codecWider", apart := false, narrowed := true }
def CodecWiderUptoSaid : Prop := codecWiderUptoRow.holds Try.pinned (OpenSpec.upto codecWiderSpec)

end Rows
end Go.Proofs.Ytmofdimkdkfdgaa
