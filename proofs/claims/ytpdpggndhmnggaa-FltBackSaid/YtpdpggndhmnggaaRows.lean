/-
  No cell of these rows narrows 'for every input' (looked for: loops, veiled, ifaces, maps, wideKeys, modest, calm, conditions, laid).
  DERIVED. THE GIVEN ROWS OF THIS SEAT. 7 by the template 'for every input the law returns true; each argument reads behind the call as it read before'; 0 by the template 'total and deterministic' (their statements: YtpdpggndhmnggaaTotals.lean).
  GIVEN WITH THE SEED: the statements are not yours to turn. If you find one false, say at which input.
  Laid BY PROGRAM, IN A SANDBOX (cutbox-rows.mjs): the forced cells as the released guide's own fill.sh prints them over the translation 6d53755e61faacb6… (all of the seat's roots in one cut). By AI agents, Wed Nov 11 2026. No macro, syntax, notation, axiom, sorry.
-/
import Derived.Test.YtpdpggndhmnggaaChecked
import GoSem.Claim
import GoSem.ClaimJoined
import GoSem.ClaimMapViews
import Derived.JoinedTies
import Derived.KernelRfl
namespace Go.Proofs.Ytpdpggndhmnggaa
/- THE CELL 'sum', in the pinned program and in every row, IS THE sha256 OF THE DUMP (.gsa) THAT YtpdpggndhmnggaaProg.lean LOADS. Nothing in Lean hashes anything: it is a label: what it is worth is what the hold of that sum in a sandbox is worth. -/
noncomputable def Try.pinned : Pinned := { name := "ytpdpggndhmnggaa", sum := "6d53755e61faacb6f571fddd89194e0bd8cf7b3f79626afefdd3997cc45607df", checked := Try.checked }
namespace Rows
def none {H : Type} : Left H := { results := [], args := [] }

/-- 'vernierlaw17.FltFrom64': WHATEVER THE INPUT: true; the input reads as it did. -/
def fltFrom64Spec : ChangeSpec := { name := "fltFrom64", fn := fun _ => fun
  | [d1, d2] => { results := [.lit (.bool true)], args := [d1, d2] }
  | _ => none }
def fltFrom64Row : OpenClaim := { program := "ytpdpggndhmnggaa", sum := "6d53755e61faacb6f571fddd89194e0bd8cf7b3f79626afefdd3997cc45607df", func := "vernier/vernierlaw17.FltFrom64", spec := "fltFrom64", inPlace := ["math.Float64bits", "math.Float64frombits", "math.Float32frombits"], apart := false }
def FltFrom64Said : Prop := fltFrom64Row.holds Try.pinned (OpenSpec.ofChange fltFrom64Spec)

/-- ITS FALSE NEIGHBOUR: 'it returns false'. Refute it at one input. -/
def fltFrom64Wrong : ChangeSpec := { name := "fltFrom64", fn := fun _ => fun
  | [d1, d2] => { results := [.lit (.bool false)], args := [d1, d2] }
  | _ => none }
def FltFrom64WrongFalsely : Prop := fltFrom64Row.holds Try.pinned (OpenSpec.ofChange fltFrom64Wrong)

/-- 'vernierlaw17.FltTo64': WHATEVER THE INPUT: true; the input reads as it did. -/
def fltTo64Spec : ChangeSpec := { name := "fltTo64", fn := fun _ => fun
  | [d1, d2] => { results := [.lit (.bool true)], args := [d1, d2] }
  | _ => none }
def fltTo64Row : OpenClaim := { program := "ytpdpggndhmnggaa", sum := "6d53755e61faacb6f571fddd89194e0bd8cf7b3f79626afefdd3997cc45607df", func := "vernier/vernierlaw17.FltTo64", spec := "fltTo64", inPlace := ["math.Float64bits", "math.Float64frombits", "math.Float32frombits"], apart := false }
def FltTo64Said : Prop := fltTo64Row.holds Try.pinned (OpenSpec.ofChange fltTo64Spec)

/-- ITS FALSE NEIGHBOUR: 'it returns false'. Refute it at one input. -/
def fltTo64Wrong : ChangeSpec := { name := "fltTo64", fn := fun _ => fun
  | [d1, d2] => { results := [.lit (.bool false)], args := [d1, d2] }
  | _ => none }
def FltTo64WrongFalsely : Prop := fltTo64Row.holds Try.pinned (OpenSpec.ofChange fltTo64Wrong)

/-- 'vernierlaw17.FltFrom32': WHATEVER THE INPUT: true; the input reads as it did. -/
def fltFrom32Spec : ChangeSpec := { name := "fltFrom32", fn := fun _ => fun
  | [d1, d2] => { results := [.lit (.bool true)], args := [d1, d2] }
  | _ => none }
def fltFrom32Row : OpenClaim := { program := "ytpdpggndhmnggaa", sum := "6d53755e61faacb6f571fddd89194e0bd8cf7b3f79626afefdd3997cc45607df", func := "vernier/vernierlaw17.FltFrom32", spec := "fltFrom32", inPlace := ["math.Float64bits", "math.Float64frombits", "math.Float32frombits"], apart := false }
def FltFrom32Said : Prop := fltFrom32Row.holds Try.pinned (OpenSpec.ofChange fltFrom32Spec)

/-- ITS FALSE NEIGHBOUR: 'it returns false'. Refute it at one input. -/
def fltFrom32Wrong : ChangeSpec := { name := "fltFrom32", fn := fun _ => fun
  | [d1, d2] => { results := [.lit (.bool false)], args := [d1, d2] }
  | _ => none }
def FltFrom32WrongFalsely : Prop := fltFrom32Row.holds Try.pinned (OpenSpec.ofChange fltFrom32Wrong)

/-- 'vernierlaw17.FltTo32': WHATEVER THE INPUT: true; the input reads as it did. -/
def fltTo32Spec : ChangeSpec := { name := "fltTo32", fn := fun _ => fun
  | [d1, d2] => { results := [.lit (.bool true)], args := [d1, d2] }
  | _ => none }
def fltTo32Row : OpenClaim := { program := "ytpdpggndhmnggaa", sum := "6d53755e61faacb6f571fddd89194e0bd8cf7b3f79626afefdd3997cc45607df", func := "vernier/vernierlaw17.FltTo32", spec := "fltTo32", inPlace := ["math.Float64bits", "math.Float64frombits", "math.Float32frombits", "math.Float32bits"], apart := false }
def FltTo32Said : Prop := fltTo32Row.holds Try.pinned (OpenSpec.ofChange fltTo32Spec)

/-- ITS FALSE NEIGHBOUR: 'it returns false'. Refute it at one input. -/
def fltTo32Wrong : ChangeSpec := { name := "fltTo32", fn := fun _ => fun
  | [d1, d2] => { results := [.lit (.bool false)], args := [d1, d2] }
  | _ => none }
def FltTo32WrongFalsely : Prop := fltTo32Row.holds Try.pinned (OpenSpec.ofChange fltTo32Wrong)

/-- 'vernierlaw17.FltBoth': WHATEVER THE INPUT: true; the input reads as it did. -/
def fltBothSpec : ChangeSpec := { name := "fltBoth", fn := fun _ => fun
  | [d1, d2] => { results := [.lit (.bool true)], args := [d1, d2] }
  | _ => none }
def fltBothRow : OpenClaim := { program := "ytpdpggndhmnggaa", sum := "6d53755e61faacb6f571fddd89194e0bd8cf7b3f79626afefdd3997cc45607df", func := "vernier/vernierlaw17.FltBoth", spec := "fltBoth", inPlace := ["math.Float64bits", "math.Float64frombits", "math.Float32frombits"], apart := false }
def FltBothSaid : Prop := fltBothRow.holds Try.pinned (OpenSpec.ofChange fltBothSpec)

/-- ITS FALSE NEIGHBOUR: 'it returns false'. Refute it at one input. -/
def fltBothWrong : ChangeSpec := { name := "fltBoth", fn := fun _ => fun
  | [d1, d2] => { results := [.lit (.bool false)], args := [d1, d2] }
  | _ => none }
def FltBothWrongFalsely : Prop := fltBothRow.holds Try.pinned (OpenSpec.ofChange fltBothWrong)

/-- 'vernierlaw17.FltRise': WHATEVER THE INPUT: true; the input reads as it did. -/
def fltRiseSpec : ChangeSpec := { name := "fltRise", fn := fun _ => fun
  | [d1, d2, d3] => { results := [.lit (.bool true)], args := [d1, d2, d3] }
  | _ => none }
def fltRiseRow : OpenClaim := { program := "ytpdpggndhmnggaa", sum := "6d53755e61faacb6f571fddd89194e0bd8cf7b3f79626afefdd3997cc45607df", func := "vernier/vernierlaw17.FltRise", spec := "fltRise", inPlace := ["math.Float64bits", "math.Float64frombits", "math.Float32frombits"], apart := false }
def FltRiseSaid : Prop := fltRiseRow.holds Try.pinned (OpenSpec.ofChange fltRiseSpec)

/-- ITS FALSE NEIGHBOUR: 'it returns false'. Refute it at one input. -/
def fltRiseWrong : ChangeSpec := { name := "fltRise", fn := fun _ => fun
  | [d1, d2, d3] => { results := [.lit (.bool false)], args := [d1, d2, d3] }
  | _ => none }
def FltRiseWrongFalsely : Prop := fltRiseRow.holds Try.pinned (OpenSpec.ofChange fltRiseWrong)

/-- 'vernierlaw17.FltBack': WHATEVER THE INPUT: true; the input reads as it did. -/
def fltBackSpec : ChangeSpec := { name := "fltBack", fn := fun _ => fun
  | [d1, d2] => { results := [.lit (.bool true)], args := [d1, d2] }
  | _ => none }
def fltBackRow : OpenClaim := { program := "ytpdpggndhmnggaa", sum := "6d53755e61faacb6f571fddd89194e0bd8cf7b3f79626afefdd3997cc45607df", func := "vernier/vernierlaw17.FltBack", spec := "fltBack", inPlace := ["math.Float64bits", "math.Float64frombits", "math.Float32frombits"], apart := false }
def FltBackSaid : Prop := fltBackRow.holds Try.pinned (OpenSpec.ofChange fltBackSpec)

/-- ITS FALSE NEIGHBOUR: 'it returns false'. Refute it at one input. -/
def fltBackWrong : ChangeSpec := { name := "fltBack", fn := fun _ => fun
  | [d1, d2] => { results := [.lit (.bool false)], args := [d1, d2] }
  | _ => none }
def FltBackWrongFalsely : Prop := fltBackRow.holds Try.pinned (OpenSpec.ofChange fltBackWrong)

/- THE SECOND FORM. 'bulk': how many values and letters a reading holds, each counted each time it is reached (what is shared counts as often as it is met; a slice's spare places count too). A statement '..UptoSaid' is the law's where the arguments, and the package variables that the reading takes, are together of bulk at most 1048576: NARROWER than '..Said'. Prove '..Said' where nothing that the law and all that it calls make is longer than what came in: it says more and counts as full. Else prove '..UptoSaid'. A law counts once. -/
mutual
def uptoBulk {H : Type} : DataW H → Nat
  | .lit (.string bytes) => bytes.length + 1
  | .lit _ => 1
  | .nil => 1
  | .ptr d => uptoBulk d + 1
  | .slice elems spare => uptoBulkAll elems + uptoBulkAll spare + 1
  | .agg parts => uptoBulkAll parts + 1
  | .iface _ d => uptoBulk d + 1
  | .map entries => uptoBulkEntries entries + 1
  | .held _ => 1
def uptoBulkAll {H : Type} : List (DataW H) → Nat
  | [] => 0
  | d :: r => uptoBulk d + uptoBulkAll r
def uptoBulkEntries {H : Type} : List (Lit × DataW H) → Nat
  | [] => 0
  | x :: r => uptoBulkEntry x + uptoBulkEntries r
def uptoBulkEntry {H : Type} : Lit × DataW H → Nat
  | (.string bytes, d) => bytes.length + uptoBulk d + 1
  | (_, d) => uptoBulk d + 1
 end
def uptoSmall : (H : Type) → List (DataW H) → Bool := fun _ ds => decide (uptoBulkAll ds ≤ 1048576)
def OpenSpec.upto (s : _root_.Go.ChangeSpec) : _root_.Go.OpenSpec := { _root_.Go.OpenSpec.ofChange s with cond := some uptoSmall }

/-- 'vernierlaw17.FltFrom64', WHERE WHAT IT READS IS OF BULK AT MOST 1048576: true; the input reads as it did. -/
def fltFrom64UptoRow : OpenClaim := { program := "ytpdpggndhmnggaa", sum := "6d53755e61faacb6f571fddd89194e0bd8cf7b3f79626afefdd3997cc45607df", func := "vernier/vernierlaw17.FltFrom64", spec := "fltFrom64", inPlace := ["math.Float64bits", "math.Float64frombits", "math.Float32frombits"], apart := false, narrowed := true }
def FltFrom64UptoSaid : Prop := fltFrom64UptoRow.holds Try.pinned (OpenSpec.upto fltFrom64Spec)

/-- 'vernierlaw17.FltTo64', WHERE WHAT IT READS IS OF BULK AT MOST 1048576: true; the input reads as it did. -/
def fltTo64UptoRow : OpenClaim := { program := "ytpdpggndhmnggaa", sum := "6d53755e61faacb6f571fddd89194e0bd8cf7b3f79626afefdd3997cc45607df", func := "vernier/vernierlaw17.FltTo64", spec := "fltTo64", inPlace := ["math.Float64bits", "math.Float64frombits", "math.Float32frombits"], apart := false, narrowed := true }
def FltTo64UptoSaid : Prop := fltTo64UptoRow.holds Try.pinned (OpenSpec.upto fltTo64Spec)

/-- 'vernierlaw17.FltFrom32', WHERE WHAT IT READS IS OF BULK AT MOST 1048576: true; the input reads as it did. -/
def fltFrom32UptoRow : OpenClaim := { program := "ytpdpggndhmnggaa", sum := "6d53755e61faacb6f571fddd89194e0bd8cf7b3f79626afefdd3997cc45607df", func := "vernier/vernierlaw17.FltFrom32", spec := "fltFrom32", inPlace := ["math.Float64bits", "math.Float64frombits", "math.Float32frombits"], apart := false, narrowed := true }
def FltFrom32UptoSaid : Prop := fltFrom32UptoRow.holds Try.pinned (OpenSpec.upto fltFrom32Spec)

/-- 'vernierlaw17.FltTo32', WHERE WHAT IT READS IS OF BULK AT MOST 1048576: true; the input reads as it did. -/
def fltTo32UptoRow : OpenClaim := { program := "ytpdpggndhmnggaa", sum := "6d53755e61faacb6f571fddd89194e0bd8cf7b3f79626afefdd3997cc45607df", func := "vernier/vernierlaw17.FltTo32", spec := "fltTo32", inPlace := ["math.Float64bits", "math.Float64frombits", "math.Float32frombits", "math.Float32bits"], apart := false, narrowed := true }
def FltTo32UptoSaid : Prop := fltTo32UptoRow.holds Try.pinned (OpenSpec.upto fltTo32Spec)

/-- 'vernierlaw17.FltBoth', WHERE WHAT IT READS IS OF BULK AT MOST 1048576: true; the input reads as it did. -/
def fltBothUptoRow : OpenClaim := { program := "ytpdpggndhmnggaa", sum := "6d53755e61faacb6f571fddd89194e0bd8cf7b3f79626afefdd3997cc45607df", func := "vernier/vernierlaw17.FltBoth", spec := "fltBoth", inPlace := ["math.Float64bits", "math.Float64frombits", "math.Float32frombits"], apart := false, narrowed := true }
def FltBothUptoSaid : Prop := fltBothUptoRow.holds Try.pinned (OpenSpec.upto fltBothSpec)

/-- 'vernierlaw17.FltRise', WHERE WHAT IT READS IS OF BULK AT MOST 1048576: true; the input reads as it did. -/
def fltRiseUptoRow : OpenClaim := { program := "ytpdpggndhmnggaa", sum := "6d53755e61faacb6f571fddd89194e0bd8cf7b3f79626afefdd3997cc45607df", func := "vernier/vernierlaw17.FltRise", spec := "fltRise", inPlace := ["math.Float64bits", "math.Float64frombits", "math.Float32frombits"], apart := false, narrowed := true }
def FltRiseUptoSaid : Prop := fltRiseUptoRow.holds Try.pinned (OpenSpec.upto fltRiseSpec)

/-- 'vernierlaw17.FltBack', WHERE WHAT IT READS IS OF BULK AT MOST 1048576: true; the input reads as it did. -/
def fltBackUptoRow : OpenClaim := { program := "ytpdpggndhmnggaa", sum := "6d53755e61faacb6f571fddd89194e0bd8cf7b3f79626afefdd3997cc45607df", func := "vernier/vernierlaw17.FltBack", spec := "fltBack", inPlace := ["math.Float64bits", "math.Float64frombits", "math.Float32frombits"], apart := false, narrowed := true }
def FltBackUptoSaid : Prop := fltBackUptoRow.holds Try.pinned (OpenSpec.upto fltBackSpec)

end Rows
end Go.Proofs.Ytpdpggndhmnggaa
