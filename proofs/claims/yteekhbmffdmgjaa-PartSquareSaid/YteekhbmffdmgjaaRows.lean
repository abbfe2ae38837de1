/-
  No cell of these rows narrows 'for every input' (looked for: loops, veiled, ifaces, maps, wideKeys, modest, calm, conditions, laid).
  DERIVED. THE GIVEN ROWS OF THIS SEAT. 14 by the template 'for every input the law returns true; each argument reads behind the call as it read before'; 0 by the template 'total and deterministic' (their statements: YteekhbmffdmgjaaTotals.lean).
  GIVEN WITH THE SEED: the statements are not yours to turn. If you find one false, say at which input.
  Laid BY PROGRAM, IN A SANDBOX (cutbox-rows.mjs): the forced cells as the released guide's own fill.sh prints them over the translation cc9ae9abab1034d4… (all of the seat's roots in one cut). By AI agents, Wed Nov 11 2026. No macro, syntax, notation, axiom, sorry.
-/
import Derived.Test.YteekhbmffdmgjaaChecked
import GoSem.Claim
import GoSem.ClaimJoined
import GoSem.ClaimMapViews
import Derived.JoinedTies
import Derived.KernelRfl
namespace Go.Proofs.Yteekhbmffdmgjaa
/- THE CELL 'sum', in the pinned program and in every row, IS THE sha256 OF THE DUMP (.gsa) THAT YteekhbmffdmgjaaProg.lean LOADS. Nothing in Lean hashes anything: it is a label: what it is worth is what the hold of that sum in a sandbox is worth. -/
noncomputable def Try.pinned : Pinned := { name := "yteekhbmffdmgjaa", sum := "cc9ae9abab1034d43035b68c0d391111af17c7e7b71d2ebfe76f7544d7382a3e", checked := Try.checked }
namespace Rows
def none {H : Type} : Left H := { results := [], args := [] }

/-- 'vernierlaw08.OrderCmps': WHATEVER THE INPUT: true; the input reads as it did. -/
def orderCmpsSpec : ChangeSpec := { name := "orderCmps", fn := fun _ => fun
  | [d1, d2, d3] => { results := [.lit (.bool true)], args := [d1, d2, d3] }
  | _ => none }
def orderCmpsRow : OpenClaim := { program := "yteekhbmffdmgjaa", sum := "cc9ae9abab1034d43035b68c0d391111af17c7e7b71d2ebfe76f7544d7382a3e", func := "vernier/vernierlaw08.OrderCmps", spec := "orderCmps", apart := false }
def OrderCmpsSaid : Prop := orderCmpsRow.holds Try.pinned (OpenSpec.ofChange orderCmpsSpec)

/-- ITS FALSE NEIGHBOUR: 'it returns false'. Refute it at one input. -/
def orderCmpsWrong : ChangeSpec := { name := "orderCmps", fn := fun _ => fun
  | [d1, d2, d3] => { results := [.lit (.bool false)], args := [d1, d2, d3] }
  | _ => none }
def OrderCmpsWrongFalsely : Prop := orderCmpsRow.holds Try.pinned (OpenSpec.ofChange orderCmpsWrong)

/-- 'vernierlaw08.OrderValues': WHATEVER THE INPUT: true; the input reads as it did. -/
def orderValuesSpec : ChangeSpec := { name := "orderValues", fn := fun _ => fun
  | [d1, d2, d3] => { results := [.lit (.bool true)], args := [d1, d2, d3] }
  | _ => none }
def orderValuesRow : OpenClaim := { program := "yteekhbmffdmgjaa", sum := "cc9ae9abab1034d43035b68c0d391111af17c7e7b71d2ebfe76f7544d7382a3e", func := "vernier/vernierlaw08.OrderValues", spec := "orderValues", apart := false }
def OrderValuesSaid : Prop := orderValuesRow.holds Try.pinned (OpenSpec.ofChange orderValuesSpec)

/-- ITS FALSE NEIGHBOUR: 'it returns false'. Refute it at one input. -/
def orderValuesWrong : ChangeSpec := { name := "orderValues", fn := fun _ => fun
  | [d1, d2, d3] => { results := [.lit (.bool false)], args := [d1, d2, d3] }
  | _ => none }
def OrderValuesWrongFalsely : Prop := orderValuesRow.holds Try.pinned (OpenSpec.ofChange orderValuesWrong)

/-- 'vernierlaw08.OrderNexts': WHATEVER THE INPUT: true; the input reads as it did. -/
def orderNextsSpec : ChangeSpec := { name := "orderNexts", fn := fun _ => fun
  | [d1, d2] => { results := [.lit (.bool true)], args := [d1, d2] }
  | _ => none }
def orderNextsRow : OpenClaim := { program := "yteekhbmffdmgjaa", sum := "cc9ae9abab1034d43035b68c0d391111af17c7e7b71d2ebfe76f7544d7382a3e", func := "vernier/vernierlaw08.OrderNexts", spec := "orderNexts", apart := false }
def OrderNextsSaid : Prop := orderNextsRow.holds Try.pinned (OpenSpec.ofChange orderNextsSpec)

/-- ITS FALSE NEIGHBOUR: 'it returns false'. Refute it at one input. -/
def orderNextsWrong : ChangeSpec := { name := "orderNexts", fn := fun _ => fun
  | [d1, d2] => { results := [.lit (.bool false)], args := [d1, d2] }
  | _ => none }
def OrderNextsWrongFalsely : Prop := orderNextsRow.holds Try.pinned (OpenSpec.ofChange orderNextsWrong)

/-- 'vernierlaw08.OrderFars': WHATEVER THE INPUT: true; the input reads as it did. -/
def orderFarsSpec : ChangeSpec := { name := "orderFars", fn := fun _ => fun
  | [d1, d2, d3] => { results := [.lit (.bool true)], args := [d1, d2, d3] }
  | _ => none }
def orderFarsRow : OpenClaim := { program := "yteekhbmffdmgjaa", sum := "cc9ae9abab1034d43035b68c0d391111af17c7e7b71d2ebfe76f7544d7382a3e", func := "vernier/vernierlaw08.OrderFars", spec := "orderFars", apart := false }
def OrderFarsSaid : Prop := orderFarsRow.holds Try.pinned (OpenSpec.ofChange orderFarsSpec)

/-- ITS FALSE NEIGHBOUR: 'it returns false'. Refute it at one input. -/
def orderFarsWrong : ChangeSpec := { name := "orderFars", fn := fun _ => fun
  | [d1, d2, d3] => { results := [.lit (.bool false)], args := [d1, d2, d3] }
  | _ => none }
def OrderFarsWrongFalsely : Prop := orderFarsRow.holds Try.pinned (OpenSpec.ofChange orderFarsWrong)

/-- 'vernierlaw08.OrderPicks': WHATEVER THE INPUT: true; the input reads as it did. -/
def orderPicksSpec : ChangeSpec := { name := "orderPicks", fn := fun _ => fun
  | [d1, d2, d3] => { results := [.lit (.bool true)], args := [d1, d2, d3] }
  | _ => none }
def orderPicksRow : OpenClaim := { program := "yteekhbmffdmgjaa", sum := "cc9ae9abab1034d43035b68c0d391111af17c7e7b71d2ebfe76f7544d7382a3e", func := "vernier/vernierlaw08.OrderPicks", spec := "orderPicks", apart := false }
def OrderPicksSaid : Prop := orderPicksRow.holds Try.pinned (OpenSpec.ofChange orderPicksSpec)

/-- ITS FALSE NEIGHBOUR: 'it returns false'. Refute it at one input. -/
def orderPicksWrong : ChangeSpec := { name := "orderPicks", fn := fun _ => fun
  | [d1, d2, d3] => { results := [.lit (.bool false)], args := [d1, d2, d3] }
  | _ => none }
def OrderPicksWrongFalsely : Prop := orderPicksRow.holds Try.pinned (OpenSpec.ofChange orderPicksWrong)

/-- 'vernierlaw08.OrderSigns': WHATEVER THE INPUT: true; the input reads as it did. -/
def orderSignsSpec : ChangeSpec := { name := "orderSigns", fn := fun _ => fun
  | [d1, d2] => { results := [.lit (.bool true)], args := [d1, d2] }
  | _ => none }
def orderSignsRow : OpenClaim := { program := "yteekhbmffdmgjaa", sum := "cc9ae9abab1034d43035b68c0d391111af17c7e7b71d2ebfe76f7544d7382a3e", func := "vernier/vernierlaw08.OrderSigns", spec := "orderSigns", apart := false }
def OrderSignsSaid : Prop := orderSignsRow.holds Try.pinned (OpenSpec.ofChange orderSignsSpec)

/-- ITS FALSE NEIGHBOUR: 'it returns false'. Refute it at one input. -/
def orderSignsWrong : ChangeSpec := { name := "orderSigns", fn := fun _ => fun
  | [d1, d2] => { results := [.lit (.bool false)], args := [d1, d2] }
  | _ => none }
def OrderSignsWrongFalsely : Prop := orderSignsRow.holds Try.pinned (OpenSpec.ofChange orderSignsWrong)

/-- 'vernierlaw08.OrderClamps': WHATEVER THE INPUT: true; the input reads as it did. -/
def orderClampsSpec : ChangeSpec := { name := "orderClamps", fn := fun _ => fun
  | [d1, d2, d3, d4] => { results := [.lit (.bool true)], args := [d1, d2, d3, d4] }
  | _ => none }
def orderClampsRow : OpenClaim := { program := "yteekhbmffdmgjaa", sum := "cc9ae9abab1034d43035b68c0d391111af17c7e7b71d2ebfe76f7544d7382a3e", func := "vernier/vernierlaw08.OrderClamps", spec := "orderClamps", apart := false }
def OrderClampsSaid : Prop := orderClampsRow.holds Try.pinned (OpenSpec.ofChange orderClampsSpec)

/-- ITS FALSE NEIGHBOUR: 'it returns false'. Refute it at one input. -/
def orderClampsWrong : ChangeSpec := { name := "orderClamps", fn := fun _ => fun
  | [d1, d2, d3, d4] => { results := [.lit (.bool false)], args := [d1, d2, d3, d4] }
  | _ => none }
def OrderClampsWrongFalsely : Prop := orderClampsRow.holds Try.pinned (OpenSpec.ofChange orderClampsWrong)

/-- 'vernierlaw03.PartDivs': WHATEVER THE INPUT: true; the input reads as it did. -/
def partDivsSpec : ChangeSpec := { name := "partDivs", fn := fun _ => fun
  | [d1, d2] => { results := [.lit (.bool true)], args := [d1, d2] }
  | _ => none }
def partDivsRow : OpenClaim := { program := "yteekhbmffdmgjaa", sum := "cc9ae9abab1034d43035b68c0d391111af17c7e7b71d2ebfe76f7544d7382a3e", func := "vernier/vernierlaw03.PartDivs", spec := "partDivs", inPlace := ["math/bits.Sub64"], named := ["math/bits.divideError", "math/bits.overflowError"], apart := false }
def PartDivsSaid : Prop := partDivsRow.holds Try.pinned (OpenSpec.ofChange partDivsSpec)

/-- ITS FALSE NEIGHBOUR: 'it returns false'. Refute it at one input. -/
def partDivsWrong : ChangeSpec := { name := "partDivs", fn := fun _ => fun
  | [d1, d2] => { results := [.lit (.bool false)], args := [d1, d2] }
  | _ => none }
def PartDivsWrongFalsely : Prop := partDivsRow.holds Try.pinned (OpenSpec.ofChange partDivsWrong)

/-- 'vernierlaw03.PartRoots': WHATEVER THE INPUT: true; the input reads as it did. -/
def partRootsSpec : ChangeSpec := { name := "partRoots", fn := fun _ => fun
  | [d] => { results := [.lit (.bool true)], args := [d] }
  | _ => none }
def partRootsRow : OpenClaim := { program := "yteekhbmffdmgjaa", sum := "cc9ae9abab1034d43035b68c0d391111af17c7e7b71d2ebfe76f7544d7382a3e", func := "vernier/vernierlaw03.PartRoots", spec := "partRoots", inPlace := ["math/bits.Sub64"], named := ["math/bits.divideError", "math/bits.overflowError"], apart := false }
def PartRootsSaid : Prop := partRootsRow.holds Try.pinned (OpenSpec.ofChange partRootsSpec)

/-- ITS FALSE NEIGHBOUR: 'it returns false'. Refute it at one input. -/
def partRootsWrong : ChangeSpec := { name := "partRoots", fn := fun _ => fun
  | [d] => { results := [.lit (.bool false)], args := [d] }
  | _ => none }
def PartRootsWrongFalsely : Prop := partRootsRow.holds Try.pinned (OpenSpec.ofChange partRootsWrong)

/-- 'vernierlaw08.OrderChain': WHATEVER THE INPUT: true; the input reads as it did. -/
def orderChainSpec : ChangeSpec := { name := "orderChain", fn := fun _ => fun
  | [d1, d2, d3] => { results := [.lit (.bool true)], args := [d1, d2, d3] }
  | _ => none }
def orderChainRow : OpenClaim := { program := "yteekhbmffdmgjaa", sum := "cc9ae9abab1034d43035b68c0d391111af17c7e7b71d2ebfe76f7544d7382a3e", func := "vernier/vernierlaw08.OrderChain", spec := "orderChain", apart := false }
def OrderChainSaid : Prop := orderChainRow.holds Try.pinned (OpenSpec.ofChange orderChainSpec)

/-- ITS FALSE NEIGHBOUR: 'it returns false'. Refute it at one input. -/
def orderChainWrong : ChangeSpec := { name := "orderChain", fn := fun _ => fun
  | [d1, d2, d3] => { results := [.lit (.bool false)], args := [d1, d2, d3] }
  | _ => none }
def OrderChainWrongFalsely : Prop := orderChainRow.holds Try.pinned (OpenSpec.ofChange orderChainWrong)

/-- 'vernierlaw03.PartLongs': WHATEVER THE INPUT: true; the input reads as it did. -/
def partLongsSpec : ChangeSpec := { name := "partLongs", fn := fun _ => fun
  | [d1, d2] => { results := [.lit (.bool true)], args := [d1, d2] }
  | _ => none }
def partLongsRow : OpenClaim := { program := "yteekhbmffdmgjaa", sum := "cc9ae9abab1034d43035b68c0d391111af17c7e7b71d2ebfe76f7544d7382a3e", func := "vernier/vernierlaw03.PartLongs", spec := "partLongs", inPlace := ["math/bits.Sub64"], named := ["math/bits.divideError", "math/bits.overflowError"], apart := false }
def PartLongsSaid : Prop := partLongsRow.holds Try.pinned (OpenSpec.ofChange partLongsSpec)

/-- ITS FALSE NEIGHBOUR: 'it returns false'. Refute it at one input. -/
def partLongsWrong : ChangeSpec := { name := "partLongs", fn := fun _ => fun
  | [d1, d2] => { results := [.lit (.bool false)], args := [d1, d2] }
  | _ => none }
def PartLongsWrongFalsely : Prop := partLongsRow.holds Try.pinned (OpenSpec.ofChange partLongsWrong)

/-- 'vernierlaw03.PartSquare': WHATEVER THE INPUT: true; the input reads as it did. -/
def partSquareSpec : ChangeSpec := { name := "partSquare", fn := fun _ => fun
  | [d1, d2] => { results := [.lit (.bool true)], args := [d1, d2] }
  | _ => none }
def partSquareRow : OpenClaim := { program := "yteekhbmffdmgjaa", sum := "cc9ae9abab1034d43035b68c0d391111af17c7e7b71d2ebfe76f7544d7382a3e", func := "vernier/vernierlaw03.PartSquare", spec := "partSquare", inPlace := ["math/bits.Sub64", "math/bits.Add64"], named := ["math/bits.divideError", "math/bits.overflowError"], apart := false }
def PartSquareSaid : Prop := partSquareRow.holds Try.pinned (OpenSpec.ofChange partSquareSpec)

/-- ITS FALSE NEIGHBOUR: 'it returns false'. Refute it at one input. -/
def partSquareWrong : ChangeSpec := { name := "partSquare", fn := fun _ => fun
  | [d1, d2] => { results := [.lit (.bool false)], args := [d1, d2] }
  | _ => none }
def PartSquareWrongFalsely : Prop := partSquareRow.holds Try.pinned (OpenSpec.ofChange partSquareWrong)

/-- 'vernierlaw03.PartWides': WHATEVER THE INPUT: true; the input reads as it did. -/
def partWidesSpec : ChangeSpec := { name := "partWides", fn := fun _ => fun
  | [d1, d2] => { results := [.lit (.bool true)], args := [d1, d2] }
  | _ => none }
def partWidesRow : OpenClaim := { program := "yteekhbmffdmgjaa", sum := "cc9ae9abab1034d43035b68c0d391111af17c7e7b71d2ebfe76f7544d7382a3e", func := "vernier/vernierlaw03.PartWides", spec := "partWides", inPlace := ["math/bits.Sub64"], named := ["math/bits.divideError", "math/bits.overflowError"], apart := false }
def PartWidesSaid : Prop := partWidesRow.holds Try.pinned (OpenSpec.ofChange partWidesSpec)

/-- ITS FALSE NEIGHBOUR: 'it returns false'. Refute it at one input. -/
def partWidesWrong : ChangeSpec := { name := "partWides", fn := fun _ => fun
  | [d1, d2] => { results := [.lit (.bool false)], args := [d1, d2] }
  | _ => none }
def PartWidesWrongFalsely : Prop := partWidesRow.holds Try.pinned (OpenSpec.ofChange partWidesWrong)

/-- 'vernierlaw03.PartBack': WHATEVER THE INPUT: true; the input reads as it did. -/
def partBackSpec : ChangeSpec := { name := "partBack", fn := fun _ => fun
  | [d1, d2] => { results := [.lit (.bool true)], args := [d1, d2] }
  | _ => none }
def partBackRow : OpenClaim := { program := "yteekhbmffdmgjaa", sum := "cc9ae9abab1034d43035b68c0d391111af17c7e7b71d2ebfe76f7544d7382a3e", func := "vernier/vernierlaw03.PartBack", spec := "partBack", inPlace := ["math/bits.Sub64", "math/bits.Add64"], named := ["math/bits.divideError", "math/bits.overflowError"], apart := false }
def PartBackSaid : Prop := partBackRow.holds Try.pinned (OpenSpec.ofChange partBackSpec)

/-- ITS FALSE NEIGHBOUR: 'it returns false'. Refute it at one input. -/
def partBackWrong : ChangeSpec := { name := "partBack", fn := fun _ => fun
  | [d1, d2] => { results := [.lit (.bool false)], args := [d1, d2] }
  | _ => none }
def PartBackWrongFalsely : Prop := partBackRow.holds Try.pinned (OpenSpec.ofChange partBackWrong)

/- THE SECOND FORM. 'bulk': how many values and letters a reading holds, each counted each time it is reached (what is shared counts as often as it is met; a slice's spare places count too). A statement '..UptoSaid' is the law's where the arguments, and the package variables that the reading takes, are together of bulk at most 1048576: NARROWER than '..Said'. Prove '..Said' where nothing that the law and all that it calls make is longer than what came in: it says more and counts as full. Else prove '..UptoSaid'. A law counts once. -/
mutual
def uptoBulk {H : Type} : DataW H → Nat
  | .lit (.string bytes) => bytes.length + 1
  | .lit _ => 1
  | .nil => 1
  | .ptr d => uptoBulk d + 1
  | .slice elems spare => uptoBulkAll elems + uptoBulkAll spare + 1
  | .agg parts => uptoBulkAll parts + 1
  | .iface _ d => uptoBulk d + 1
  | .map entries => uptoBulkEntries entries + 1
  | .held _ => 1
def uptoBulkAll {H : Type} : List (DataW H) → Nat
  | [] => 0
  | d :: r => uptoBulk d + uptoBulkAll r
def uptoBulkEntries {H : Type} : List (Lit × DataW H) → Nat
  | [] => 0
  | x :: r => uptoBulkEntry x + uptoBulkEntries r
def uptoBulkEntry {H : Type} : Lit × DataW H → Nat
  | (.string bytes, d) => bytes.length + uptoBulk d + 1
  | (_, d) => uptoBulk d + 1
 end
def uptoSmall : (H : Type) → List (DataW H) → Bool := fun _ ds => decide (uptoBulkAll ds ≤ 1048576)
def OpenSpec.upto (s : _root_.Go.ChangeSpec) : _root_.Go.OpenSpec := { _root_.Go.OpenSpec.ofChange s with cond := some uptoSmall }

/-- 'vernierlaw08.OrderCmps', WHERE WHAT IT READS IS OF BULK AT MOST 1048576: true; the input reads as it did. -/
def orderCmpsUptoRow : OpenClaim := { program := "yteekhbmffdmgjaa", sum := "cc9ae9abab1034d43035b68c0d391111af17c7e7b71d2ebfe76f7544d7382a3e", func := "vernier/vernierlaw08.OrderCmps", spec := "orderCmps", apart := false, narrowed := true }
def OrderCmpsUptoSaid : Prop := orderCmpsUptoRow.holds Try.pinned (OpenSpec.upto orderCmpsSpec)

/-- 'vernierlaw08.OrderValues', WHERE WHAT IT READS IS OF BULK AT MOST 1048576: true; the input reads as it did. -/
def orderValuesUptoRow : OpenClaim := { program := "yteekhbmffdmgjaa", sum := "cc9ae9abab1034d43035b68c0d391111af17c7e7b71d2ebfe76f7544d7382a3e", func := "vernier/vernierlaw08.OrderValues", spec := "orderValues", apart := false, narrowed := true }
def OrderValuesUptoSaid : Prop := orderValuesUptoRow.holds Try.pinned (OpenSpec.upto orderValuesSpec)

/-- 'vernierlaw08.OrderNexts', WHERE WHAT IT READS IS OF BULK AT MOST 1048576: true; the input reads as it did. -/
def orderNextsUptoRow : OpenClaim := { program := "yteekhbmffdmgjaa", sum := "cc9ae9abab1034d43035b68c0d391111af17c7e7b71d2ebfe76f7544d7382a3e", func := "vernier/vernierlaw08.OrderNexts", spec := "orderNexts", apart := false, narrowed := true }
def OrderNextsUptoSaid : Prop := orderNextsUptoRow.holds Try.pinned (OpenSpec.upto orderNextsSpec)

/-- 'vernierlaw08.OrderFars', WHERE WHAT IT READS IS OF BULK AT MOST 1048576: true; the input reads as it did. -/
def orderFarsUptoRow : OpenClaim := { program := "yteekhbmffdmgjaa", sum := "cc9ae9abab1034d43035b68c0d391111af17c7e7b71d2ebfe76f7544d7382a3e", func := "vernier/vernierlaw08.OrderFars", spec := "orderFars", apart := false, narrowed := true }
def OrderFarsUptoSaid : Prop := orderFarsUptoRow.holds Try.pinned (OpenSpec.upto orderFarsSpec)

/-- 'vernierlaw08.OrderPicks', WHERE WHAT IT READS IS OF BULK AT MOST 1048576: true; the input reads as it did. -/
def orderPicksUptoRow : OpenClaim := { program := "yteekhbmffdmgjaa", sum := "cc9ae9abab1034d43035b68c0d391111af17c7e7b71d2ebfe76f7544d7382a3e", func := "vernier/vernierlaw08.OrderPicks", spec := "orderPicks", apart := false, narrowed := true }
def OrderPicksUptoSaid : Prop := orderPicksUptoRow.holds Try.pinned (OpenSpec.upto orderPicksSpec)

/-- 'vernierlaw08.OrderSigns', WHERE WHAT IT READS IS OF BULK AT MOST 1048576: true; the input reads as it did. -/
def orderSignsUptoRow : OpenClaim := { program := "yteekhbmffdmgjaa", sum := "cc9ae9abab1034d43035b68c0d391111af17c7e7b71d2ebfe76f7544d7382a3e", func := "vernier/vernierlaw08.OrderSigns", spec := "orderSigns", apart := false, narrowed := true }
def OrderSignsUptoSaid : Prop := orderSignsUptoRow.holds Try.pinned (OpenSpec.upto orderSignsSpec)

/-- 'vernierlaw08.OrderClamps', WHERE WHAT IT READS IS OF BULK AT MOST 1048576: true; the input reads as it did. -/
def orderClampsUptoRow : OpenClaim := { program := "yteekhbmffdmgjaa", sum := "cc9ae9abab1034d43035b68c0d391111af17c7e7b71d2ebfe76f7544d7382a3e", func := "vernier/vernierlaw08.OrderClamps", spec := "orderClamps", apart := false, narrowed := true }
def OrderClampsUptoSaid : Prop := orderClampsUptoRow.holds Try.pinned (OpenSpec.upto orderClampsSpec)

/-- 'vernierlaw03.PartDivs', WHERE WHAT IT READS IS OF BULK AT MOST 1048576: true; the input reads as it did. -/
def partDivsUptoRow : OpenClaim := { program := "yteekhbmffdmgjaa", sum := "cc9ae9abab1034d43035b68c0d391111af17c7e7b71d2ebfe76f7544d7382a3e", func := "vernier/vernierlaw03.PartDivs", spec := "partDivs", inPlace := ["math/bits.Sub64"], named := ["math/bits.divideError", "math/bits.overflowError"], apart := false, narrowed := true }
def PartDivsUptoSaid : Prop := partDivsUptoRow.holds Try.pinned (OpenSpec.upto partDivsSpec)

/-- 'vernierlaw03.PartRoots', WHERE WHAT IT READS IS OF BULK AT MOST 1048576: true; the input reads as it did. -/
def partRootsUptoRow : OpenClaim := { program := "yteekhbmffdmgjaa", sum := "cc9ae9abab1034d43035b68c0d391111af17c7e7b71d2ebfe76f7544d7382a3e", func := "vernier/vernierlaw03.PartRoots", spec := "partRoots", inPlace := ["math/bits.Sub64"], named := ["math/bits.divideError", "math/bits.overflowError"], apart := false, narrowed := true }
def PartRootsUptoSaid : Prop := partRootsUptoRow.holds Try.pinned (OpenSpec.upto partRootsSpec)

/-- 'vernierlaw08.OrderChain', WHERE WHAT IT READS IS OF BULK AT MOST 1048576: true; the input reads as it did. -/
def orderChainUptoRow : OpenClaim := { program := "yteekhbmffdmgjaa", sum := "cc9ae9abab1034d43035b68c0d391111af17c7e7b71d2ebfe76f7544d7382a3e", func := "vernier/vernierlaw08.OrderChain", spec := "orderChain", apart := false, narrowed := true }
def OrderChainUptoSaid : Prop := orderChainUptoRow.holds Try.pinned (OpenSpec.upto orderChainSpec)

/-- 'vernierlaw03.PartLongs', WHERE WHAT IT READS IS OF BULK AT MOST 1048576: true; the input reads as it did. -/
def partLongsUptoRow : OpenClaim := { program := "yteekhbmffdmgjaa", sum := "cc9ae9abab1034d43035b68c0d391111af17c7e7b71d2ebfe76f7544d7382a3e", func := "vernier/vernierlaw03.PartLongs", spec := "partLongs", inPlace := ["math/bits.Sub64"], named := ["math/bits.divideError", "math/bits.overflowError"], apart := false, narrowed := true }
def PartLongsUptoSaid : Prop := partLongsUptoRow.holds Try.pinned (OpenSpec.upto partLongsSpec)

/-- 'vernierlaw03.PartSquare', WHERE WHAT IT READS IS OF BULK AT MOST 1048576: true; the input reads as it did. -/
def partSquareUptoRow : OpenClaim := { program := "yteekhbmffdmgjaa", sum := "cc9ae9abab1034d43035b68c0d391111af17c7e7b71d2ebfe76f7544d7382a3e", func := "vernier/vernierlaw03.PartSquare", spec := "partSquare", inPlace := ["math/bits.Sub64", "math/bits.Add64"], named := ["math/bits.divideError", "math/bits.overflowError"], apart := false, narrowed := true }
def PartSquareUptoSaid : Prop := partSquareUptoRow.holds Try.pinned (OpenSpec.upto partSquareSpec)

/-- 'vernierlaw03.PartWides', WHERE WHAT IT READS IS OF BULK AT MOST 1048576: true; the input reads as it did. -/
def partWidesUptoRow : OpenClaim := { program := "yteekhbmffdmgjaa", sum := "cc9ae9abab1034d43035b68c0d391111af17c7e7b71d2ebfe76f7544d7382a3e", func := "vernier/vernierlaw03.PartWides", spec := "partWides", inPlace := ["math/bits.Sub64"], named := ["math/bits.divideError", "math/bits.overflowError"], apart := false, narrowed := true }
def PartWidesUptoSaid : Prop := partWidesUptoRow.holds Try.pinned (OpenSpec.upto partWidesSpec)

/-- 'vernierlaw03.PartBack', WHERE WHAT IT READS IS OF BULK AT MOST 1048576: true; the input reads as it did. -/
def partBackUptoRow : OpenClaim := { program := "yteekhbmffdmgjaa", sum := "cc9ae9abab1034d43035b68c0d391111af17c7e7b71d2ebfe76f7544d7382a3e", func := "vernier/vernierlaw03.PartBack", spec := "partBack", inPlace := ["math/bits.Sub64", "math/bits.Add64"], named := ["math/bits.divideError", "math/bits.overflowError"], apart := false, narrowed := true }
def PartBackUptoSaid : Prop := partBackUptoRow.holds Try.pinned (OpenSpec.upto partBackSpec)

end Rows
end Go.Proofs.Yteekhbmffdmgjaa
