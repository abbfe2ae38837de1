/- The row of the law vernierlaw03_PartBack: called with any arguments of its parameters' types the law answers true, and leaves them as they are; no further conditions. (Written by a program of this repo, out of the pure statement and the walk.) -/
import Derived.Test.YtcnpnnodgfpheaaRows
import Derived.Deep.Fields
import Derived.Test.YtcnpnnodgfpheaaF11
import Derived.Test.YtcnpnnodgfpheaaPurePartBack
import Derived.WalkKit
import Derived.ProofKit
import Derived.OpenShut
import Derived.ShutString
import Derived.ChangeOld
import Derived.Below
import Derived.SizedLaws
namespace Go.Proofs.Ytcnpnnodgfpheaa.partBack
open Go.ChangeShapes Go.WideShapes Go.ChangeAt Go.RowKit
open Go.ChangeMaps (open_string shut_string)
set_option linter.unusedVariables false
theorem own : ownKnob Try.prog.godebug = none := by kernel_rfl
theorem fieldsX {H : Type} {enc : TypeId × Value → H} {w : World} {base : Nat} {spare : Nat → Bool} {held : Bool} {t : TypeId} {fs : Array Field} {fuel : Nat} {l : List Value} {x : DataW H × List MemPlace} (hs : Try.prog.underlying t = some (.struct fs)) (hone : Go.Deep.oneCellFields Try.prog fs = true)
    (h : DataW.trod enc Try.prog w base spare held fuel t l = some x) : ∃ (xs : List (DataW H × List MemPlace)) (n : Nat), x = (.agg (xs.map (·.1)), xs.flatMap (·.2)) ∧ xs.length = fs.size ∧ ∀ (i : Nat) (f : Field), fs[i]? = some f → DataW.trod enc Try.prog w base spare held n f.type ((l.drop i).take 1) = xs[i]? := by
  obtain ⟨xs, n, _, hx, _, hlen, hg⟩ := DataW.trod_struct hs h
  refine ⟨xs, n, hx, hlen, fun i f hf => ?_⟩
  have g := hg i f hf
  obtain ⟨o, k⟩ := Go.Deep.hone_of hone i f hf
  rw [o, k] at g
  exact g
theorem mapM_at {α β : Type} {g : α → Option β} : ∀ {as_ : List α} {xs : List β}, xs.length = as_.length → (∀ (i : Nat) (a : α), as_[i]? = some a → g a = xs[i]?) → as_.mapM g = some xs := by
  intro as_
  induction as_ with
  | nil => intro xs h _; obtain rfl := List.length_eq_zero_iff.mp h; rfl
  | cons a l ih =>
    intro xs h k
    cases xs with
    | nil => simp at h
    | cons y ys =>
      have h0 : g a = some y := k 0 a rfl
      have h1 := ih (xs := ys) (by simpa using h) (fun i b hb => k (i + 1) b (by simpa using hb))
      rw [List.mapM_cons, h0, h1]
      rfl
theorem shutX {H : Type} {enc : TypeId × Value → H} {w : World} {base : Nat} {spare : Nat → Bool} {held : Bool} {t : TypeId} {fs : Array Field} {cs : List Value} {xs : List (DataW H × List MemPlace)} (hs : Try.prog.underlying t = some (.struct fs)) (hone : Go.Deep.oneCellFields Try.prog fs = true) (hl : cs.length = Try.prog.cellsOf t) (hx : xs.length = fs.size)
    (h : ∀ (i : Nat) (f : Field), fs[i]? = some f → DataW.trod enc Try.prog w base spare held 1 f.type ((cs.drop i).take 1) = xs[i]?) : DataW.trod enc Try.prog w base spare held 2 t cs = some (.agg (xs.map (·.1)), xs.flatMap (·.2)) := by
  refine trod_struct_mk hs hl (mapM_at (by simpa using hx) fun i f hf => ?_)
  have hf' : fs[i]? = some f := by simpa using hf
  obtain ⟨o, k⟩ := Go.Deep.hone_of hone i f hf'
  rw [o, k]
  exact h i f hf'
theorem cells24 : Try.prog.cellsOf 24 = 2 := by kernel_rfl
set_option maxRecDepth 100000 in
theorem open_24 {H : Type} {enc : TypeId × Value → H} {w : World} {base : Nat} {spare : Nat → Bool} {held : Bool} {r : Reach} {b0 : Nat} {v : Value} {d : DataW H} {p : List MemPlace} (hv : Value.okWide Try.prog w r b0 24 v) (h : DataW.Trod enc Try.prog w base spare held 24 v d p) :
    ∃ (x0 : Int) (x1 : Int), v = .agg #[.int .u64 x0, .int .u64 x1] ∧ d = .agg [.lit (.int .u64 x0), .lit (.int .u64 x1)] ∧ p = [] ∧ (Lit.int .u64 x0).wf = true ∧ (Lit.int .u64 x1).wf = true := by
  obtain ⟨cs, rfl, hsz⟩ := okWide_struct Try.underlying24 hv
  obtain ⟨l⟩ := cs
  obtain ⟨fuel, hf⟩ := h
  obtain ⟨xs, n, hx, hlen, hg⟩ := fieldsX Try.underlying24 (by kernel_rfl) hf
  match l, hsz.trans cells24, xs, hlen with
  | [c0, c1], _, [y0, y1], _ =>
    have g0 := hg 0 _ rfl
    obtain ⟨x0, e0, f0, q0⟩ := DataW.trod_int Try.underlying22 g0
    obtain rfl : c0 = .int .u64 x0 := by simpa [Value.cells] using e0
    subst f0
    have g1 := hg 1 _ rfl
    obtain ⟨x1, e1, f1, q1⟩ := DataW.trod_int Try.underlying22 g1
    obtain rfl : c1 = .int .u64 x1 := by simpa [Value.cells] using e1
    subst f1
    simp only [Prod.mk.injEq] at hx
    exact ⟨x0, x1, rfl, by simpa using hx.1, by simpa using hx.2, q0, q1⟩
set_option maxRecDepth 100000 in
theorem shut_24 {H : Type} {enc : TypeId × Value → H} {w : World} {base : Nat} {spare : Nat → Bool} {held : Bool} (x0 : Int) (x1 : Int) (q0 : (Lit.int .u64 x0).wf = true) (q1 : (Lit.int .u64 x1).wf = true) : DataW.Trod enc Try.prog w base spare held 24 (.agg #[.int .u64 x0, .int .u64 x1]) (.agg [.lit (.int .u64 x0), .lit (.int .u64 x1)]) [] := by
  have z0 := trod_int_mk (enc := enc) (w := w) (base := base) (spare := spare) (held := held) (k := .u64) (n := x0) 0 Try.underlying22 q0
  have z1 := trod_int_mk (enc := enc) (w := w) (base := base) (spare := spare) (held := held) (k := .u64) (n := x1) 0 Try.underlying22 q1
  have t_ := shutX (xs := [(.lit (.int .u64 x0), []), (.lit (.int .u64 x1), [])]) (cs := [.int .u64 x0, .int .u64 x1]) Try.underlying24 (by kernel_rfl) (by rw [cells24]; rfl) rfl (fun i f hf => by
    match i, hf with
    | 0, hf => cases hf; exact z0
    | 1, hf => cases hf; exact z1
    | i + 2, hf => simp at hf)
  exact ⟨2, by simpa [Value.cells] using t_⟩
set_option maxRecDepth 100000 in
theorem lifted (os : Os) (started : os.Started) (H : Type) (enc : TypeId × Value → H) :
    ReturnsInHanded {} Try.checked os 4 .any (Rows.partBackSpec.pre6 enc Try.prog Try.f4 Rows.partBackRow.domain false) (Rows.partBackSpec.post enc Try.prog Try.f4 false true false false) := by
  refine returnsInHanded_of_change_sized (C := Try.checked) own started (by kernel_rfl) Try.func4
    (ChangeSpec.witness6 (enc := enc) (C := Try.checked) false ⟨#[], #[.agg #[.int .u64 0, .int .u64 0], .int .u64 0], []⟩ 8 (by kernel_rfl) (by kernel_rfl) (by kernel_rfl) (by kernel_rfl)) ?_
  intro W base args ds gs before hval0 hW hcnd hsz0 _
  have hsz : (DataW.weightsEach Try.prog (Try.f4.params.toList ++ Rows.partBackSpec.plain.varTypes Try.prog) (ds ++ gs)).all (· ≤ reachBytes) = true := hsz0
  have hval : ∀ (j : Nat) t v, Try.f4.params[j]? = some t → args[j]? = some v → Value.okWide Try.prog W .any base t v := hval0
  have hW' := hW
  obtain ⟨p, q, hA0, hV, rfl, hfz, hnd⟩ := hW
  have hA : DataW.TrodAll enc Try.prog W 0 (fun _ => true) true Try.f4.params.toList args.toList ds p := hA0
  rw [Try.params4] at hA hval hsz
  obtain ⟨v0, vs0, d0, ds0, p0, q0, hargs, rfl, rfl, h0, r0⟩ := trodAll_cons hA
  obtain ⟨v1, vs1, d1, ds1, p1, q1, rfl, rfl, rfl, h1, r1⟩ := trodAll_cons r0
  obtain ⟨rfl, rfl, rfl⟩ := trodAll_nil r1
  obtain rfl : args = #[v0, v1] := by cases args; simp_all
  obtain ⟨rfl, rfl⟩ := trodVars_none hV
  obtain ⟨a0_0, a0_1, rfl, rfl, rfl, w0_0, w0_1⟩ := open_24 (hval 0 24 v0 rfl rfl) h0
  obtain ⟨a1, rfl, rfl, rfl, w1⟩ := open_int Try.underlying22 (hval 1 22 v1 rfl rfl) h1
  clear hA0 hval0 hsz0 hsz
  refine (F.vernierlaw03_PartBack.walk Pure.PartBack a0_0 a0_1 a1 W w0_0 w0_1 w1).mono fun e W' ⟨he, bel⟩ => ?_
  subst he
  exact ⟨_, rfl, _, _, _, [], _, [], hW', trodAll_mk1 (shut_bool Try.underlying4 _), (trodAll_cons_mk (shut_24 a0_0 a0_1 w0_0 w0_1) (trodAll_cons_mk (shut_int Try.underlying22 w1) trodAll_mk0)), rfl, bel.frame _, fun h => by cases h⟩
theorem over : Rows.partBackRow.holds Try.pinned (OpenSpec.ofChange Rows.partBackSpec) :=
  OpenClaim.holds_of_wide 4 Try.f4 rfl rfl rfl rfl rfl rfl rfl ⟨rfl, rfl, rfl, rfl, rfl⟩ rfl rfl rfl rfl rfl (by kernel_rfl) Try.func4 (by kernel_rfl)
    (of_decide_eq_true (by kernel_rfl)) (by unfold Func.isWrapper; first | (rw [if_pos (by decide +kernel)]; kernel_rfl) | (rw [if_neg (by decide +kernel)]; exact ⟨rfl, rfl⟩))
    (fun os started H enc _ => lifted os started H enc)
theorem proved : Rows.PartBackSaid := over
#print axioms proved
end Go.Proofs.Ytcnpnnodgfpheaa.partBack
namespace Go.Proofs.Ytcnpnnodgfpheaa
/-- The row, under a short name, for the claim. -/
theorem partBack_holds : Rows.PartBackSaid := partBack.proved
end Go.Proofs.Ytcnpnnodgfpheaa
