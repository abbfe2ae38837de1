/- The row of the law vernierlaw06_CodecJoins: called with any arguments of its parameters' types the law answers true, and leaves them as they are; no further conditions. (Written by a program of this repo, out of the pure statement and the walk.) -/
import Derived.Test.YtmofdimkdkfdgaaRows
import Derived.Deep.Fields
import Derived.Test.YtmofdimkdkfdgaaF17
import Derived.Test.YtmofdimkdkfdgaaPureCodecJoins
import Derived.WalkKit
import Derived.ProofKit
import Derived.OpenShut
import Derived.ShutString
import Derived.ChangeOld
import Derived.Below
import Derived.SizedLaws
namespace Go.Proofs.Ytmofdimkdkfdgaa.codecJoins
open Go.ChangeShapes Go.WideShapes Go.ChangeAt Go.RowKit
open Go.ChangeMaps (open_string shut_string)
set_option linter.unusedVariables false
theorem own : ownKnob Try.prog.godebug = none := by kernel_rfl
theorem fieldsX {H : Type} {enc : TypeId × Value → H} {w : World} {base : Nat} {spare : Nat → Bool} {held : Bool} {t : TypeId} {fs : Array Field} {fuel : Nat} {l : List Value} {x : DataW H × List MemPlace} (hs : Try.prog.underlying t = some (.struct fs)) (hone : Go.Deep.oneCellFields Try.prog fs = true)
    (h : DataW.trod enc Try.prog w base spare held fuel t l = some x) : ∃ (xs : List (DataW H × List MemPlace)) (n : Nat), x = (.agg (xs.map (·.1)), xs.flatMap (·.2)) ∧ xs.length = fs.size ∧ ∀ (i : Nat) (f : Field), fs[i]? = some f → DataW.trod enc Try.prog w base spare held n f.type ((l.drop i).take 1) = xs[i]? := by
  obtain ⟨xs, n, _, hx, _, hlen, hg⟩ := DataW.trod_struct hs h
  refine ⟨xs, n, hx, hlen, fun i f hf => ?_⟩
  have g := hg i f hf
  obtain ⟨o, k⟩ := Go.Deep.hone_of hone i f hf
  rw [o, k] at g
  exact g
theorem mapM_at {α β : Type} {g : α → Option β} : ∀ {as_ : List α} {xs : List β}, xs.length = as_.length → (∀ (i : Nat) (a : α), as_[i]? = some a → g a = xs[i]?) → as_.mapM g = some xs := by
  intro as_
  induction as_ with
  | nil => intro xs h _; obtain rfl := List.length_eq_zero_iff.mp h; rfl
  | cons a l ih =>
    intro xs h k
    cases xs with
    | nil => simp at h
    | cons y ys =>
      have h0 : g a = some y := k 0 a rfl
      have h1 := ih (xs := ys) (by simpa using h) (fun i b hb => k (i + 1) b (by simpa using hb))
      rw [List.mapM_cons, h0, h1]
      rfl
theorem shutX {H : Type} {enc : TypeId × Value → H} {w : World} {base : Nat} {spare : Nat → Bool} {held : Bool} {t : TypeId} {fs : Array Field} {cs : List Value} {xs : List (DataW H × List MemPlace)} (hs : Try.prog.underlying t = some (.struct fs)) (hone : Go.Deep.oneCellFields Try.prog fs = true) (hl : cs.length = Try.prog.cellsOf t) (hx : xs.length = fs.size)
    (h : ∀ (i : Nat) (f : Field), fs[i]? = some f → DataW.trod enc Try.prog w base spare held 1 f.type ((cs.drop i).take 1) = xs[i]?) : DataW.trod enc Try.prog w base spare held 2 t cs = some (.agg (xs.map (·.1)), xs.flatMap (·.2)) := by
  refine trod_struct_mk hs hl (mapM_at (by simpa using hx) fun i f hf => ?_)
  have hf' : fs[i]? = some f := by simpa using hf
  obtain ⟨o, k⟩ := Go.Deep.hone_of hone i f hf'
  rw [o, k]
  exact h i f hf'
theorem cells25 : Try.prog.cellsOf 25 = 8 := by kernel_rfl
set_option maxRecDepth 100000 in
theorem open_25 {H : Type} {enc : TypeId × Value → H} {w : World} {base : Nat} {spare : Nat → Bool} {held : Bool} {r : Reach} {b0 : Nat} {v : Value} {d : DataW H} {p : List MemPlace} (hv : Value.okWide Try.prog w r b0 25 v) (h : DataW.Trod enc Try.prog w base spare held 25 v d p) :
    ∃ (x0 : Bool) (x1 : Bool) (x2 : Int) (x3 : Int) (x4 : Int) (x5 : Int) (x6 : Int) (x7 : Int), v = .agg #[.bool x0, .bool x1, .int .i64 x2, .int .i64 x3, .int .i64 x4, .int .i64 x5, .int .i64 x6, .int .u64 x7] ∧ d = .agg [.lit (.bool x0), .lit (.bool x1), .lit (.int .i64 x2), .lit (.int .i64 x3), .lit (.int .i64 x4), .lit (.int .i64 x5), .lit (.int .i64 x6), .lit (.int .u64 x7)] ∧ p = [] ∧ (Lit.int .i64 x2).wf = true ∧ (Lit.int .i64 x3).wf = true ∧ (Lit.int .i64 x4).wf = true ∧ (Lit.int .i64 x5).wf = true ∧ (Lit.int .i64 x6).wf = true ∧ (Lit.int .u64 x7).wf = true := by
  obtain ⟨cs, rfl, hsz⟩ := okWide_struct Try.underlying25 hv
  obtain ⟨l⟩ := cs
  obtain ⟨fuel, hf⟩ := h
  obtain ⟨xs, n, hx, hlen, hg⟩ := fieldsX Try.underlying25 (by kernel_rfl) hf
  match l, hsz.trans cells25, xs, hlen with
  | [c0, c1, c2, c3, c4, c5, c6, c7], _, [y0, y1, y2, y3, y4, y5, y6, y7], _ =>
    have g0 := hg 0 _ rfl
    obtain ⟨x0, e0, f0⟩ := DataW.trod_bool Try.underlying4 g0
    obtain rfl : c0 = .bool x0 := by simpa [Value.cells] using e0
    subst f0
    have g1 := hg 1 _ rfl
    obtain ⟨x1, e1, f1⟩ := DataW.trod_bool Try.underlying4 g1
    obtain rfl : c1 = .bool x1 := by simpa [Value.cells] using e1
    subst f1
    have g2 := hg 2 _ rfl
    obtain ⟨x2, e2, f2, q2⟩ := DataW.trod_int Try.underlying3 g2
    obtain rfl : c2 = .int .i64 x2 := by simpa [Value.cells] using e2
    subst f2
    have g3 := hg 3 _ rfl
    obtain ⟨x3, e3, f3, q3⟩ := DataW.trod_int Try.underlying3 g3
    obtain rfl : c3 = .int .i64 x3 := by simpa [Value.cells] using e3
    subst f3
    have g4 := hg 4 _ rfl
    obtain ⟨x4, e4, f4, q4⟩ := DataW.trod_int Try.underlying3 g4
    obtain rfl : c4 = .int .i64 x4 := by simpa [Value.cells] using e4
    subst f4
    have g5 := hg 5 _ rfl
    obtain ⟨x5, e5, f5, q5⟩ := DataW.trod_int Try.underlying3 g5
    obtain rfl : c5 = .int .i64 x5 := by simpa [Value.cells] using e5
    subst f5
    have g6 := hg 6 _ rfl
    obtain ⟨x6, e6, f6, q6⟩ := DataW.trod_int Try.underlying3 g6
    obtain rfl : c6 = .int .i64 x6 := by simpa [Value.cells] using e6
    subst f6
    have g7 := hg 7 _ rfl
    obtain ⟨x7, e7, f7, q7⟩ := DataW.trod_int Try.underlying22 g7
    obtain rfl : c7 = .int .u64 x7 := by simpa [Value.cells] using e7
    subst f7
    simp only [Prod.mk.injEq] at hx
    exact ⟨x0, x1, x2, x3, x4, x5, x6, x7, rfl, by simpa using hx.1, by simpa using hx.2, q2, q3, q4, q5, q6, q7⟩
set_option maxRecDepth 100000 in
theorem shut_25 {H : Type} {enc : TypeId × Value → H} {w : World} {base : Nat} {spare : Nat → Bool} {held : Bool} (x0 : Bool) (x1 : Bool) (x2 : Int) (x3 : Int) (x4 : Int) (x5 : Int) (x6 : Int) (x7 : Int) (q2 : (Lit.int .i64 x2).wf = true) (q3 : (Lit.int .i64 x3).wf = true) (q4 : (Lit.int .i64 x4).wf = true) (q5 : (Lit.int .i64 x5).wf = true) (q6 : (Lit.int .i64 x6).wf = true) (q7 : (Lit.int .u64 x7).wf = true) : DataW.Trod enc Try.prog w base spare held 25 (.agg #[.bool x0, .bool x1, .int .i64 x2, .int .i64 x3, .int .i64 x4, .int .i64 x5, .int .i64 x6, .int .u64 x7]) (.agg [.lit (.bool x0), .lit (.bool x1), .lit (.int .i64 x2), .lit (.int .i64 x3), .lit (.int .i64 x4), .lit (.int .i64 x5), .lit (.int .i64 x6), .lit (.int .u64 x7)]) [] := by
  have z0 := (show DataW.trod enc Try.prog w base spare held 1 4 [.bool x0] = some (.lit (.bool x0), []) by simp [DataW.trod, Try.underlying4])
  have z1 := (show DataW.trod enc Try.prog w base spare held 1 4 [.bool x1] = some (.lit (.bool x1), []) by simp [DataW.trod, Try.underlying4])
  have z2 := trod_int_mk (enc := enc) (w := w) (base := base) (spare := spare) (held := held) (k := .i64) (n := x2) 0 Try.underlying3 q2
  have z3 := trod_int_mk (enc := enc) (w := w) (base := base) (spare := spare) (held := held) (k := .i64) (n := x3) 0 Try.underlying3 q3
  have z4 := trod_int_mk (enc := enc) (w := w) (base := base) (spare := spare) (held := held) (k := .i64) (n := x4) 0 Try.underlying3 q4
  have z5 := trod_int_mk (enc := enc) (w := w) (base := base) (spare := spare) (held := held) (k := .i64) (n := x5) 0 Try.underlying3 q5
  have z6 := trod_int_mk (enc := enc) (w := w) (base := base) (spare := spare) (held := held) (k := .i64) (n := x6) 0 Try.underlying3 q6
  have z7 := trod_int_mk (enc := enc) (w := w) (base := base) (spare := spare) (held := held) (k := .u64) (n := x7) 0 Try.underlying22 q7
  have t_ := shutX (xs := [(.lit (.bool x0), []), (.lit (.bool x1), []), (.lit (.int .i64 x2), []), (.lit (.int .i64 x3), []), (.lit (.int .i64 x4), []), (.lit (.int .i64 x5), []), (.lit (.int .i64 x6), []), (.lit (.int .u64 x7), [])]) (cs := [.bool x0, .bool x1, .int .i64 x2, .int .i64 x3, .int .i64 x4, .int .i64 x5, .int .i64 x6, .int .u64 x7]) Try.underlying25 (by kernel_rfl) (by rw [cells25]; rfl) rfl (fun i f hf => by
    match i, hf with
    | 0, hf => cases hf; exact z0
    | 1, hf => cases hf; exact z1
    | 2, hf => cases hf; exact z2
    | 3, hf => cases hf; exact z3
    | 4, hf => cases hf; exact z4
    | 5, hf => cases hf; exact z5
    | 6, hf => cases hf; exact z6
    | 7, hf => cases hf; exact z7
    | i + 8, hf => simp at hf)
  exact ⟨2, by simpa [Value.cells] using t_⟩
set_option maxRecDepth 100000 in
theorem lifted (os : Os) (started : os.Started) (H : Type) (enc : TypeId × Value → H) :
    ReturnsInHanded {} Try.checked os 4 .any (Rows.codecJoinsSpec.pre6 enc Try.prog Try.f4 Rows.codecJoinsRow.domain false) (Rows.codecJoinsSpec.post enc Try.prog Try.f4 false true false false) := by
  refine returnsInHanded_of_change_sized (C := Try.checked) own started (by kernel_rfl) Try.func4
    (ChangeSpec.witness6 (enc := enc) (C := Try.checked) false ⟨#[], #[.int .i64 0, .agg #[.bool false, .bool false, .int .i64 0, .int .i64 0, .int .i64 0, .int .i64 0, .int .i64 0, .int .u64 0]], []⟩ 8 (by kernel_rfl) (by kernel_rfl) (by kernel_rfl) (by kernel_rfl)) ?_
  intro W base args ds gs before hval0 hW hcnd hsz0 _
  have hsz : (DataW.weightsEach Try.prog (Try.f4.params.toList ++ Rows.codecJoinsSpec.plain.varTypes Try.prog) (ds ++ gs)).all (· ≤ reachBytes) = true := hsz0
  have hval : ∀ (j : Nat) t v, Try.f4.params[j]? = some t → args[j]? = some v → Value.okWide Try.prog W .any base t v := hval0
  have hW' := hW
  obtain ⟨p, q, hA0, hV, rfl, hfz, hnd⟩ := hW
  have hA : DataW.TrodAll enc Try.prog W 0 (fun _ => true) true Try.f4.params.toList args.toList ds p := hA0
  rw [Try.params4] at hA hval hsz
  obtain ⟨v0, vs0, d0, ds0, p0, q0, hargs, rfl, rfl, h0, r0⟩ := trodAll_cons hA
  obtain ⟨v1, vs1, d1, ds1, p1, q1, rfl, rfl, rfl, h1, r1⟩ := trodAll_cons r0
  obtain ⟨rfl, rfl, rfl⟩ := trodAll_nil r1
  obtain rfl : args = #[v0, v1] := by cases args; simp_all
  obtain ⟨rfl, rfl⟩ := trodVars_none hV
  obtain ⟨a0, rfl, rfl, rfl, w0⟩ := open_int Try.underlying3 (hval 0 3 v0 rfl rfl) h0
  obtain ⟨a1_0, a1_1, a1_2, a1_3, a1_4, a1_5, a1_6, a1_7, rfl, rfl, rfl, w1_2, w1_3, w1_4, w1_5, w1_6, w1_7⟩ := open_25 (hval 1 25 v1 rfl rfl) h1
  clear hA0 hval0 hsz0 hsz
  refine (F.vernierlaw06_CodecJoins.walk Pure.CodecJoins a0 a1_0 a1_1 a1_2 a1_3 a1_4 a1_5 a1_6 a1_7 W w0 w1_2 w1_3 w1_4 w1_5 w1_6 w1_7).mono fun e W' ⟨he, bel⟩ => ?_
  subst he
  exact ⟨_, rfl, _, _, _, [], _, [], hW', trodAll_mk1 (shut_bool Try.underlying4 _), (trodAll_cons_mk (shut_int Try.underlying3 w0) (trodAll_cons_mk (shut_25 a1_0 a1_1 a1_2 a1_3 a1_4 a1_5 a1_6 a1_7 w1_2 w1_3 w1_4 w1_5 w1_6 w1_7) trodAll_mk0)), rfl, bel.frame _, fun h => by cases h⟩
theorem over : Rows.codecJoinsRow.holds Try.pinned (OpenSpec.ofChange Rows.codecJoinsSpec) :=
  OpenClaim.holds_of_wide 4 Try.f4 rfl rfl rfl rfl rfl rfl rfl ⟨rfl, rfl, rfl, rfl, rfl⟩ rfl rfl rfl rfl rfl (by kernel_rfl) Try.func4 (by kernel_rfl)
    (of_decide_eq_true (by kernel_rfl)) (by unfold Func.isWrapper; first | (rw [if_pos (by decide +kernel)]; kernel_rfl) | (rw [if_neg (by decide +kernel)]; exact ⟨rfl, rfl⟩))
    (fun os started H enc _ => lifted os started H enc)
theorem proved : Rows.CodecJoinsSaid := over
#print axioms proved
end Go.Proofs.Ytmofdimkdkfdgaa.codecJoins
namespace Go.Proofs.Ytmofdimkdkfdgaa
/-- The row, under a short name, for the claim. -/
theorem codecJoins_holds : Rows.CodecJoinsSaid := codecJoins.proved
end Go.Proofs.Ytmofdimkdkfdgaa
