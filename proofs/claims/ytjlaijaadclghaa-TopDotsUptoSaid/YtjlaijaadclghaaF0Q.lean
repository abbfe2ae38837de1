/- Printed functions and their walks; no further conditions. -/
import Derived.Test.YtjlaijaadclghaaProg
import Derived.Below
import Derived.Deep.Draws
import Derived.Deep.AppendLies
import Derived.Maps.AppendAt
import Derived.OwnWalk
import Derived.Laws.BytesArg
import Derived.Laws.MakeOwn
import Derived.Laws.OwnMore
import Derived.Deep.OwnRows
import Derived.Tactics
import Derived.Lib.ConvBytes
import Derived.Laws.Slices
import Derived.WalkKit
import Derived.KernelRfl
import Derived.RowKit3
import Derived.Deep.LoopGhost
import Derived.Deep.QuietTactic
import Derived.BigQuiet
import Derived.WideLaws
import Derived.Deep.DeepCutAuto
import Derived.Deep.CutBlock
import Derived.Deep.RegionHeld3
import Derived.Laws.Rows
import Derived.Lib.AppendStr
import Derived.ArgAppend
import Derived.Laws.IdiomCopy
import Derived.OrdersHeld
import Derived.Laws.BitsLemmas
import Derived.RowKit
import Derived.Laws.Externs
import Derived.LaidEql
import Derived.Laws.CopyOwn
import Derived.Laws.FloatArith
import Derived.Test.YtjlaijaadclghaaVQ
namespace Go.Proofs.Ytjlaijaadclghaa.F
open RowKit YtjlaijaadclghaaW PrintWords PrintLast PrintMore
attribute [local go_sem] max2_int min2_int max_two min_two max_three min_three max_four min_four
set_option linter.all false
def errW : Option Int → Value
  | none => .nilIface
  | some c => .iface 29 (.int .i64 c)
theorem errW_none : errW none = .nilIface := rfl
theorem errW_some (c : Int) : errW (some c) = .iface 29 (.int .i64 c) := rfl
theorem bN : type_of% @blk_drewN := @blk_drewN
theorem bD : type_of% @blk_drew := @blk_drew
theorem bA : type_of% @blk_alloc := @blk_alloc
theorem pN : type_of% @pw_below_drewN := @pw_below_drewN
theorem p1 : type_of% @below_drew1 := @below_drew1
theorem pA : type_of% @below_alloc := @below_alloc
theorem pS : type_of% @below_set := @below_set
theorem bB : type_of% @blk_below := @blk_below
theorem gC : type_of% @gate_callee := @gate_callee
theorem gD : type_of% @gate_dst := @gate_dst
theorem bZ : type_of% @below_size := @below_size
theorem bL : type_of% @blk_lt := @blk_lt
theorem bB3 {w0 W w1 : World} {g : Nat} {o : Obj} (h : w0.heap[g]? = some o) (hb : Below W.heap.size W w1) (e : w0.heap[g]? = some o → W.heap[g]? = some o := by intro h; (with_reducible repeat (first | refine blk_drewN ?_ _ | refine blk_drew ?_ | refine blk_alloc ?_ _)); exact h) : w1.heap[g]? = some o := blk_below (e h) hb
theorem bS3 {w W0 W w2 : World} (h : Below w.heap.size w W0) (k : Below W.heap.size W w2) (e : Below w.heap.size w W0 → Below w.heap.size w W := by intro h; repeat (first | (with_reducible first | exact h | apply below_alloc | apply pw_below_drewN | apply below_drew1 | refine below_set ?_ (Aside0.out (by assumption))) | exact h)) : Below w.heap.size w w2 := below_step (e h) k
theorem bZ3 {w W0 W : World} {g : Nat} (hg : g = W.heap.size) (h : Below w.heap.size w W0) (e : Below w.heap.size w W0 → Below w.heap.size w W := by intro h; repeat (first | (with_reducible first | exact h | apply below_alloc | apply pw_below_drewN | apply below_drew1 | refine below_set ?_ (Aside0.out (by assumption))) | exact h)) : w.heap.size ≤ g := by rw [hg]; exact below_size (e h)
theorem bL3 {w0 W : World} {g g' : Nat} {o : Obj} (hg : g' = W.heap.size) (h : w0.heap[g]? = some o) (e : w0.heap[g]? = some o → W.heap[g]? = some o := by intro h; (with_reducible repeat (first | refine blk_drewN ?_ _ | refine blk_drew ?_ | refine blk_alloc ?_ _)); exact h) : g ≠ g' := by rw [hg]; exact Nat.ne_of_lt (blk_lt (e h))
theorem bG3 {w0 W : World} {g g' : Nat} {o : Obj} (hg : g' = W.heap.size) (h : w0.heap[g]? = some o) (e : w0.heap[g]? = some o → W.heap[g]? = some o := by intro h; (with_reducible repeat (first | refine blk_drewN ?_ _ | refine blk_drew ?_ | refine blk_alloc ?_ _)); exact h) : g' ≠ g := by rw [hg]; exact Nat.ne_of_gt (blk_lt (e h))
theorem bE3 {P : Program} {ops : Array Oper} {Q : Exit → Act → World → Prop} {rest : List Oper} {o : Oper} {a : Act} {W : World} (N : Tmp) (cs : Array Value) (t : TypeId)
    (hrun : (execOp a.eval o).run P W = .ok (.value (.pointer (some ⟨W.heap.size, 0, none⟩))) (W.alloc (.cells cs t (0, 0))))
    (h : ∀ g, g = W.heap.size → ∀ w1, w1.heap[g]? = some (.cells cs t (0, 0)) → Below W.heap.size W w1 → wpList P ops Q rest (a.put o.dst (.pointer (some ⟨g, 0, none⟩))) w1)
    (hd : o.dst = some N := by rfl) (hgd : o.guard = none := by rfl) : wpList P ops Q (o :: rest) a W := box_event hgd hd hrun h
theorem goesY_ {P : Program} {ops : Array Oper} {Q : Exit → Act → World → Prop} {rest : List Oper} {oi : Oper} {a : Act} {w : World} (N : Option Tmp) {f : FuncId} {fn : Func} {ar_ : Array Operand} {ts : Array TypeId} (hf : P.funcs[f]? = some fn) (args : Array Value)
    (h : Calls P f args w fun e w' => ∃ v, e = .returned v ∧ wpList P ops Q rest (a.put N v) w')
    (hd : oi.dst = N := by rfl) (hg : oi.guard = none := by rfl) (hname : (fn.name == "runtime.NumGoroutine") = false := by kernel_rfl) (hb : fn.body.isSome = true := by rfl)
    (hop : oi.op = .call { callee := .value (.func f), args := ar_, argTypes := ts } := by rfl) (hargs : ar_.map a.eval = args := by (try simp only [List.map_toArray, List.map_cons, List.map_nil]); first | done | (simp only [Int.toNat_natCast]; rfl) | rfl | (simp only [List.length_drop, List.length_take]; rfl)) : wpList P ops Q (oi :: rest) a w :=
  goesL_ N hd hg hf hname hb args hop hargs h
theorem load_store_ {P : Program} {ops : Array Oper} {Q : Exit → Act → World → Prop} {rest : List Oper} {oi oj : Oper} {a : Act} {W w0 : World} {x y : Operand} {cs0 : Array Value} (N : Tmp) (g1 g2 : Nat) (cs old : Array Value) (t : TypeId) (d : TypeDesc)
    (h1 : W.heap[g1]? = some (.cells cs0 t (0, 0))) (h2 : W.heap[g2]? = some (.cells old t (0, 0))) (hB : Below w0.heap.size w0 W) (hge : w0.heap.size ≤ g2) (hu : P.underlying t = some d) (hi : (P.info? t).map (·.size) = some cs.size)
    (h : ∀ w1, w1.heap[g2]? = some (.cells cs t (0, 0)) → Below w0.heap.size w0 w1 → wpList P ops Q rest ((a.put (some N) (.agg cs)).put none undef) w1)
    (e : cs0 = cs := by simp only [List.setIfInBounds_toArray, List.set_cons_zero, List.set_cons_succ]) (hd1 : oi.dst = some N := by rfl) (hg1 : oi.guard = none := by rfl) (ho1 : oi.op = .load t x := by rfl) (hd2 : oj.dst = none := by rfl) (hg2 : oj.guard = none := by rfl) (ho2 : oj.op = .store t y (.tmp N) := by rfl)
    (hx : a.eval x = .pointer (some ⟨g1, 0, none⟩) := by rfl) (hy : (a.put (some N) (.agg cs)).eval y = .pointer (some ⟨g2, 0, none⟩) := by rfl) (hN : (a.put (some N) (.agg cs)).eval (.tmp N) = .agg cs := by rfl)
    (hd : (match d with | .struct _ | .array _ _ => true | _ => false) = true := by rfl) (hold : old.size = cs.size := by rfl) (hone : cs.all (·.oneCell') = true := by first | rfl | (simp [Value.oneCell']; done)) : wpList P ops Q (oi :: oj :: rest) a W := by
  subst e
  refine wpList_load_row hg1 t x ho1 g1 hx t cs0 (0, 0) d h1 hu (by cases d <;> first | exact hd | rfl) hi ?_
  rw [hd1]
  refine wpList_store_row hg2 t y (.tmp N) ho2 g2 cs0 hy hN t old h2 hi hold hone ?_
  rw [hd2]
  exact h _ (setRow_heap W g2 old cs0 t (0, 0) h2) (below_setRow hB hge cs0)
theorem anewC_ {P : Program} {c : Code} {Q : Exit → Act → World → Prop} {a : Act} {W : World} {o1 : Obj} (g1 : Nat) (h1 : W.heap[g1]? = some o1) (h : ∀ w1, w1 = W → w1.heap[g1]? = some o1 → Code.wp P c Q a w1) : Code.wp P c Q a W := h W rfl h1
theorem blk_cellL {w : World} {g : Nat} {t : TypeId} {l : List Value} (h : w.heap[g]? = some (.cells l.toArray t (0, 0))) (i : Nat) (v : Value) (e : l[i]? = some v) : w.cell? ⟨g, i, none⟩ = some v := (blk_cell h i).trans (by simpa using e)
def CallsX (P : Program) (f : FuncId) (args : Array Value) (w : World) (R : Ending → World → Prop) : Prop := ∃ v, (callFunc f args).run P w = .ok (.value v) w ∧ R (.returned v) w
theorem CallsX.mono {P : Program} {f : FuncId} {args : Array Value} {w : World} {R R' : Ending → World → Prop} (h : CallsX P f args w R) (k : ∀ e w', R e w' → R' e w') : CallsX P f args w R' := by
  obtain ⟨v, hr, hv⟩ := h
  exact ⟨v, hr, k _ _ hv⟩
theorem goesX_ {P : Program} {ops : Array Oper} {Q : Exit → Act → World → Prop} {rest : List Oper} {oi : Oper} {a : Act} {w : World} (N : Option Tmp) {f : FuncId} {ar_ : Array Operand} {ts : Array TypeId} (args : Array Value)
    (h : CallsX P f args w fun e w' => ∃ v, e = .returned v ∧ wpList P ops Q rest (a.put N v) w')
    (hd : oi.dst = N := by rfl) (hg : oi.guard = none := by rfl) (hop : oi.op = .call { callee := .value (.func f), args := ar_, argTypes := ts } := by rfl) (hargs : ar_.map a.eval = args := by (try simp only [List.map_toArray, List.map_cons, List.map_nil]); first | done | rfl) : wpList P ops Q (oi :: rest) a w := by
  obtain ⟨v, hr, v', hv', hk⟩ := h
  cases hv'
  refine wpList_plain hg fun K hK => ?_
  have hrun : (execOp a.eval oi).run P w = .ok (.value v) w := by
    unfold execOp
    simp [hop, resolve, Deferred.ofValue, invoke, Act.eval, hargs, hr]
  unfold Oper.wp
  rw [hrun]
  subst hd
  exact hK _ _ hk
theorem add64_call {P : Program} {f : FuncId} {fn : Func} (hf : P.funcs[f]? = some fn) (hname : (fn.name == "runtime.NumGoroutine") = false)
    (hb : fn.body.isNone = true) (hn : Extern.findNext fn = none) (he : Extern.find fn = some add64Entry) (x y c : Nat) (hc : c ≤ 1) (w : World) :
    (callFunc f #[.int .u64 x, .int .u64 y, .int .u64 c]).run P w = .ok (.value (.tuple #[.int .u64 (((x : Int) + y + c) % 18446744073709551616), .int .u64 (((x : Int) + y + c) / 18446744073709551616)])) w := by
  rw [run_callFunc_extern hf hname hb hn he, run_add64 x y c (by omega) (by omega) (by omega) (by omega)]
  rfl
def sub64EntryX : Array Value → Sem Value := fun args => do
  let (x, y, b) ← Extern.MathBitsCarry.three "Sub64" args
  pure (Extern.MathBitsCarry.pair ((x + Extern.MathBitsCarry.m64 - y - b) % Extern.MathBitsCarry.m64) (if x < y + b then 1 else 0))
theorem run_sub64X {P : Program} (x y b : Nat) (hb : b ≤ 1) (w : World) :
    (sub64EntryX #[.int .u64 x, .int .u64 y, .int .u64 b]).run P w =
      .ok (.tuple #[.int .u64 (((x + 18446744073709551616 - y - b) % 18446744073709551616 : Nat) : Int), .int .u64 ((if x < y + b then 1 else 0 : Nat) : Int)]) w := by
  have : b = 0 ∨ b = 1 := by omega
  rcases this with rfl | rfl <;> rfl
theorem sub64_call {P : Program} {f : FuncId} {fn : Func} (hf : P.funcs[f]? = some fn) (hname : (fn.name == "runtime.NumGoroutine") = false)
    (hb : fn.body.isNone = true) (hn : Extern.findNext fn = none) (he : Extern.find fn = some sub64EntryX) (x y c : Nat) (hc : c ≤ 1 ∧ y < 18446744073709551616) (w : World) :
    (callFunc f #[.int .u64 x, .int .u64 y, .int .u64 c]).run P w = .ok (.value (.tuple #[.int .u64 (((x : Int) + 18446744073709551616 - y - c) % 18446744073709551616), .int .u64 (if (x : Int) < y + c then 1 else 0)])) w := by
  rw [run_callFunc_extern hf hname hb hn he, run_sub64X x y c hc.1]
  have e1 : (((x + 18446744073709551616 - y - c) % 18446744073709551616 : Nat) : Int) = ((x : Int) + 18446744073709551616 - y - c) % 18446744073709551616 := by omega
  have e2 : ((if x < y + c then 1 else 0 : Nat) : Int) = if (x : Int) < y + c then 1 else 0 := by split <;> split <;> omega
  rw [e1, e2]
  rfl
theorem xor_u64 (n : Int) : Op.unary .xor (.int .u64 n) = pure (.int .u64 (Go.bits .xor .u64 18446744073709551615 n)) := rfl
theorem xor_u32 (n : Int) : Op.unary .xor (.int .u32 n) = pure (.int .u32 (Go.bits .xor .u32 4294967295 n)) := rfl
theorem info3 : (Try.prog.info? 3).map (fun i => (i.zero, i.size, i.bytes)) = some (some (.int .i64 0), 1, 8) := by kernel_rfl
theorem info5 : (Try.prog.info? 5).map (fun i => (i.zero, i.size, i.bytes)) = some (some (.int .u8 0), 1, 1) := by kernel_rfl
-- the values' own types
theorem gX_ {P : Program} {ops : Array Oper} {Q : Exit → Act → World → Prop} {rest : List Oper} {o : Oper} {a : Act} {W : World} {as_ : Array Operand} {ts_ : Array TypeId} (f : FuncId) (N : Tmp) (_ho : o.op = .call { callee := .value (.func f), args := as_, argTypes := ts_ }) (_hN : o.dst = some N) (h : wpList P ops Q (o :: rest) a W) : wpList P ops Q (o :: rest) a W := h
theorem lS_ : type_of% @List.setIfInBounds_toArray := @List.setIfInBounds_toArray
theorem lZ_ : type_of% @List.set_cons_zero := @List.set_cons_zero
theorem lC_ : type_of% @List.set_cons_succ := @List.set_cons_succ
theorem eR3 {α : Type} {a b : α} (h : a = b := by first | rfl | (simp [errW_none, errW_some] <;> rfl) | (simp [*, errW_none, errW_some] <;> rfl)) : a = b := h
theorem bR3 {w W0 W : World} (h : Below w.heap.size w W0) (e : Below w.heap.size w W0 → Below w.heap.size w W := by intro h; repeat (first | (with_reducible first | exact h | apply below_alloc | apply pw_below_drewN | apply below_drew1 | refine below_set ?_ (Aside0.out (by assumption))) | exact h)) : Below w.heap.size w W := e h
theorem bK3 {w0 W : World} {g : Nat} {o : Obj} (h : w0.heap[g]? = some o) (e : w0.heap[g]? = some o → W.heap[g]? = some o := by intro h; (with_reducible repeat (first | refine blk_drewN ?_ _ | refine blk_drew ?_ | refine blk_alloc ?_ _)); exact h) : W.heap[g]? = some o := e h
theorem bQ_ {W : World} {g : Nat} {t : TypeId} {cs' cs : Array Value} (h : W.heap[g]? = some (.cells cs' t (0, 0))) (e : cs' = cs) : W.heap[g]? = some (.cells cs t (0, 0)) := e ▸ h
theorem blk_farB {w : World} {g : Nat} {t : TypeId} {cs : Array Value} {p : Addr} (hp : Aside0 (g ≠ p.block)) (u : Value) (h : w.heap[g]? = some (.cells cs t (0, 0))) : (w.setCell p u).heap[g]? = some (.cells cs t (0, 0)) := blk_far h hp.out u
theorem bQ3 {w0 W : World} {g : Nat} {t : TypeId} {cs0 cs : Array Value} (h : w0.heap[g]? = some (.cells cs0 t (0, 0))) (e : w0.heap[g]? = some (.cells cs0 t (0, 0)) → W.heap[g]? = some (.cells cs t (0, 0)) := by intro h; apply bQ_; (repeat (first | (with_reducible refine blk_drewN ?_ _) | (with_reducible refine blk_drew ?_) | (with_reducible refine blk_alloc ?_ _) | (with_reducible apply blk_set) | (with_reducible (apply blk_farB; assumption)) | (with_reducible exact h))); (first | rfl | (simp only [List.setIfInBounds_toArray, List.set_cons_zero, List.set_cons_succ]))) : W.heap[g]? = some (.cells cs t (0, 0)) := e h
theorem cl2 {w : World} {g : Nat} {t : TypeId} {v0 v1 : Value} (h : w.heap[g]? = some (.cells #[v0, v1] t (0, 0))) : w.cell? ⟨g, 0, none⟩ = some v0 ∧ w.cell? ⟨g, 1, none⟩ = some v1 ∧ w.frozen? ⟨g, 0, none⟩ = false ∧ w.frozen? ⟨g, 1, none⟩ = false :=
  ⟨(blk_cell h 0).trans rfl, (blk_cell h 1).trans rfl, blk_frozen h 0, blk_frozen h 1⟩
theorem cl3 {w : World} {g : Nat} {t : TypeId} {v0 v1 v2 : Value} (h : w.heap[g]? = some (.cells #[v0, v1, v2] t (0, 0))) : w.cell? ⟨g, 0, none⟩ = some v0 ∧ w.cell? ⟨g, 1, none⟩ = some v1 ∧ w.cell? ⟨g, 2, none⟩ = some v2 ∧ w.frozen? ⟨g, 0, none⟩ = false ∧ w.frozen? ⟨g, 1, none⟩ = false ∧ w.frozen? ⟨g, 2, none⟩ = false :=
  ⟨(blk_cell h 0).trans rfl, (blk_cell h 1).trans rfl, (blk_cell h 2).trans rfl, blk_frozen h 0, blk_frozen h 1, blk_frozen h 2⟩
theorem cl4 {w : World} {g : Nat} {t : TypeId} {v0 v1 v2 v3 : Value} (h : w.heap[g]? = some (.cells #[v0, v1, v2, v3] t (0, 0))) : w.cell? ⟨g, 0, none⟩ = some v0 ∧ w.cell? ⟨g, 1, none⟩ = some v1 ∧ w.cell? ⟨g, 2, none⟩ = some v2 ∧ w.cell? ⟨g, 3, none⟩ = some v3 ∧ w.frozen? ⟨g, 0, none⟩ = false ∧ w.frozen? ⟨g, 1, none⟩ = false ∧ w.frozen? ⟨g, 2, none⟩ = false ∧ w.frozen? ⟨g, 3, none⟩ = false :=
  ⟨(blk_cell h 0).trans rfl, (blk_cell h 1).trans rfl, (blk_cell h 2).trans rfl, (blk_cell h 3).trans rfl, blk_frozen h 0, blk_frozen h 1, blk_frozen h 2, blk_frozen h 3⟩
theorem cl5 {w : World} {g : Nat} {t : TypeId} {v0 v1 v2 v3 v4 : Value} (h : w.heap[g]? = some (.cells #[v0, v1, v2, v3, v4] t (0, 0))) : w.cell? ⟨g, 0, none⟩ = some v0 ∧ w.cell? ⟨g, 1, none⟩ = some v1 ∧ w.cell? ⟨g, 2, none⟩ = some v2 ∧ w.cell? ⟨g, 3, none⟩ = some v3 ∧ w.cell? ⟨g, 4, none⟩ = some v4 ∧ w.frozen? ⟨g, 0, none⟩ = false ∧ w.frozen? ⟨g, 1, none⟩ = false ∧ w.frozen? ⟨g, 2, none⟩ = false ∧ w.frozen? ⟨g, 3, none⟩ = false ∧ w.frozen? ⟨g, 4, none⟩ = false :=
  ⟨(blk_cell h 0).trans rfl, (blk_cell h 1).trans rfl, (blk_cell h 2).trans rfl, (blk_cell h 3).trans rfl, (blk_cell h 4).trans rfl, blk_frozen h 0, blk_frozen h 1, blk_frozen h 2, blk_frozen h 3, blk_frozen h 4⟩
theorem cl6 {w : World} {g : Nat} {t : TypeId} {v0 v1 v2 v3 v4 v5 : Value} (h : w.heap[g]? = some (.cells #[v0, v1, v2, v3, v4, v5] t (0, 0))) : w.cell? ⟨g, 0, none⟩ = some v0 ∧ w.cell? ⟨g, 1, none⟩ = some v1 ∧ w.cell? ⟨g, 2, none⟩ = some v2 ∧ w.cell? ⟨g, 3, none⟩ = some v3 ∧ w.cell? ⟨g, 4, none⟩ = some v4 ∧ w.cell? ⟨g, 5, none⟩ = some v5 ∧ w.frozen? ⟨g, 0, none⟩ = false ∧ w.frozen? ⟨g, 1, none⟩ = false ∧ w.frozen? ⟨g, 2, none⟩ = false ∧ w.frozen? ⟨g, 3, none⟩ = false ∧ w.frozen? ⟨g, 4, none⟩ = false ∧ w.frozen? ⟨g, 5, none⟩ = false :=
  ⟨(blk_cell h 0).trans rfl, (blk_cell h 1).trans rfl, (blk_cell h 2).trans rfl, (blk_cell h 3).trans rfl, (blk_cell h 4).trans rfl, (blk_cell h 5).trans rfl, blk_frozen h 0, blk_frozen h 1, blk_frozen h 2, blk_frozen h 3, blk_frozen h 4, blk_frozen h 5⟩
theorem cl8 {w : World} {g : Nat} {t : TypeId} {v0 v1 v2 v3 v4 v5 v6 v7 : Value} (h : w.heap[g]? = some (.cells #[v0, v1, v2, v3, v4, v5, v6, v7] t (0, 0))) : w.cell? ⟨g, 0, none⟩ = some v0 ∧ w.cell? ⟨g, 1, none⟩ = some v1 ∧ w.cell? ⟨g, 2, none⟩ = some v2 ∧ w.cell? ⟨g, 3, none⟩ = some v3 ∧ w.cell? ⟨g, 4, none⟩ = some v4 ∧ w.cell? ⟨g, 5, none⟩ = some v5 ∧ w.cell? ⟨g, 6, none⟩ = some v6 ∧ w.cell? ⟨g, 7, none⟩ = some v7 ∧ w.frozen? ⟨g, 0, none⟩ = false ∧ w.frozen? ⟨g, 1, none⟩ = false ∧ w.frozen? ⟨g, 2, none⟩ = false ∧ w.frozen? ⟨g, 3, none⟩ = false ∧ w.frozen? ⟨g, 4, none⟩ = false ∧ w.frozen? ⟨g, 5, none⟩ = false ∧ w.frozen? ⟨g, 6, none⟩ = false ∧ w.frozen? ⟨g, 7, none⟩ = false :=
  ⟨(blk_cell h 0).trans rfl, (blk_cell h 1).trans rfl, (blk_cell h 2).trans rfl, (blk_cell h 3).trans rfl, (blk_cell h 4).trans rfl, (blk_cell h 5).trans rfl, (blk_cell h 6).trans rfl, (blk_cell h 7).trans rfl, blk_frozen h 0, blk_frozen h 1, blk_frozen h 2, blk_frozen h 3, blk_frozen h 4, blk_frozen h 5, blk_frozen h 6, blk_frozen h 7⟩
end Go.Proofs.Ytjlaijaadclghaa.F
