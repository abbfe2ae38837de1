/- Walks of the accumulator: Put, Take, Sign; conditions as of deposit. -/
import Derived.Test.YtgaaeehohhnocaaA6a
import Derived.DeepKeys
namespace Go.Proofs.Ytgaaeehohhnocaa.F
open Go.RowKit Go.Proofs.YtgaaeehohhnocaaW.PrintWords Go.Proofs.YtgaaeehohhnocaaW.PrintLast Go.Proofs.YtgaaeehohhnocaaW.PrintMore
attribute [local go_sem high] xor_u64 xor_u32
set_option linter.unusedVariables false
set_option linter.unusedSimpArgs false
set_option maxHeartbeats 2000000 in
set_option maxRecDepth 100000 in
theorem put_calls (b : Nat) (a1 a2 : Int) (w : World) (R : Ending → World → Prop) (h : Calls Try.prog 47 #[.pointer (some ⟨b, 0, none⟩), .int .u64 a1, .int .u64 a2, .bool false] w fun e w' => e = .returned (errW none) ∧ R e w') :
  Calls Try.prog 25 #[.pointer (some ⟨b, 0, none⟩), .int .u64 a1, .int .u64 a2] w fun e w' => e = .returned (errW none) ∧ R e w' := by
 have H := Aside0.mk h
 clear h
 go_enter Try.func25, Try.ntmps25
 go_wp2_with (first | (go_at_call 47; (with_reducible refine H.out.mono ?_); rintro e w' ⟨rfl, hr⟩; have HR := Aside0.mk hr; clear hr))
 go_ret
 exact ⟨rfl, HR.out⟩
set_option maxHeartbeats 2000000 in
set_option maxRecDepth 100000 in
theorem take_calls (b : Nat) (a1 a2 : Int) (w : World) (R : Ending → World → Prop) (h : Calls Try.prog 47 #[.pointer (some ⟨b, 0, none⟩), .int .u64 a1, .int .u64 a2, .bool true] w fun e w' => e = .returned (errW none) ∧ R e w') :
  Calls Try.prog 26 #[.pointer (some ⟨b, 0, none⟩), .int .u64 a1, .int .u64 a2] w fun e w' => e = .returned (errW none) ∧ R e w' := by
 have H := Aside0.mk h
 clear h
 go_enter Try.func26, Try.ntmps26
 go_wp2_with (first | (go_at_call 47; (with_reducible refine H.out.mono ?_); rintro e w' ⟨rfl, hr⟩; have HR := Aside0.mk hr; clear hr))
 go_ret
 exact ⟨rfl, HR.out⟩
theorem part34 (xs : Array Value) (i : Nat) (v : Value) (h : xs[i]? = some v) (w : World) : (part 34 xs i).run Try.prog w = .ok v w := by
 have hagg : (isAgg 34).run Try.prog w = .ok false w := by
  unfold isAgg
  rw [Sem.run_bind, run_underlying Try.underlying34 w]
  rfl
 simp [part, Sem.run_bind, hagg, h]
theorem eqItemsW (ws vs : List Nat) (hl : ws.length = vs.length) (w : World) : ∀ (is : List Nat), (∀ i ∈ is, i < ws.length) → (Op.eqItems 9999 34 1 (ws.map wordV).toArray (vs.map wordV).toArray is).run Try.prog w = .ok (decide (∀ i ∈ is, ws.getD i 0 = vs.getD i 0)) w
 | [], _ => by simp [Op.eqItems]
 | i :: is, h => by
  have hi := h i (by simp)
  have ih := eqItemsW ws vs hl w is (fun j hj => h j (by simp [hj]))
  have p1 := part34 (ws.map wordV).toArray (i * 1) (wordV (ws.getD i 0)) (by simp [List.getD_eq_getElem?_getD, hi]) w
  have p2 := part34 (vs.map wordV).toArray (i * 1) (wordV (vs.getD i 0)) (by simp [List.getD_eq_getElem?_getD, ← hl, hi]) w
  have p3 := run_equalIn_int (P := Try.prog) w 9998 34 .u64 .u64 ((ws.getD i 0 : Nat) : Int) ((vs.getD i 0 : Nat) : Int) Try.underlying34
  simp only [Op.eqItems, Sem.run_bind, p1, p2, Result.andThen_ok]
  rw [show (Op.equalIn 9999 34 (wordV (ws.getD i 0)) (wordV (vs.getD i 0))).run Try.prog w = _ from p3]
  by_cases e : ws.getD i 0 = vs.getD i 0
  ·
   have hb : (((ws.getD i 0 : Nat) : Int) == ((vs.getD i 0 : Nat) : Int)) = true := by rw [e]; simp
   simp only [hb, Result.andThen_ok]
   rw [show (decide (∀ j ∈ i :: is, ws.getD j 0 = vs.getD j 0)) = decide (∀ j ∈ is, ws.getD j 0 = vs.getD j 0) by simp only [List.mem_cons, forall_eq_or_imp, e, true_and]]
   simpa using ih
  ·
   have hb : (((ws.getD i 0 : Nat) : Int) == ((vs.getD i 0 : Nat) : Int)) = false := by rw [beq_eq_false_iff_ne]; omega
   simp only [hb, Result.andThen_ok]
   rw [show (decide (∀ j ∈ i :: is, ws.getD j 0 = vs.getD j 0)) = false by simp only [List.mem_cons, forall_eq_or_imp, e, false_and, decide_false]]
   simp
theorem eq62 (ws vs : List Nat) (h1 : ws.length = 16) (h2 : vs.length = 16) (w : World) : (Op.equalIn 10000 62 (.agg (ws.map wordV).toArray) (.agg (vs.map wordV).toArray)).run Try.prog w = .ok (decide (ws = vs)) w := by
 have hi : ∃ i, Try.prog.info? 34 = some i := by
  have : (Try.prog.info? 34).isSome = true := by kernel_rfl
  exact Option.isSome_iff_exists.mp this
 obtain ⟨i, hi⟩ := hi
 have hc : Try.prog.cellsOf 34 = 1 := by kernel_rfl
 rw [run_equalIn_array w 9999 _ _ Try.underlying62 hi, hc, eqItemsW ws vs (by omega) w (List.range 16) (fun j hj => by rw [h1]; exact List.mem_range.mp hj)]
 have key : (∀ i ∈ List.range 16, ws.getD i 0 = vs.getD i 0) ↔ ws = vs := by
  constructor
  ·
   intro h
   apply List.ext_getElem? 
   intro j
   by_cases hj : j < 16
   ·
    have := h j (List.mem_range.mpr hj)
    simp only [List.getD_eq_getElem?_getD, List.getElem?_eq_getElem (show j < ws.length by omega), List.getElem?_eq_getElem (show j < vs.length by omega), Option.getD_some] at this
    rw [List.getElem?_eq_getElem (show j < ws.length by omega), List.getElem?_eq_getElem (show j < vs.length by omega), this]
   ·
    rw [List.getElem?_eq_none (by omega), List.getElem?_eq_none (by omega)]
  ·
   intro h j _; rw [h]
 exact congrArg (fun q => Result.ok q w) (decide_eq_decide.mpr key)
set_option maxHeartbeats 2000000 in
set_option maxRecDepth 100000 in
theorem sign_calls (b m : Nat) (nar : Bool) (t : Int) (ws : List Nat) (w : World) (h : AccB w b m nar t ws) (h0 : 1 ≤ m) (h1 : m ≤ 16) (hl : ws.length = 16) (hw : ∀ x ∈ ws, x < 18446744073709551616) :
  Calls Try.prog 19 #[.pointer (some ⟨b, 0, none⟩)] w fun e w' => e = .returned (.int .i64 (if 9223372036854775808 ≤ ws.getD (m - 1) 0 then -1 else if ws = List.replicate 16 0 then 0 else 1)) ∧ ∃ k, w' = w.drewN k := by
 have hwm : ws.getD (m - 1) 0 < 18446744073709551616 := by
  rw [List.getD_eq_getElem?_getD, List.getElem?_eq_getElem (by omega)]
  exact hw _ (List.getElem_mem _)
 obtain ⟨ng, hng⟩ : ∃ ng, ng = decide (9223372036854775808 ≤ ws.getD (m - 1) 0) := ⟨_, rfl⟩
 have hN := Aside0.mk (negative_calls b m nar t ws w h h0 h1 hl hwm)
 rw [← hng] at hN
 have HNG := Aside0.mk hng
 have HH := Aside0.mk h
 have hL : Aside0 (∀ (k : Nat) j v, (ws.map wordV)[j]? = some v → (w.drewN k).cell? ⟨b, 3 + j, none⟩ = some v) := ⟨fun k => h.words⟩
 clear hng hwm h
 cases ng with
 | true =>
  have e : (9223372036854775808 ≤ ws.getD (m - 1) 0) := by have := HNG.out; simpa using this.symm
  rw [if_pos e]
  clear e
  go_enter Try.func19, Try.ntmps19
  go_wp2_with (first | (go_at_call 41; (with_reducible refine hN.out.mono ?_); rintro e w' ⟨rfl, ⟨k1, rfl⟩⟩))
  go_ret
  exact ⟨rfl, k1, rfl⟩
 | false =>
  have e : ¬ (9223372036854775808 ≤ ws.getD (m - 1) 0) := by have := HNG.out; simpa using this.symm
  rw [if_neg e]
  clear e
  have hQ : ∀ W : World, (Op.equalIn 10000 62 (.agg (ws.map wordV).toArray) (.agg #[.int .u64 0, .int .u64 0, .int .u64 0, .int .u64 0, .int .u64 0, .int .u64 0, .int .u64 0, .int .u64 0, .int .u64 0, .int .u64 0, .int .u64 0, .int .u64 0, .int .u64 0, .int .u64 0, .int .u64 0, .int .u64 0])).run Try.prog W = .ok (decide (ws = List.replicate 16 0)) W := eq62 ws (List.replicate 16 0) hl rfl
  by_cases hz : ws = List.replicate 16 0
  ·
   rw [if_pos hz]
   have cz : decide (ws = List.replicate 16 0) = true := decide_eq_true hz
   rw [cz] at hQ
   clear hz cz
   go_enter Try.func19, Try.ntmps19
   go_wp2_with (first
    | (go_at_call 41; (with_reducible refine hN.out.mono ?_); rintro e w' ⟨rfl, ⟨k1, rfl⟩⟩)
    | (refine wpList_load_in rfl 62 (.tmp 9) rfl b 3 rfl (ws.map wordV) ?wz0 _ Try.underlying62 rfl (by rw [List.length_map, hl]; kernel_rfl) ?_; (case wz0 => exact hL.out _)))
   go_ret
   exact ⟨rfl, k1, rfl⟩
  ·
   rw [if_neg hz]
   have cz : decide (ws = List.replicate 16 0) = false := decide_eq_false hz
   rw [cz] at hQ
   clear hz cz
   go_enter Try.func19, Try.ntmps19
   go_wp2_with (first
    | (go_at_call 41; (with_reducible refine hN.out.mono ?_); rintro e w' ⟨rfl, ⟨k1, rfl⟩⟩)
    | (refine wpList_load_in rfl 62 (.tmp 9) rfl b 3 rfl (ws.map wordV) ?wz1 _ Try.underlying62 rfl (by rw [List.length_map, hl]; kernel_rfl) ?_; (case wz1 => exact hL.out _)))
   go_ret
   exact ⟨rfl, k1, rfl⟩
end Go.Proofs.Ytgaaeehohhnocaa.F
