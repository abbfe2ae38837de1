/- Walks of the accumulator: Negate, Clear, Sign, New; conditions: an .. -/
import Derived.Test.YtgaaeehohhnocaaA2a
import Derived.Deep.RegionWith
namespace Go.Proofs.Ytgaaeehohhnocaa.F
open Go.RowKit Go.Proofs.YtgaaeehohhnocaaW.PrintWords Go.Proofs.YtgaaeehohhnocaaW.PrintLast Go.Proofs.YtgaaeehohhnocaaW.PrintMore
attribute [local go_sem high] xor_u64 xor_u32
set_option linter.unusedVariables false
set_option linter.unusedSimpArgs false
def negW (m : Nat) (ws : List Nat) : List Nat := turnC (ws.take m) 1 ++ ws.drop m
theorem acc_split (m : Nat) (nar : Bool) (t : Int) (ws : List Nat) : accC m nar t ws = rowC [.int .i64 (4 * (m : Int)), .bool nar, .int .i64 t] ((ws.drop m).map wordV) (ws.take m) := by
 unfold accC rowC
 rw [List.append_nil, ← List.map_append, List.take_append_drop]
theorem acc_join (m : Nat) (nar : Bool) (t : Int) (ys ws : List Nat) : rowC [.int .i64 (4 * (m : Int)), .bool nar, .int .i64 t] ((ws.drop m).map wordV) ys = accC m nar t (ys ++ ws.drop m) := by
 unfold accC rowC
 rw [List.append_nil, ← List.map_append]
set_option maxHeartbeats 2000000 in
set_option maxRecDepth 100000 in
theorem negate_calls (b m : Nat) (nar : Bool) (t : Int) (ws : List Nat) (w : World) (h : AccB w b m nar t ws) (h0 : 1 ≤ m) (h1 : m ≤ 16) (hl : ws.length = 16) (hw : ∀ x ∈ ws, x < 18446744073709551616) :
  Calls Try.prog 13 #[.pointer (some ⟨b, 0, none⟩)] w fun e w' => e = .returned (.tuple #[]) ∧ Upd w w' b (.cells (accC m nar t (negW m ws)) 64 (0, 0)) := by
 have ht : (ws.take m).length = m := by rw [List.length_take]; omega
 have HT : Aside0 (∀ k, Calls Try.prog 36 #[.slice (some ⟨b, 3, none⟩) m 16] (w.drewN k) fun e w' => e = .returned (.tuple #[]) ∧ Upd w w' b (.cells (accC m nar t (negW m ws)) 64 (0, 0))) := ⟨fun k => by
  have hW : (w.drewN k).heap[b]? = some (.cells (accC m nar t ws) 64 (0, 0)) := h
  rw [acc_split] at hW
  have := turn_calls b 16 64 _ ((ws.drop m).map wordV) (ws.take m) _ hW (fun x hx => hw x (List.mem_of_mem_take hx)) (by rw [ht]; exact h1)
  rw [ht, acc_join] at this
  refine this.mono ?_
  rintro e w' ⟨he, k2, rfl⟩
  refine ⟨he, Upd.drewN ?_ k2⟩
  have hU : Upd (w.drewN k) ((w.drewN k).setRow b (accC m nar t (negW m ws))) b (.cells (accC m nar t (negW m ws)) 64 (0, 0)) := Upd.setRow (fr := (0, 0)) h
  exact ⟨hU.os, hU.tape, hU.output, hU.size, hU.here, hU.other⟩⟩
 clear ht
 have HS := @sl62 m h1
 go_enter Try.func13, Try.ntmps13
 go_region_with (first | (refine (size_calls b m nar t ws _ (show AccB w.drew b m nar t ws from h) h1).mono ?_; rintro e w' ⟨rfl, rfl⟩) | (refine (HT.out 1).mono ?_; rintro e w' ⟨rfl, hU⟩))
 all_goals (go_end0; exact ⟨rfl, hU⟩)
theorem acc_size (m : Nat) (nar : Bool) (t : Int) (ws : List Nat) (hl : ws.length = 16) : (accC m nar t ws).size = 19 := by
 unfold accC rowC; simp [hl]
theorem acc_one (m : Nat) (nar : Bool) (t : Int) (ws : List Nat) : (accC m nar t ws).all (·.oneCell') = true := by
 rw [Array.all_eq_true]
 intro i hi
 unfold accC rowC at hi ⊢
 simp only [List.getElem_toArray]
 have hm : ∀ v ∈ ([.int .i64 (4 * (m : Int)), .bool nar, .int .i64 t] : List Value) ++ (ws.map wordV ++ []), v.oneCell' = true := by
  intro v hv
  simp only [List.append_nil, List.mem_append, List.mem_cons, List.mem_nil_iff, or_false, List.mem_map] at hv
  rcases hv with (rfl | rfl | rfl) | ⟨x, _, rfl⟩ <;> rfl
 exact hm _ (List.getElem_mem _)
set_option maxHeartbeats 2000000 in
set_option maxRecDepth 100000 in
theorem clear_calls (b m : Nat) (nar : Bool) (t : Int) (ws : List Nat) (w : World) (h : AccB w b m nar t ws) (hl : ws.length = 16) :
  Calls Try.prog 16 #[.pointer (some ⟨b, 0, none⟩)] w fun e w' => e = .returned (.tuple #[]) ∧ Upd w w' b (.cells (accC m false 0 (List.replicate 16 0)) 64 (0, 0)) := by
 have c0 : w.cell? ⟨b, 0, none⟩ = some (.int .i64 (4 * (m : Int))) := by rw [h.cell]; rfl
 go_enter Try.func16, Try.ntmps16
 go_wp2_with (first
  | (refine wpList_store_upd rfl 64 (.tmp 8) (.tmp 7) rfl b (accC m false 0 (List.replicate 16 0)) rfl rfl 64 _ h (by rw [acc_size _ _ _ _ rfl]; kernel_rfl) (by rw [acc_size _ _ _ _ hl, acc_size _ _ _ _ rfl]) (acc_one _ _ _ _) ?_; intro W1 hU))
 go_end0
 exact ⟨rfl, hU⟩
end Go.Proofs.Ytgaaeehohhnocaa.F
