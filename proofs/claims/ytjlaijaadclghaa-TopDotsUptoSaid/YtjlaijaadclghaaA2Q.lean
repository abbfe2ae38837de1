/- Walks of the accumulator: magnitude; .. -/
import Derived.Test.YtjlaijaadclghaaA1Q
namespace Go.Proofs.Ytjlaijaadclghaa.F
open RowKit YtjlaijaadclghaaW PrintWords PrintLast PrintMore
attribute [local go_sem high] xor_u64 xor_u32
set_option linter.all false
theorem run_loadVar_in {P : Program} (w : World) (g off : Nat) (ty : TypeId) (vs : List Value) (d : TypeDesc) (hc : ∀ j v, vs[j]? = some v → w.cell? ⟨g, off + j, none⟩ = some v)
  (hu : P.underlying ty = some d) (hd : (match d with | .struct _ | .array _ _ => true | _ => false) = true) (hi : (P.info? ty).map (·.size) = some vs.length) :
  (loadVar ty ⟨g, off, none⟩).run P w = .ok (.agg vs.toArray) w := by
 have hl : (loadCells ⟨g, off, none⟩ vs.length).run P w = .ok vs.toArray w :=
  run_loadCells_list (P := P) w ⟨g, off, none⟩ vs (fun j v hv => by
   have hadd : (⟨g, off, none⟩ : Addr).add j = ⟨g, off + j, none⟩ := by unfold Addr.add; split <;> simp_all
   rw [hadd]
   exact hc j v hv)
 cases hq : P.info? ty with
 | none => simp [hq] at hi
 | some i =>
  have hs : i.size = vs.length := by simpa [hq] using hi
  have hagg : (isAgg ty).run P w = .ok true w := by
   unfold isAgg
   rw [Sem.run_bind, run_underlying hu w]
   cases d <;> simp_all
  simp [loadVar, Sem.run_bind, hagg, sizeOf, typeInfo, hq, hs, hl]
theorem wpList_load_in {P : Program} {ops : Array Oper} {rest : List Oper} {o : Oper} {a : Act} {w : World} {Q : Exit → Act → World → Prop} (hgd : o.guard = none) (ty : TypeId) (x : Operand) (ho : o.op = .load ty x)
  (g off : Nat) (hx : a.eval x = .pointer (some ⟨g, off, none⟩)) (vs : List Value) (hc : ∀ j v, vs[j]? = some v → w.cell? ⟨g, off + j, none⟩ = some v) (d : TypeDesc)
  (hu : P.underlying ty = some d) (hd : (match d with | .struct _ | .array _ _ => true | _ => false) = true) (hi : (P.info? ty).map (·.size) = some vs.length)
  (h : wpList P ops Q rest (a.put o.dst (.agg vs.toArray)) w) : wpList P ops Q (o :: rest) a w := by
 refine wpList_plain hgd fun _ hK => ?_
 unfold Oper.wp execOp
 simp only [ho, hx, Instr.loadAt, Instr.sureAddr, Sem.run_bind, Sem.run_pure, Result.andThen_ok, run_loadVar_in w g off ty vs d hc hu hd hi]
 exact hK _ _ h
theorem AccB.words {W : World} {b m : Nat} {nar : Bool} {t : Int} {ws : List Nat} (h : AccB W b m nar t ws) : ∀ j v, (ws.map wordV)[j]? = some v → W.cell? ⟨b, 3 + j, none⟩ = some v := by
 intro j v hv
 rw [List.getElem?_map] at hv
 obtain ⟨x, hx, rfl⟩ := Option.map_eq_some_iff.mp hv
 obtain ⟨hj, rfl⟩ := List.getElem?_eq_some_iff.mp hx
 rw [h.word hj]
 unfold wordV
 simp [List.getD_eq_getElem?_getD, hj]
structure Upd (w W : World) (g : Nat) (o : Obj) : Prop where
 os : W.os = w.os
 tape : W.tape = w.tape
 output : W.output = w.output
 size : W.heap.size = w.heap.size
 here : W.heap[g]? = some o
 other : ∀ k, k ≠ g → W.heap[k]? = w.heap[k]?
theorem Upd.setRow {w : World} {g : Nat} {old cs : Array Value} {ty : TypeId} {fr : Nat × Nat} (h : w.heap[g]? = some (.cells old ty fr)) : Upd w (w.setRow g cs) g (.cells cs ty fr) :=
 ⟨rfl, rfl, rfl, size_setRow w g cs, setRow_heap w g old cs ty fr h, fun k hk => setRow_other w g k cs hk⟩
theorem Upd.drewN {w W : World} {g : Nat} {o : Obj} (h : Upd w W g o) (k : Nat) : Upd w (W.drewN k) g o := ⟨h.os, h.tape, h.output, h.size, h.here, h.other⟩
theorem Upd.below {B : Nat} {w0 w W : World} {g : Nat} {o : Obj} (h : Upd w W g o) (hb : Below B w0 w) (hg : B ≤ g) : Below B w0 W :=
 ⟨h.os.trans hb.os, h.tape.trans hb.tape, h.output.trans hb.output, by rw [h.size]; exact hb.size, fun k hk => (h.other k (by omega)).trans (hb.block k hk)⟩
theorem wpList_store_upd {P : Program} {ops : Array Oper} {rest : List Oper} {o : Oper} {a : Act} {w : World} {Q : Exit → Act → World → Prop} (hgd : o.guard = none) (ty : TypeId) (x y : Operand) (ho : o.op = .store ty x y)
  (g : Nat) (cells : Array Value) (hx : a.eval x = .pointer (some ⟨g, 0, none⟩)) (hy : a.eval y = .agg cells)
  (t : TypeId) (old : Array Value) (hg : w.heap[g]? = some (.cells old t (0, 0))) (hi : (P.info? ty).map (·.size) = some cells.size)
  (hold : old.size = cells.size) (h1 : cells.all (·.oneCell') = true)
  (h : ∀ W, Upd w W g (.cells cells t (0, 0)) → wpList P ops Q rest (a.put o.dst undef) W) : wpList P ops Q (o :: rest) a w :=
 wpList_store_row hgd ty x y ho g cells hx hy t old hg hi hold h1 (h _ (Upd.setRow hg))
theorem alloc_new (w : World) (o : Obj) : (w.alloc o).heap[w.heap.size]? = some o := by
 show (w.heap.push o)[w.heap.size]? = some o
 simp
theorem alloc2_new (w : World) (A B : Obj) : ((w.alloc A).alloc B).heap[w.heap.size + 1]? = some B := by
 have h := alloc_new (w.alloc A) B
 have e : (w.alloc A).heap.size = w.heap.size + 1 := by
  show (w.heap.push A).size = _
  simp
 rwa [e] at h
theorem alloc_old (w : World) (o : Obj) (i : Nat) (h : i < w.heap.size) : (w.alloc o).heap[i]? = w.heap[i]? := by
 show (w.heap.push o)[i]? = w.heap[i]?
 rw [Array.getElem?_push, if_neg (Nat.ne_of_lt h)]
theorem alloc2_old (w : World) (A B : Obj) : ((w.alloc A).alloc B).heap[w.heap.size]? = some A := by
 rw [alloc_old (w.alloc A) B w.heap.size (by show w.heap.size < (w.heap.push A).size; simp)]
 exact alloc_new w A
theorem sl62 {m : Nat} (hm : m ≤ 16) (g off : Nat) (w : World) : (Instr.sliceAt 60 (.pointer (some ⟨g, off, none⟩)) none (some (.int .i64 (m : Int))) none).run Try.prog w = .ok (.slice (some ⟨g, off, none⟩) m 16) w := by
 have hu : Try.prog.underlying 60 = some (.array (Try.prog.arrayLen 60) (Try.prog.elem 60)) := by kernel_rfl
 have ha : Try.prog.arrayLen 60 = 16 := by kernel_rfl
 rw [run_sliceAt_array_h w 60 ⟨g, off, none⟩ hu .i64 (m : Int) (by omega) (by rw [ha]; omega), ha]
 have hs : (sizeOf (Try.prog.elem 60)).run Try.prog w = .ok 1 w := by
  have hi : (Try.prog.info? (Try.prog.elem 60)).map (·.size) = some 1 := by kernel_rfl
  cases hq : Try.prog.info? (Try.prog.elem 60) with
  | none => rw [hq] at hi; cases hi
  | some i =>
   rw [hq] at hi
   have : i.size = 1 := by simpa using hi
   simp [sizeOf, typeInfo, hq, this]
 rw [hs]
 simp [slicedAt, Addr.add]
theorem words_one (ws : List Nat) : (ws.map wordV).toArray.all (·.oneCell') = true := by
 rw [Array.all_eq_true]
 intro i hi
 simp only [List.getElem_toArray, List.getElem_map]
 rfl
theorem AccB.lt {W : World} {b m : Nat} {nar : Bool} {t : Int} {ws : List Nat} (h : AccB W b m nar t ws) : b < W.heap.size := (Array.getElem?_eq_some_iff.1 h).1
theorem AccB.same {W V : World} {b m : Nat} {nar : Bool} {t : Int} {ws : List Nat} (h : AccB W b m nar t ws) (e : V.heap[b]? = W.heap[b]?) : AccB V b m nar t ws := e.trans h
def magW (m : Nat) (ws : List Nat) : List Nat := if 9223372036854775808 ≤ ws.getD (m - 1) 0 then turnC (ws.take m) 1 ++ ws.drop m else ws
theorem row_split (m : Nat) (ws : List Nat) : (ws.map wordV).toArray = rowC [] ((ws.drop m).map wordV) (ws.take m) := by
 unfold rowC
 rw [List.nil_append, ← List.map_append, List.take_append_drop]
theorem row_join (m : Nat) (ys ws : List Nat) : rowC [] ((ws.drop m).map wordV) ys = ((ys ++ ws.drop m).map wordV).toArray := by
 unfold rowC
 rw [List.nil_append, List.map_append]
set_option maxHeartbeats 2000000 in
set_option maxRecDepth 100000 in
theorem magnitude_calls (b m : Nat) (nar : Bool) (t : Int) (ws : List Nat) (w : World) (h : AccB w b m nar t ws) (h0 : 1 ≤ m) (h1 : m ≤ 16) (hl : ws.length = 16) (hw : ∀ x ∈ ws, x < 18446744073709551616) :
  Calls Try.prog 31 #[.pointer (some ⟨b, 0, none⟩)] w fun e w' => e = .returned (.agg ((magW m ws).map wordV).toArray) ∧ Below w.heap.size w w' := by
 have hu42 := Try.underlying60
 have hb0 := h.lt
 have hb := Aside0.mk hb0
 have hwm : ws.getD (m - 1) 0 < 18446744073709551616 := by
  rw [List.getD_eq_getElem?_getD, List.getElem?_eq_getElem (by omega)]
  exact hw _ (List.getElem_mem _)
 have BZ : Aside0 (∀ A B : Obj, Below w.heap.size w ((w.alloc A).alloc B)) := ⟨fun A B => below_alloc (below_alloc (Below.refl _ _) A) B⟩
 have BR : Aside0 (∀ A B : Obj, ((w.alloc A).alloc B).heap[w.heap.size]? = some A) := ⟨fun A B => alloc2_old w A B⟩
 clear hb0
 have hL : Aside0 (∀ W : World, W.heap[b]? = w.heap[b]? → ∀ j v, (ws.map wordV)[j]? = some v → W.cell? ⟨b, 3 + j, none⟩ = some v) := ⟨fun W e => (h.same e).words⟩
 obtain ⟨ng, hng⟩ : ∃ ng, ng = decide (9223372036854775808 ≤ ws.getD (m - 1) 0) := ⟨_, rfl⟩
 have hN : Aside0 (∀ W, AccB W b m nar t ws → Calls Try.prog 35 #[.pointer (some ⟨b, 0, none⟩)] W fun e w' => e = .returned (.bool ng) ∧ ∃ k, w' = W.drewN k) := ⟨fun W hW => by rw [hng]; exact negative_calls b m nar t ws W hW h0 h1 hl hwm⟩
 have hres : (magW m ws) = if ng = true then turnC (ws.take m) 1 ++ ws.drop m else ws := by unfold magW; rw [hng]; simp only [decide_eq_true_eq]
 have hlen : (magW m ws).length = 16 := by
  rw [hres]; split
  ·
   rw [List.length_append, turnC_length, ← List.length_append, List.take_append_drop, hl]
  ·
   exact hl
 clear hng hwm
 cases ng with
 | false =>
  have hm : magW m ws = ws := by rw [hres]; rfl
  rw [hm]
  clear hm hres hlen
  go_enter Try.func31, Try.ntmps31
  go_wp2_with (first
   | (refine wpList_load_in rfl 60 (.tmp 6) rfl b 3 rfl (ws.map wordV) ?ws _ Try.underlying60 rfl (by rw [List.length_map, hl]; kernel_rfl) ?_; (case ws => exact hL.out _ (alloc_old w _ b hb.out)))
   | (refine wpList_store_upd rfl 60 (.tmp 3) (.tmp 7) rfl (w.heap.size + 1) (ws.map wordV).toArray rfl rfl 60 _ (alloc2_new w _ _) (by rw [show (ws.map wordV).toArray.size = 16 by simp [hl]]; kernel_rfl) (by simp [hl]) (words_one ws) ?_; intro W1 hU; have hA : AccB W1 b m nar t ws := h.same ((hU.other b (by have := hb.out; omega)).trans ((BZ.out _ _).block b hb.out)); have hB := hU.below (BZ.out _ _) (by omega); have hC := Aside0.mk hU.here; have hD := Aside0.mk ((hU.other w.heap.size (by omega)).trans (BR.out _ _)); clear hU)
   | (go_at_call 35; (with_reducible refine (hN.out _ hA).mono ?_); rintro e w' ⟨rfl, ⟨k1, rfl⟩⟩)
   | (refine wpList_load_row rfl 60 (.tmp 3) rfl (w.heap.size + 1) rfl 60 (ws.map wordV).toArray (0, 0) _ hC.out Try.underlying60 rfl (by rw [show (ws.map wordV).toArray.size = 16 by simp [hl]]; kernel_rfl) ?_)
   | (refine wpList_store_upd rfl 60 (.tmp 2) (.tmp 14) rfl w.heap.size (ws.map wordV).toArray rfl rfl 60 _ hD.out (by rw [show (ws.map wordV).toArray.size = 16 by simp [hl]]; kernel_rfl) (by simp [hl]) (words_one ws) ?_; intro W2 hU; have hE := hU.below (pw_below_drewN hB _) (Nat.le_refl _); have hF := Aside0.mk hU.here; clear hU))
  (try simp only [Exit.inBlock, Exit.then])
  refine bodyPost_ret (results_cell_row rfl _ _ w.heap.size 60 (ws.map wordV).toArray (0, 0) _ rfl hF.out Try.underlying60 rfl (by rw [show (ws.map wordV).toArray.size = 16 by simp [hl]]; kernel_rfl)) rfl ?_
  exact ⟨rfl, hE⟩
 | true =>
  have hm : magW m ws = turnC (ws.take m) 1 ++ ws.drop m := by rw [hres]; rfl
  rw [hm] at hlen ⊢
  clear hm hres
  have ht : (ws.take m).length = m := by rw [List.length_take]; omega
  obtain ⟨rs, hrs⟩ : ∃ rs, rs = turnC (ws.take m) 1 ++ ws.drop m := ⟨_, rfl⟩
  rw [← hrs] at hlen ⊢
  have HRS := Aside0.mk hrs
  clear hrs
  have HT : Aside0 (∀ (W : World) (g : Nat), W.heap[g]? = some (.cells (ws.map wordV).toArray 60 (0, 0)) → Calls Try.prog 49 #[.slice (some ⟨g, 0, none⟩) m 16] W fun e w' => e = .returned (.tuple #[]) ∧ Upd W w' g (.cells (rs.map wordV).toArray 60 (0, 0))) := ⟨fun W g hW => by
   have hW0 := hW
   rw [row_split m ws] at hW
   have := turn_calls g 16 60 [] ((ws.drop m).map wordV) (ws.take m) W hW (fun x hx => hw x (List.mem_of_mem_take hx)) (by rw [ht]; exact h1)
   rw [ht, row_join, ← HRS.out] at this
   refine this.mono ?_
   rintro e w' ⟨he, k, rfl⟩
   exact ⟨he, Upd.drewN (Upd.setRow hW0) k⟩⟩
  clear ht
  have HS := @sl62 m h1
  go_enter Try.func31, Try.ntmps31
  go_wp2_with (first
   | (refine wpList_load_in rfl 60 (.tmp 6) rfl b 3 rfl (ws.map wordV) ?wt _ Try.underlying60 rfl (by rw [List.length_map, hl]; kernel_rfl) ?_; (case wt => exact hL.out _ (alloc_old w _ b hb.out)))
   | (refine wpList_store_upd rfl 60 (.tmp 3) (.tmp 7) rfl (w.heap.size + 1) (ws.map wordV).toArray rfl rfl 60 _ (alloc2_new w _ _) (by rw [show (ws.map wordV).toArray.size = 16 by simp [hl]]; kernel_rfl) (by simp [hl]) (words_one ws) ?_; intro W1 hU; have hA : AccB W1 b m nar t ws := h.same ((hU.other b (by have := hb.out; omega)).trans ((BZ.out _ _).block b hb.out)); have hB := hU.below (BZ.out _ _) (by omega); have hC := Aside0.mk hU.here; have hD := Aside0.mk ((hU.other w.heap.size (by omega)).trans (BR.out _ _)); clear hU)
   | (go_at_call 35; (with_reducible refine (hN.out _ hA).mono ?_); rintro e w' ⟨rfl, ⟨k1, rfl⟩⟩)
   | (go_at_call 32; (with_reducible refine (size_calls b m nar t ws _ (hA.drewN _) h1).mono ?_); rintro e w' ⟨rfl, rfl⟩)
   | (go_at_call 49; refine (HT.out (W1.drewN k1) (w.heap.size + 1) hC.out).mono ?_; rintro e W3 ⟨rfl, hU3⟩; have hB3 := hU3.below (pw_below_drewN hB k1) (by omega); have hC3 := Aside0.mk hU3.here; have hD3 := Aside0.mk ((hU3.other w.heap.size (by omega)).trans hD.out); clear hU3)
   | (refine wpList_load_row rfl 60 (.tmp 3) rfl (w.heap.size + 1) rfl 60 (rs.map wordV).toArray (0, 0) _ hC3.out Try.underlying60 rfl (by rw [show (rs.map wordV).toArray.size = 16 by simp [hlen]]; kernel_rfl) ?_)
   | (refine wpList_store_upd rfl 60 (.tmp 2) (.tmp 14) rfl w.heap.size (rs.map wordV).toArray rfl rfl 60 _ hD3.out (by rw [show (rs.map wordV).toArray.size = 16 by simp [hlen]]; kernel_rfl) (by simp [hlen]) (words_one rs) ?_; intro W2 hU; have hE := hU.below hB3 (Nat.le_refl _); have hF := Aside0.mk hU.here; clear hU))
  (try simp only [Exit.inBlock, Exit.then])
  refine bodyPost_ret (results_cell_row rfl _ _ w.heap.size 60 (rs.map wordV).toArray (0, 0) _ rfl hF.out Try.underlying60 rfl (by rw [show (rs.map wordV).toArray.size = 16 by simp [hlen]]; kernel_rfl)) rfl ?_
  exact ⟨rfl, hE⟩
end Go.Proofs.Ytjlaijaadclghaa.F
