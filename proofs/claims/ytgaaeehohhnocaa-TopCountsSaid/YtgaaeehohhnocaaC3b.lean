/- Walks of the accumulator: room and Load, of .. -/
import Derived.Test.YtgaaeehohhnocaaC1b
import Derived.Laws.CopyRow
namespace Go.Proofs.Ytgaaeehohhnocaa.F
open RowKit YtgaaeehohhnocaaW PrintWords PrintLast PrintMore
attribute [local go_sem high] xor_u64 xor_u32
set_option linter.all false
theorem magW_zero (m : Nat) : magW m (List.replicate 16 0) = List.replicate 16 0 := by
 unfold magW
 rw [if_neg]
 have : (List.replicate 16 0).getD (m - 1) 0 = 0 := by
  rw [List.getD_eq_getElem?_getD, List.getElem?_replicate]
  split <;> rfl
 rw [this]; decide
set_option maxHeartbeats 4000000 in
set_option maxRecDepth 100000 in
theorem room_calls (b m : Nat) (t : Int) (w : World) (hm : m = 2 ∨ m = 4 ∨ m = 8 ∨ m = 16) (h : AccB w b m false t (List.replicate 16 0)) (h0 : 0 < t) (h1 : t < 9223372036854775808) :
  Calls Try.prog 46 #[.pointer (some ⟨b, 0, none⟩)] w fun e w' => e = .returned (.bool true) ∧ Below w.heap.size w w' := by
 have hu62 := Try.underlying62
 have HM : Aside0 (∀ W, AccB W b m false t (List.replicate 16 0) → Calls Try.prog 38 #[.pointer (some ⟨b, 0, none⟩)] W fun e w' => e = .returned (.agg ((List.replicate 16 0).map wordV).toArray) ∧ Below W.heap.size W w') := ⟨fun W hW => by
  have := magnitude_calls b m false t (List.replicate 16 0) W hW (by omega) (by omega) rfl (fun x hx => by rw [List.eq_of_mem_replicate hx]; decide)
  rwa [magW_zero] at this⟩
 have HS : Aside0 (∀ W, AccB W b m false t (List.replicate 16 0) → Calls Try.prog 37 #[.pointer (some ⟨b, 0, none⟩)] W fun e w' => e = .returned (.int .i64 (m : Int)) ∧ w' = W) := ⟨fun W hW => size_calls b m false t _ W hW (by omega)⟩
 have H := Aside0.mk h
 have ht1 : IntKind.u64.wrap t = t := by
  have : t = ((t.toNat : Nat) : Int) := by omega
  rw [this, wrap_nat, Nat.mod_eq_of_lt (by omega)]
 have ht2 : ((0 : Int) != t) = true := by rw [bne_iff_ne]; omega
 have ht3 : decide ((0 : Int) < t) = true := decide_eq_true h0
 have HB := Aside0.mk (Below.refl w.heap.size w)
 clear h h0 h1
 rcases hm with rfl | rfl | rfl | rfl
 ·
  have c0 : w.cell? ⟨b, 0, none⟩ = some (.int .i64 8) := H.out.c0
  go_enter Try.func46, Try.ntmps46
  go_wp2_with (first
   | (go_at_call 38; (with_reducible refine (HM.out _ H.out).mono ?_); rintro e w1 ⟨rfl, hb1⟩)
   | (refine wpList_store_upd rfl 62 (.tmp 3) (.tmp 9) rfl w1.heap.size ((List.replicate 16 0).map wordV).toArray rfl rfl 62 _ (alloc_new w1 _) (by kernel_rfl) rfl (words_one _) ?_; intro W1 hU; have hA0 := H.out.same (hb1.block b H.out.lt); have HA1 := Aside0.mk (hA0.same ((hU.other b (Nat.ne_of_lt hA0.lt)).trans (alloc_old w1 _ b hA0.lt))); have HB1 := Aside0.mk (hU.below (below_alloc hb1 _) hb1.size); have z0 : W1.cell? ⟨b, 0, none⟩ = some (.int .i64 8) := HA1.out.c0; have z2 := HA1.out.c2; have zi : W1.cell? ⟨w1.heap.size, 1, none⟩ = some (.int .u64 0) := (by unfold World.cell?; rw [hU.here]; rfl); clear hU hA0)
   | (go_at_call 37; (with_reducible refine (HS.out _ HA1.out).mono ?_); rintro e w' ⟨rfl, rfl⟩))
  go_ret
  exact ⟨rfl, HB1.out⟩
 ·
  have c0 : w.cell? ⟨b, 0, none⟩ = some (.int .i64 16) := H.out.c0
  go_enter Try.func46, Try.ntmps46
  go_wp2_with (first
   | (go_at_call 38; (with_reducible refine (HM.out _ H.out).mono ?_); rintro e w1 ⟨rfl, hb1⟩)
   | (refine wpList_store_upd rfl 62 (.tmp 3) (.tmp 9) rfl w1.heap.size ((List.replicate 16 0).map wordV).toArray rfl rfl 62 _ (alloc_new w1 _) (by kernel_rfl) rfl (words_one _) ?_; intro W1 hU; have hA0 := H.out.same (hb1.block b H.out.lt); have HA1 := Aside0.mk (hA0.same ((hU.other b (Nat.ne_of_lt hA0.lt)).trans (alloc_old w1 _ b hA0.lt))); have HB1 := Aside0.mk (hU.below (below_alloc hb1 _) hb1.size); have z0 : W1.cell? ⟨b, 0, none⟩ = some (.int .i64 16) := HA1.out.c0; have z2 := HA1.out.c2; have zi : W1.cell? ⟨w1.heap.size, 3, none⟩ = some (.int .u64 0) := (by unfold World.cell?; rw [hU.here]; rfl); clear hU hA0)
   | (go_at_call 37; (with_reducible refine (HS.out _ HA1.out).mono ?_); rintro e w' ⟨rfl, rfl⟩))
  go_ret
  exact ⟨rfl, HB1.out⟩
 ·
  have c0 : w.cell? ⟨b, 0, none⟩ = some (.int .i64 32) := H.out.c0
  go_enter Try.func46, Try.ntmps46
  go_wp2_with (first
   | (go_at_call 38; (with_reducible refine (HM.out _ H.out).mono ?_); rintro e w1 ⟨rfl, hb1⟩)
   | (refine wpList_store_upd rfl 62 (.tmp 3) (.tmp 9) rfl w1.heap.size ((List.replicate 16 0).map wordV).toArray rfl rfl 62 _ (alloc_new w1 _) (by kernel_rfl) rfl (words_one _) ?_; intro W1 hU; have hA0 := H.out.same (hb1.block b H.out.lt); have HA1 := Aside0.mk (hA0.same ((hU.other b (Nat.ne_of_lt hA0.lt)).trans (alloc_old w1 _ b hA0.lt))); have HB1 := Aside0.mk (hU.below (below_alloc hb1 _) hb1.size); have z0 : W1.cell? ⟨b, 0, none⟩ = some (.int .i64 32) := HA1.out.c0; have z2 := HA1.out.c2; have zi : W1.cell? ⟨w1.heap.size, 7, none⟩ = some (.int .u64 0) := (by unfold World.cell?; rw [hU.here]; rfl); clear hU hA0)
   | (go_at_call 37; (with_reducible refine (HS.out _ HA1.out).mono ?_); rintro e w' ⟨rfl, rfl⟩))
  go_ret
  exact ⟨rfl, HB1.out⟩
 ·
  have c0 : w.cell? ⟨b, 0, none⟩ = some (.int .i64 64) := H.out.c0
  go_enter Try.func46, Try.ntmps46
  go_wp2_with (first
   | (go_at_call 38; (with_reducible refine (HM.out _ H.out).mono ?_); rintro e w1 ⟨rfl, hb1⟩)
   | (refine wpList_store_upd rfl 62 (.tmp 3) (.tmp 9) rfl w1.heap.size ((List.replicate 16 0).map wordV).toArray rfl rfl 62 _ (alloc_new w1 _) (by kernel_rfl) rfl (words_one _) ?_; intro W1 hU; have hA0 := H.out.same (hb1.block b H.out.lt); have HA1 := Aside0.mk (hA0.same ((hU.other b (Nat.ne_of_lt hA0.lt)).trans (alloc_old w1 _ b hA0.lt))); have HB1 := Aside0.mk (hU.below (below_alloc hb1 _) hb1.size); have z0 : W1.cell? ⟨b, 0, none⟩ = some (.int .i64 64) := HA1.out.c0; have z2 := HA1.out.c2; have zi : W1.cell? ⟨w1.heap.size, 15, none⟩ = some (.int .u64 0) := (by unfold World.cell?; rw [hU.here]; rfl); clear hU hA0)
   | (go_at_call 37; (with_reducible refine (HS.out _ HA1.out).mono ?_); rintro e w' ⟨rfl, rfl⟩))
  go_ret
  exact ⟨rfl, HB1.out⟩
end Go.Proofs.Ytgaaeehohhnocaa.F

namespace Go.Proofs.Ytgaaeehohhnocaa.F
open RowKit YtgaaeehohhnocaaW PrintWords PrintLast PrintMore
attribute [local go_sem high] xor_u64 xor_u32
set_option linter.all false
abbrev HeldL (g0 gw b m : Nat) (t : Int) (w W : World) : Prop := W.cell? ⟨g0, 0, none⟩ = some (.int .i64 (4 * (m : Int))) ∧ W.cell? ⟨g0, 1, none⟩ = some (.bool false) ∧ W.cell? ⟨g0, 2, none⟩ = some (.int .i64 t) ∧ W.cell? ⟨g0, 3, none⟩ = some (.slice (some ⟨gw, 0, none⟩) m m) ∧
 Aside0 (AccB W b m false 0 (List.replicate 16 0) ∧ Below w.heap.size w W ∧ W.heap[g0]? = some (.cells #[.int .i64 (4 * (m : Int)), .bool false, .int .i64 t, .slice (some ⟨gw, 0, none⟩) m m] 48 (0, 0)) ∧ W.heap[gw]? = some (.cells (Array.replicate m (.int .u64 0)) 34 (0, 0)))
theorem HeldL.of {g0 gw b m : Nat} {t : Int} {w W : World} (h : AccB W b m false 0 (List.replicate 16 0)) (k : Below w.heap.size w W) (e : W.heap[g0]? = some (.cells #[.int .i64 (4 * (m : Int)), .bool false, .int .i64 t, .slice (some ⟨gw, 0, none⟩) m m] 48 (0, 0))) (f : W.heap[gw]? = some (.cells (Array.replicate m (.int .u64 0)) 34 (0, 0))) : HeldL g0 gw b m t w W := by
 obtain ⟨z0, z1, z2, z3, _⟩ := cl4 e
 exact ⟨z0, z1, z2, z3, ⟨⟨h, k, e, f⟩⟩⟩
theorem HeldL.drew {g0 gw b m : Nat} {t : Int} {w W : World} (h : HeldL g0 gw b m t w W) : HeldL g0 gw b m t w W.drew := .of h.2.2.2.2.out.1 h.2.2.2.2.out.2.1.drew h.2.2.2.2.out.2.2.1 h.2.2.2.2.out.2.2.2
theorem HeldL.acc {g0 gw b m : Nat} {t : Int} {w W : World} (h : HeldL g0 gw b m t w W) : AccB W b m false 0 (List.replicate 16 0) := h.2.2.2.2.out.1
theorem HeldL.two {g0 gw b m : Nat} {t : Int} {w W : World} (h : HeldL g0 gw b m t w W) (hb : w.heap.size ≤ b) (h0 : g0 ≠ b) (h1 : gw ≠ b) : AccB ((W.setCell ⟨b, 1, none⟩ (.bool false)).setCell ⟨b, 2, none⟩ (.int .i64 t)).drew b m false t (List.replicate 16 0) ∧ Below w.heap.size w ((W.setCell ⟨b, 1, none⟩ (.bool false)).setCell ⟨b, 2, none⟩ (.int .i64 t)).drew ∧ ((W.setCell ⟨b, 1, none⟩ (.bool false)).setCell ⟨b, 2, none⟩ (.int .i64 t)).drew.heap[g0]? = some (.cells #[.int .i64 (4 * (m : Int)), .bool false, .int .i64 t, .slice (some ⟨gw, 0, none⟩) m m] 48 (0, 0)) ∧ ((W.setCell ⟨b, 1, none⟩ (.bool false)).setCell ⟨b, 2, none⟩ (.int .i64 t)).drew.heap[gw]? = some (.cells (Array.replicate m (.int .u64 0)) 34 (0, 0)) := by
 have u1 := Upd.cell (i := 1) (v := .bool false) h.acc
 have u2 := Upd.cell (i := 2) (v := .int .i64 t) u1.here
 have u := u1.trans u2
 exact ⟨u.here, (u.below h.2.2.2.2.out.2.1 hb).drew, (u.other g0 h0).trans h.2.2.2.2.out.2.2.1, (u.other gw h1).trans h.2.2.2.2.out.2.2.2⟩
set_option maxRecDepth 100000 in
theorem copy_zero {W : World} {b m gw : Nat} {t : Int} (h1 : m ≤ 16) (hA : AccB W b m false t (List.replicate 16 0)) (hG : W.heap[gw]? = some (.cells (Array.replicate m (.int .u64 0)) 34 (0, 0))) : (Builtin.copy_ #[46, 46] 3 #[.slice (some ⟨b, 3, none⟩) 16 16, .slice (some ⟨gw, 0, none⟩) m m]).run Try.prog W = .ok (goInt (m : Int)) W := by
 have hu46 : Try.prog.underlying 46 = some (.slice 34) := by kernel_rfl
 have hs : (Try.prog.info? 34).map (·.size) = some 1 := by kernel_rfl
 have hlen : (List.replicate m (Value.int .u64 0)).length = m := List.length_replicate
 have h := run_copy_row (P := Try.prog) W 46 46 3 34 b 3 16 16 ⟨gw, 0, none⟩ m m (accC m false t (List.replicate 16 0)) 64 (List.replicate m (.int .u64 0)) hu46 hs hA (by rw [hlen]; show m = Nat.min m 16; exact (Nat.min_eq_left h1).symm)
  (fun j v hv => by
   have hj : j < m := by
    rcases Nat.lt_or_ge j m with c | c
    ·
     exact c
    ·
     rw [List.getElem?_eq_none (by rw [hlen]; exact c)] at hv; cases hv
   rw [List.getElem?_replicate, if_pos hj] at hv
   have hadd : (⟨gw, 0, none⟩ : Addr).add j = ⟨gw, j, none⟩ := by unfold Addr.add; split <;> simp_all
   rw [hadd]
   unfold World.cell?
   rw [hG]
   show (Array.replicate m (Value.int .u64 0))[j]? = some v
   rw [Array.getElem?_replicate, if_pos hj]; exact hv)
  (by rw [hlen, acc_size _ _ _ _ List.length_replicate]; omega) (fun v hv => by rw [List.eq_of_mem_replicate hv]; rfl)
 have hrow : ((accC m false t (List.replicate 16 0)).toList.take 3 ++ List.replicate m (Value.int .u64 0) ++ (accC m false t (List.replicate 16 0)).toList.drop (3 + m)).toArray = accC m false t (List.replicate 16 0) := by
  have e : (accC m false t (List.replicate 16 0)).toList = [.int .i64 (4 * (m : Int)), .bool false, .int .i64 t] ++ List.replicate 16 (Value.int .u64 0) := by
   unfold accC rowC
   simp only [List.append_nil, List.map_replicate]
   rfl
  rw [e]
  have e1 : (([.int .i64 (4 * (m : Int)), .bool false, .int .i64 t] : List Value) ++ List.replicate 16 (Value.int .u64 0)).take 3 = [.int .i64 (4 * (m : Int)), .bool false, .int .i64 t] := rfl
  have e2 : (([.int .i64 (4 * (m : Int)), .bool false, .int .i64 t] : List Value) ++ List.replicate 16 (Value.int .u64 0)).drop (3 + m) = List.replicate (16 - m) (Value.int .u64 0) := by
   rw [List.drop_append, List.drop_replicate, List.drop_eq_nil_of_le (by simp), List.nil_append]
   congr 1
   simp
  rw [e1, e2, List.append_assoc, List.replicate_append_replicate, show m + (16 - m) = 16 by omega, ← e, Array.toArray_toList]
 rw [h, hlen, hrow, setRow_same hA]
set_option maxHeartbeats 4000000 in
set_option maxRecDepth 100000 in
theorem load_calls (kf m gw : Nat) (t : Int) (d1 : Int) (d2 : Bool) (d3 d4 : Int) (w : World) (hm : m = 2 ∨ m = 4 ∨ m = 8 ∨ m = 16) (hd : codec_Decode.f kf (4 * (m : Int)) 0 = some (d1, d2, d3, d4, none)) (h : w.heap[gw]? = some (.cells (Array.replicate m (.int .u64 0)) 34 (0, 0))) (h0 : 0 < t) (h1 : t ≤ 2147483647) :
  Calls Try.prog 22 #[.agg #[.int .i64 (4 * (m : Int)), .bool false, .int .i64 t, .slice (some ⟨gw, 0, none⟩) m m]] w fun e w' => ∃ g, w.heap.size ≤ g ∧ e = .returned (.tuple #[.pointer (some ⟨g, 0, none⟩), errW none]) ∧ AccB w' g m false t (List.replicate 16 0) ∧ Below w.heap.size w w' := by
 have hu48 := Try.underlying48
 have hu62 := Try.underlying62
 have hu46 : Try.prog.underlying 46 = some (.slice 34) := by kernel_rfl
 have hu25 := Try.underlying25
 have H := Aside0.mk h
 have A3 := Aside0.mk hd
 have HR : Aside0 (∀ b W, AccB W b m false t (List.replicate 16 0) → Calls Try.prog 46 #[.pointer (some ⟨b, 0, none⟩)] W fun e w' => e = .returned (.bool true) ∧ Below W.heap.size W w') := ⟨fun b W hW => room_calls b m t W hm hW h0 (by omega)⟩
 have HS : Aside0 (∀ b W t, AccB W b m false t (List.replicate 16 0) → Calls Try.prog 37 #[.pointer (some ⟨b, 0, none⟩)] W fun e w' => e = .returned (.int .i64 (m : Int)) ∧ w' = W) := ⟨fun b W t hW => size_calls b m false t _ W hW (by omega)⟩
 have h16 : m ≤ 16 := by omega
 have ht2 : decide (t < 0) = false := decide_eq_false (by omega)
 have ht3 : decide ((2147483647 : Int) < t) = false := decide_eq_false (by omega)
 have HB := Aside0.mk (Below.refl w.heap.size w)
 obtain ⟨W0, hW0⟩ : ∃ W0, W0 = w.alloc (.cells #[.int .i64 (4 * (m : Int)), .bool false, .int .i64 t, .slice (some ⟨gw, 0, none⟩) m m] 48 (0, 0)) := ⟨_, rfl⟩
 obtain ⟨g0, hg0⟩ : ∃ g0, g0 = w.heap.size := ⟨_, rfl⟩
 have HX : Aside0 (W0.heap[g0]? = some (.cells #[.int .i64 (4 * (m : Int)), .bool false, .int .i64 t, .slice (some ⟨gw, 0, none⟩) m m] 48 (0, 0))) := ⟨by rw [hW0, hg0]; exact alloc_new w _⟩
 have HB0 : Aside0 (Below w.heap.size w W0) := ⟨by rw [hW0]; exact below_alloc (Below.refl _ _) _⟩
 have HG : Aside0 (W0.heap[gw]? = some (.cells (Array.replicate m (.int .u64 0)) 34 (0, 0))) := ⟨keepK HB0.out h⟩
 have HW := Aside0.mk hW0
 have HG0 := Aside0.mk hg0
 clear h hd h0 h1 hW0 hg0
 go_enter Try.func22, Try.ntmps22
 go_upto_region 1 with (fail)
 rw [← HW.out, ← HG0.out]
 obtain ⟨z0, z1, z2, z3, _, _, _, _⟩ := cl4 HX.out
 go_upto_region 2 with (first
  | (go_at_call 5; (with_reducible refine (new_calls kf m d1 d2 d3 d4 _ A3.out).mono ?_); rintro e W1 ⟨b, hb, rfl, ha, hw1⟩; have HA1 := Aside0.mk ha; have HB1 := Aside0.mk (below_step HB0.out hw1); have HX1 := Aside0.mk (keepK hw1 HX.out); have HGW := Aside0.mk (keepK hw1 HG.out); have HBG := Aside0.mk hb; clear ha hw1 hb z0 z1 z2 z3; simp only [errW_none]))
 obtain ⟨z0, z1, z2, z3, _, _, _, _⟩ := cl4 HX1.out
 go_upto_region 4 with (fail)
 have HL : HeldL g0 gw b m t w W1 := HeldL.of HA1.out HB1.out HX1.out HGW.out
 clear z0 z1 z2 z3
 go_region_held3 (fun W => W.cell? ⟨g0, 0, none⟩ = some (.int .i64 (4 * (m : Int))) ∧ W.cell? ⟨g0, 1, none⟩ = some (.bool false) ∧ W.cell? ⟨g0, 2, none⟩ = some (.int .i64 t) ∧ W.cell? ⟨g0, 3, none⟩ = some (.slice (some ⟨gw, 0, none⟩) m m) ∧
  Aside0 (AccB W b m false 0 (List.replicate 16 0) ∧ Below w.heap.size w W ∧ W.heap[g0]? = some (.cells #[.int .i64 (4 * (m : Int)), .bool false, .int .i64 t, .slice (some ⟨gw, 0, none⟩) m m] 48 (0, 0)) ∧ W.heap[gw]? = some (.cells (Array.replicate m (.int .u64 0)) 34 (0, 0)))) ((first | with_reducible exact HL.drew)) (first
  | (go_at_call 37; (with_reducible refine (HS.out b _ 0 (HL.drew).acc).mono ?_); rintro e w' ⟨rfl, rfl⟩))
 (try simp only [Exit.inBlock, Exit.then])
 go_upto_region 6 with (fail)
 obtain ⟨W2, hW2⟩ : ∃ W2, W2 = W1.drew := ⟨_, rfl⟩
 have HL2 : Aside0 (HeldL g0 gw b m t w W2) := ⟨by rw [hW2]; exact HL.drew⟩
 rw [← hW2]
 have hgb : g0 ≠ b := by
  have h1 := (Array.getElem?_eq_some_iff.1 HX.out).1
  have := HBG.out
  omega
 have hgw : gw ≠ b := by
  have h1 := (Array.getElem?_eq_some_iff.1 HG.out).1
  have := HBG.out
  omega
 have hgb2 : b ≠ g0 := fun e => hgb e.symm
 clear HL hW2
 have x1 := HL2.out.acc.c1
 have x2 := HL2.out.acc.c2
 have f1 := HL2.out.acc.fz 1
 have f2 := HL2.out.acc.fz 2
 obtain ⟨z0, z1, z2, z3, _⟩ := HL2.out
 go_region_with (fail)
 all_goals (
  (try simp only [Exit.inBlock, Exit.then])
  obtain ⟨ha3, hb3, hx3, hw3⟩ := HL2.out.two (show w.heap.size ≤ b from by have := HBG.out; have := HB0.out.size; omega) hgb hgw
  have e3 : ((W2.setCell ⟨b, 1, none⟩ (.bool false)).setCell ⟨b, 2, none⟩ (.int .i64 t)).drew.heap = ((W2.setCell ⟨b, 1, none⟩ (.bool false)).setCell ⟨b, 2, none⟩ (.int .i64 t)).drew.heap := rfl
  generalize ((W2.setCell ⟨b, 1, none⟩ (.bool false)).setCell ⟨b, 2, none⟩ (.int .i64 t)).drew = W3 at *
  clear e3 x1 x2 f1 f2 z0 z1 z2 z3
  have HA3 := Aside0.mk ha3
  have HB3 := Aside0.mk hb3
  have HX3 := Aside0.mk hx3
  have HG3 := Aside0.mk hw3
  clear ha3 hb3 hx3 hw3
  obtain ⟨z0, z1, z2, z3, _⟩ := cl4 HX3.out
  go_upto_region 7 with (fail)
  have hcp := copy_zero (W := W3.drew) h16 (HA3.out.same rfl) HG3.out
  go_region_with (fail)
  all_goals (
   (try simp only [Exit.inBlock, Exit.then])
   have HA4 : Aside0 (AccB W3.drew b m false t (List.replicate 16 0)) := ⟨HA3.out.same rfl⟩
   obtain ⟨z0, z1, z2, z3, _⟩ := cl4 (show W3.drew.heap[g0]? = _ from HX3.out)
   go_wp2_with (first
    | (go_at_call 46; (with_reducible refine (HR.out b _ HA4.out).mono ?_); rintro e W4 ⟨rfl, hb4⟩; have HB4 := Aside0.mk hb4; clear hb4))
   go_ret2
   exact ⟨b, by have := HBG.out; have := HB0.out.size; omega, rfl, HA4.out.same (HB4.out.block b HA4.out.lt), below_step HB3.out.drew HB4.out⟩))
end Go.Proofs.Ytgaaeehohhnocaa.F
