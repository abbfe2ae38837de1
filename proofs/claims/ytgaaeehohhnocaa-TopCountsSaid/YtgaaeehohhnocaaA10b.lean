/- Walk of the accumulator's State; conditions: .. -/
import Derived.Test.YtgaaeehohhnocaaA8b
import Derived.Deep.RegionHeld3
import Derived.Deep.AppendLies
namespace Go.Proofs.Ytgaaeehohhnocaa.F
open RowKit YtgaaeehohhnocaaW PrintWords PrintLast PrintMore
attribute [local go_sem high] xor_u64 xor_u32
set_option linter.all false
abbrev HeldS (b m : Nat) (nar : Bool) (t : Int) (ws : List Nat) (w W : World) : Prop := Aside0 (AccB W b m nar t ws ∧ Below w.heap.size w W ∧ W.heap[w.heap.size]? = some (.cells #[.int .i64 0, .bool false, .int .i64 0, .slice none 0 0] 48 (0, 0)))
section
variable {b m : Nat} {nar : Bool} {t : Int} {ws : List Nat} {w W V : World}
theorem HeldS.drew (h : HeldS b m nar t ws w W) : HeldS b m nar t ws w W.drew := ⟨⟨h.out.1, h.out.2.1.drew, h.out.2.2⟩⟩
theorem HeldS.drewN (h : HeldS b m nar t ws w W) (k : Nat) : HeldS b m nar t ws w (W.drewN k) := ⟨⟨h.out.1, pw_below_drewN h.out.2.1 k, h.out.2.2⟩⟩
theorem HeldS.acc (h : HeldS b m nar t ws w W) : AccB W b m nar t ws := h.out.1
theorem HeldS.size (h : HeldS b m nar t ws w W) : w.heap.size ≤ W.heap.size := below_size h.out.2.1
theorem HeldS.grown {v : Value} (h : HeldS b m nar t ws w W) (g : W.grownBy V v.ownBlock) (e : v.ownBlock = none) : HeldS b m nar t ws w V := by
 have hb := fun k hk => g.block k hk (by rw [e]; intro c; cases c)
 exact ⟨⟨(h.out.1).same (hb b h.out.1.lt), h.out.2.1.grown g h.size (by rw [e]; intro k c; cases c), (hb _ (Array.getElem?_eq_some_iff.1 h.out.2.2).1).trans h.out.2.2⟩⟩
theorem HeldS.news (h : HeldS b m nar t ws w W) (hl : ws.length = 16) (h1 : m ≤ 16) : ∀ (j : Nat) (u : Value), ((ws.take m).map wordV)[j]? = some u → W.cell? ((⟨b, 3, none⟩ : Addr).add j) = some u := by
 intro j u hu
 have hadd : (⟨b, 3, none⟩ : Addr).add j = ⟨b, 3 + j, none⟩ := by unfold Addr.add; split <;> simp_all
 rw [hadd]
 refine h.out.1.words j u ?_
 rw [List.map_take] at hu
 rw [← hu, List.getElem?_take]
 split
 ·
  rfl
 ·
  rename_i c
  rw [List.getElem?_take, if_neg c] at hu
  cases hu
end
theorem four_set {W : World} {g : Nat} {ty : TypeId} {v0 v1 v2 v3 u0 u1 u2 u3 : Value} (h : W.heap[g]? = some (.cells #[v0, v1, v2, v3] ty (0, 0))) :
  ((((W.setCell ⟨g, 0, none⟩ u0).setCell ⟨g, 1, none⟩ u1).setCell ⟨g, 2, none⟩ u2).setCell ⟨g, 3, none⟩ u3).heap[g]? = some (.cells #[u0, u1, u2, u3] ty (0, 0)) := by
 have h0 := (Upd.cell (i := 0) (v := u0) h).here
 have h1 := (Upd.cell (i := 1) (v := u1) h0).here
 have h2 := (Upd.cell (i := 2) (v := u2) h1).here
 exact (Upd.cell (i := 3) (v := u3) h2).here
abbrev HeldT (b m : Nat) (nar : Bool) (t : Int) (ws : List Nat) (g : Nat) (cur : Array Value) (w W : World) : Prop := W.cell? ⟨b, 0, none⟩ = some (.int .i64 (4 * (m : Int))) ∧ W.cell? ⟨b, 1, none⟩ = some (.bool nar) ∧ W.cell? ⟨b, 2, none⟩ = some (.int .i64 t) ∧ Aside0 (AccB W b m nar t ws ∧ Below w.heap.size w W ∧ W.heap[g]? = some (.cells cur 34 (0, 0)))
section
variable {b m g : Nat} {nar : Bool} {t : Int} {ws : List Nat} {cur : Array Value} {w W V : World}
theorem HeldT.of (h : AccB W b m nar t ws) (k : Below w.heap.size w W) (e : W.heap[g]? = some (.cells cur 34 (0, 0))) : HeldT b m nar t ws g cur w W := ⟨h.c0, by rw [h.cell]; rfl, by rw [h.cell]; rfl, ⟨⟨h, k, e⟩⟩⟩
theorem HeldT.drew (h : HeldT b m nar t ws g cur w W) : HeldT b m nar t ws g cur w W.drew := ⟨h.1, h.2.1, h.2.2.1, ⟨⟨h.2.2.2.out.1, h.2.2.2.out.2.1.drew, h.2.2.2.out.2.2⟩⟩⟩
theorem HeldT.set {p o : Nat} {v : Value} (h : HeldT b m nar t ws g cur w W) (hp : w.heap.size ≤ p ∧ p ≠ g ∧ b < w.heap.size) : HeldT b m nar t ws g cur w (W.setCell ⟨p, o, none⟩ v) :=
 .of ((h.2.2.2.out.1).same (Below.heap_setCell _ _ _ _ (by show b ≠ p; omega))) (below_set h.2.2.2.out.2.1 hp.1) ((Below.heap_setCell _ _ _ _ (by show g ≠ p; omega)).trans h.2.2.2.out.2.2)
end
theorem words_one' (ws : List Nat) : ∀ u ∈ ws.map wordV, u.oneCell' = true := by
 intro u hu
 obtain ⟨x, _, rfl⟩ := List.mem_map.mp hu
 rfl
theorem info_34 : ∃ i0, Try.prog.info? 34 = some i0 ∧ i0.zero = some (.int .u64 0) ∧ i0.size = 1 ∧ i0.bytes = 8 := by
 have h : (Try.prog.info? 34).map (fun i => (i.zero, i.size, i.bytes)) = some (some (.int .u64 0), 1, 8) := by kernel_rfl
 obtain ⟨i0, e, h⟩ := Option.map_eq_some_iff.1 h
 injection h with h1 h
 injection h with h2 h3
 exact ⟨i0, e, h1, h2, h3⟩
set_option maxHeartbeats 4000000 in
set_option maxRecDepth 100000 in
theorem state_calls (b m : Nat) (nar : Bool) (t : Int) (ws : List Nat) (w : World) (h : AccB w b m nar t ws) (h0 : 1 ≤ m) (h1 : m ≤ 16) (hl : ws.length = 16) :
  Calls Try.prog 18 #[.pointer (some ⟨b, 0, none⟩)] w fun e w' => ∃ (g cap : Nat) (cur : Array Value), e = .returned (.agg #[.int .i64 (4 * (m : Int)), .bool nar, .int .i64 t, .slice (some ⟨g, 0, none⟩) m cap]) ∧ w.heap.size ≤ g ∧ w'.heap[g]? = some (.cells cur 34 (0, 0)) ∧ cur.toList.take m = (ws.take m).map wordV ∧ Below w.heap.size w w' := by
 obtain ⟨i0, hi0, hz0, hz1, hz2⟩ := info_34
 have hu46 : Try.prog.underlying 46 = some (.slice 34) := by kernel_rfl
 have HS := @sl62 m h1
 have ht : (ws.take m).length = m := by rw [List.length_take]; omega
 have HH : HeldS b m nar t ws w (w.alloc (.cells #[.int .i64 0, .bool false, .int .i64 0, .slice none 0 0] 48 (0, 0))) := ⟨⟨h.same (alloc_old w _ b h.lt), below_alloc (Below.refl _ _) _, alloc_new w _⟩⟩
 have HT := Aside0.mk ht
 have hb := Aside0.mk h.lt
 clear ht h
 go_enter Try.func18, Try.ntmps18
 go_upto_region 1 with (fail)
 generalize w.alloc (.cells #[.int .i64 0, .bool false, .int .i64 0, .slice none 0 0] 48 (0, 0)) = W0 at *
 go_region_held3 (fun W => HeldS b m nar t ws w W) ((first | with_reducible exact HH | with_reducible exact HeldS.drew HH | with_reducible assumption | with_reducible exact HeldS.grown ‹_› ‹_› rfl)) (first
  | (refine step_append_lies _ (by rfl) _ _ _ (by rfl) w.heap.size 34 i0 _ 1 8 hu46 hi0 hz0 hz1 hz2 rfl (by omega) (.slice none 0 0) 0 [] (by rfl) ⟨rfl, .inl ⟨rfl, rfl⟩⟩ ⟨b, 3, none⟩ m _ ((ws.take m).map wordV) (by rfl) (by rw [List.length_map, HT.out, Nat.mul_one]) (HeldS.news ‹_› hl h1) (words_one' _) (by omega) (by show _ ≤ 9223372036854775807; omega) (by omega) (HeldS.size ‹_›) _ rfl ?_; intro gg cap w1 hown1 hgrow hat hlt)
  | (go_at_call 37; (with_reducible refine (size_calls b m nar t ws _ (HeldS.acc ‹_›) h1).mono ?_); rintro e w' ⟨rfl, rfl⟩))
 (try simp only [Exit.inBlock, Exit.then])
 have hS1 : HeldS b m nar t ws w w1 := by with_reducible assumption
 obtain ⟨cur, hcur, htake⟩ : ∃ cur, w1.heap[gg]? = some (.cells cur 34 (0, 0)) ∧ cur.toList.take m = (ws.take m).map wordV := by
  rcases hown1.2 with ⟨e, _⟩ | ⟨g', cap', cur, e, _, hg, _, _, _, ht⟩
  ·
   injection e with e1 _ _; cases e1
  ·
   injection e with e1 e2 e3
   injection e1 with e1
   injection e1 with e1 _ _
   subst e1
   exact ⟨cur, hg, by rw [Nat.mul_one, Nat.zero_add] at ht; rw [ht]; rfl⟩
 have hge : Aside0 (w.heap.size ≤ w.heap.size ∧ w.heap.size ≠ gg ∧ b < w.heap.size) := ⟨by
  refine ⟨Nat.le_refl _, ?_, hb.out⟩
  rcases hat with c | c
  ·
   cases c
  ·
   have : w.heap.size < W0.heap.size := (Array.getElem?_eq_some_iff.1 HH.out.2.2).1
   have c' : gg = W0.heap.size := c
   omega⟩
 have hgg : Aside0 (w.heap.size ≤ gg) := ⟨by
  rcases hat with c | c
  ·
   cases c
  ·
   have : w.heap.size < W0.heap.size := (Array.getElem?_eq_some_iff.1 HH.out.2.2).1
   have c' : gg = W0.heap.size := c
   omega⟩
 have hS2 : HeldT b m nar t ws gg cur w w1 := .of hS1.out.1 hS1.out.2.1 hcur
 have HR := Aside0.mk hS1.out.2.2
 obtain ⟨z0, z1, z2, z3, f0, f1, f2, f3⟩ := cl4 HR.out
 have HK := Aside0.mk htake
 clear hown1 hgrow hat hlt hcur hS1 HH htake
 go_upto_region 2 with (fail)
 go_region_held3 (fun W => W.cell? ⟨b, 0, none⟩ = some (.int .i64 (4 * (m : Int))) ∧ W.cell? ⟨b, 1, none⟩ = some (.bool nar) ∧ W.cell? ⟨b, 2, none⟩ = some (.int .i64 t) ∧ Aside0 (AccB W b m nar t ws ∧ Below w.heap.size w W ∧ W.heap[gg]? = some (.cells cur 34 (0, 0)))) ((first | with_reducible exact HeldT.drew hS2 | with_reducible exact hS2 | (with_reducible refine HeldT.drew (HeldT.set (HeldT.set (HeldT.set (HeldT.set ?_ hge.out) hge.out) hge.out) hge.out); with_reducible exact hS2))) (first | fail)
 (try simp only [Exit.inBlock, Exit.then])
 generalize hW2 : World.drew _ = W2
 have hF : W2.heap[w.heap.size]? = some (.cells #[.int .i64 (4 * (m : Int)), .bool nar, .int .i64 t, .slice (some ⟨gg, 0, none⟩) m cap] 48 (0, 0)) := by rw [← hW2]; exact four_set HR.out
 have hT2 : HeldT b m nar t ws gg cur w W2 := by rw [← hW2]; with_reducible assumption
 clear hW2
 go_wp2
 refine bodyPost_ret (results_cell_row rfl _ _ w.heap.size 48 #[.int .i64 (4 * (m : Int)), .bool nar, .int .i64 t, .slice (some ⟨gg, 0, none⟩) m cap] (0, 0) _ rfl hF Try.underlying48 rfl (by kernel_rfl)) rfl ?_
 refine ⟨gg, cap, cur, rfl, hgg.out, hT2.2.2.2.out.2.2, HK.out, hT2.2.2.2.out.2.1⟩
end Go.Proofs.Ytgaaeehohhnocaa.F

namespace Go.Proofs.Ytgaaeehohhnocaa.F
open RowKit YtgaaeehohhnocaaW PrintWords PrintLast PrintMore
attribute [local go_sem high] xor_u64 xor_u32
set_option linter.all false
set_option maxHeartbeats 4000000 in
set_option maxRecDepth 100000 in
theorem alike_calls (b c m : Nat) (nar : Bool) (t : Int) (ws vs : List Nat) (w : World) (h : AccB w b m nar t ws) (k : AccB w c m nar t vs) (h0 : 1 ≤ m) (h1 : m ≤ 16) (hl : ws.length = 16) (kl : vs.length = 16) (hs : ws.take m = vs.take m) :
  Calls Try.prog 14 #[.pointer (some ⟨b, 0, none⟩), .pointer (some ⟨c, 0, none⟩)] w fun e w' => e = .returned (.bool true) ∧ Below w.heap.size w w' := by
 have hu46 : Try.prog.underlying 46 = some (.slice 34) := by kernel_rfl
 have hu48 := Try.underlying48
 have HB := Aside0.mk (Below.refl w.heap.size w)
 have HX := Aside0.mk h
 have HY := Aside0.mk k
 have HS := Aside0.mk hs
 clear h k hs
 go_enter Try.func14, Try.ntmps14
 go_upto_region 2 with (first
  | (go_at_call 18; (with_reducible refine (state_calls b m nar t ws _ HX.out h0 h1 hl).mono ?_); rintro e w1 ⟨g1, cap1, cur1, rfl, hg1, hc1, ht1, hb1⟩))
 generalize hW1 : w1.alloc _ = W1
 obtain ⟨gA, hgA⟩ : ∃ gA, gA = w1.heap.size := ⟨_, rfl⟩
 have hA1 : W1.heap[gA]? = some (.cells #[.int .i64 (4 * (m : Int)), .bool nar, .int .i64 t, .slice (some ⟨g1, 0, none⟩) m cap1] 48 (0, 0)) := by rw [← hW1, hgA]; exact alloc_new w1 _
 have hR1 : W1.heap[g1]? = some (.cells cur1 34 (0, 0)) := by rw [← hW1, alloc_old w1 _ g1 (Array.getElem?_eq_some_iff.1 hc1).1]; exact hc1
 have HB1 : Aside0 (Below w.heap.size w W1) := ⟨by rw [← hW1]; exact below_alloc hb1 _⟩
 rw [← hgA]
 have HA1 := Aside0.mk hA1
 have HR1 := Aside0.mk hR1
 have HT1 := Aside0.mk ht1
 have HY1 : Aside0 (AccB W1 c m nar t vs) := ⟨HY.out.same (HB1.out.block c HY.out.lt)⟩
 clear hW1 hgA hA1 hR1 hc1 hb1 ht1 hg1
 go_upto_region 3 with (first
  | (go_at_call 18; (with_reducible refine (state_calls c m nar t vs _ HY1.out h0 h1 kl).mono ?_); rintro e w2 ⟨g2, cap2, cur2, rfl, hg2, hc2, ht2, hb2⟩))
 generalize hW2 : w2.alloc _ = W2
 obtain ⟨gB, hgB⟩ : ∃ gB, gB = w2.heap.size := ⟨_, rfl⟩
 have hB2 : W2.heap[gB]? = some (.cells #[.int .i64 (4 * (m : Int)), .bool nar, .int .i64 t, .slice (some ⟨g2, 0, none⟩) m cap2] 48 (0, 0)) := by rw [← hW2, hgB]; exact alloc_new w2 _
 have hR2 : W2.heap[g2]? = some (.cells cur2 34 (0, 0)) := by rw [← hW2, alloc_old w2 _ g2 (Array.getElem?_eq_some_iff.1 hc2).1]; exact hc2
 have hU2 : Below W1.heap.size W1 W2 := by rw [← hW2]; exact below_alloc hb2 _
 have hA2 := (hU2.block gA (Array.getElem?_eq_some_iff.1 HA1.out).1).trans HA1.out
 have hS2 := (hU2.block g1 (Array.getElem?_eq_some_iff.1 HR1.out).1).trans HR1.out
 have HB2 : Aside0 (Below w.heap.size w W2) := ⟨below_step HB1.out hU2⟩
 rw [← hgB]
 have HA2 := Aside0.mk hA2
 have HB2r := Aside0.mk hB2
 have HR2 := Aside0.mk hR2
 have HS2 := Aside0.mk hS2
 have HT2 := Aside0.mk ht2
 clear hW2 hgB hB2 hR2 hc2 hb2 ht2 hg2 hU2 hA2 hS2 HA1 HR1
 obtain ⟨a0, a1, a2, a3, _, _, _, _⟩ := cl4 HA2.out
 obtain ⟨e0, e1, e2, e3, _, _, _, _⟩ := cl4 HB2r.out
 have HW : Aside0 (∀ (i : Nat), i < m → ∃ x : Nat, W2.cell? ⟨g1, i, none⟩ = some (.int .u64 (x : Int)) ∧ W2.cell? ⟨g2, i, none⟩ = some (.int .u64 (x : Int))) := ⟨fun i hi => by
  have q1 : cur1.toList[i]? = ((ws.take m).map wordV)[i]? := by rw [← HT1.out, List.getElem?_take, if_pos hi]
  have q2 : cur2.toList[i]? = ((ws.take m).map wordV)[i]? := by rw [HS.out, ← HT2.out, List.getElem?_take, if_pos hi]
  rw [Array.getElem?_toList, List.getElem?_map, List.getElem?_take, if_pos hi, List.getElem?_eq_getElem (by omega)] at q1 q2
  refine ⟨ws[i], ?_, ?_⟩
  ·
   have : W2.cell? ⟨g1, i, none⟩ = cur1[i]? := by unfold World.cell?; rw [HS2.out]; rfl
   rw [this, q1]; rfl
  ·
   have : W2.cell? ⟨g2, i, none⟩ = cur2[i]? := by unfold World.cell?; rw [HR2.out]; rfl
   rw [this, q2]; rfl⟩
 go_wp2
 go_loopg [7] m (fun kq v7 W => ∃ i : Nat, v7 = .int .i64 (i : Int) ∧ Aside0 (kq + i = m) ∧ ∃ k, W = W2.drewN k)
 case atStart => exact ⟨0, rfl, ⟨by omega⟩, 0, rfl⟩
 case round =>
  obtain ⟨i, rfl, HK, kd, rfl⟩ := hrel
  by_cases hi : i < m
  ·
   have c0 : decide (i < m) = true := decide_eq_true hi
   obtain ⟨x, hx1, hx2⟩ := HW.out i hi
   have hi16 : i < 16 := by omega
   go_wp2
   go_quiet (fail)
   go_wp2
   go_roundg (m - (i + 1))
   case measure => have := HK.out; omega
   case rel => exact ⟨i + 1, by first | rfl | (simp; done), ⟨by omega⟩, _, rfl⟩
  ·
   have c0 : decide (i < m) = false := decide_eq_false hi
   go_wp2
   go_ret
   exact ⟨rfl, pw_below_drewN HB2.out _⟩
end Go.Proofs.Ytgaaeehohhnocaa.F
