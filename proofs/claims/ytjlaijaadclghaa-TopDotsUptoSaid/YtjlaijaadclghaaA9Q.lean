/- Walk of the accumulator's State; conditions: .. -/
import Derived.Test.YtjlaijaadclghaaA8Q
import Derived.Deep.RegionHeld3
import Derived.Deep.AppendLies
namespace Go.Proofs.Ytjlaijaadclghaa.F
open RowKit YtjlaijaadclghaaW PrintWords PrintLast PrintMore
attribute [local go_sem high] xor_u64 xor_u32
set_option linter.all false
abbrev HeldS (b m : Nat) (nar : Bool) (t : Int) (ws : List Nat) (w W : World) : Prop := Aside0 (AccB W b m nar t ws ∧ Below w.heap.size w W ∧ W.heap[w.heap.size]? = some (.cells #[.int .i64 0, .bool false, .int .i64 0, .slice none 0 0] 64 (0, 0)))
section
variable {b m : Nat} {nar : Bool} {t : Int} {ws : List Nat} {w W V : World}
theorem HeldS.drew (h : HeldS b m nar t ws w W) : HeldS b m nar t ws w W.drew := ⟨⟨h.out.1, h.out.2.1.drew, h.out.2.2⟩⟩
theorem HeldS.drewN (h : HeldS b m nar t ws w W) (k : Nat) : HeldS b m nar t ws w (W.drewN k) := ⟨⟨h.out.1, pw_below_drewN h.out.2.1 k, h.out.2.2⟩⟩
theorem HeldS.acc (h : HeldS b m nar t ws w W) : AccB W b m nar t ws := h.out.1
theorem HeldS.size (h : HeldS b m nar t ws w W) : w.heap.size ≤ W.heap.size := below_size h.out.2.1
theorem HeldS.grown {v : Value} (h : HeldS b m nar t ws w W) (g : W.grownBy V v.ownBlock) (e : v.ownBlock = none) : HeldS b m nar t ws w V := by
 have hb := fun k hk => g.block k hk (by rw [e]; intro c; cases c)
 exact ⟨⟨(h.out.1).same (hb b h.out.1.lt), h.out.2.1.grown g h.size (by rw [e]; intro k c; cases c), (hb _ (Array.getElem?_eq_some_iff.1 h.out.2.2).1).trans h.out.2.2⟩⟩
theorem HeldS.news (h : HeldS b m nar t ws w W) (hl : ws.length = 16) (h1 : m ≤ 16) : ∀ (j : Nat) (u : Value), ((ws.take m).map wordV)[j]? = some u → W.cell? ((⟨b, 3, none⟩ : Addr).add j) = some u := by
 intro j u hu
 have hadd : (⟨b, 3, none⟩ : Addr).add j = ⟨b, 3 + j, none⟩ := by unfold Addr.add; split <;> simp_all
 rw [hadd]
 refine h.out.1.words j u ?_
 rw [List.map_take] at hu
 rw [← hu, List.getElem?_take]
 split
 ·
  rfl
 ·
  rename_i c
  rw [List.getElem?_take, if_neg c] at hu
  cases hu
end
theorem four_set {W : World} {g : Nat} {ty : TypeId} {v0 v1 v2 v3 u0 u1 u2 u3 : Value} (h : W.heap[g]? = some (.cells #[v0, v1, v2, v3] ty (0, 0))) :
  ((((W.setCell ⟨g, 0, none⟩ u0).setCell ⟨g, 1, none⟩ u1).setCell ⟨g, 2, none⟩ u2).setCell ⟨g, 3, none⟩ u3).heap[g]? = some (.cells #[u0, u1, u2, u3] ty (0, 0)) := by
 have h0 := (Upd.cell (i := 0) (v := u0) h).here
 have h1 := (Upd.cell (i := 1) (v := u1) h0).here
 have h2 := (Upd.cell (i := 2) (v := u2) h1).here
 exact (Upd.cell (i := 3) (v := u3) h2).here
abbrev HeldT (b m : Nat) (nar : Bool) (t : Int) (ws : List Nat) (g : Nat) (cur : Array Value) (w W : World) : Prop := W.cell? ⟨b, 0, none⟩ = some (.int .i64 (4 * (m : Int))) ∧ W.cell? ⟨b, 1, none⟩ = some (.bool nar) ∧ W.cell? ⟨b, 2, none⟩ = some (.int .i64 t) ∧ Aside0 (AccB W b m nar t ws ∧ Below w.heap.size w W ∧ W.heap[g]? = some (.cells cur 23 (0, 0)))
section
variable {b m g : Nat} {nar : Bool} {t : Int} {ws : List Nat} {cur : Array Value} {w W V : World}
theorem HeldT.of (h : AccB W b m nar t ws) (k : Below w.heap.size w W) (e : W.heap[g]? = some (.cells cur 23 (0, 0))) : HeldT b m nar t ws g cur w W := ⟨h.c0, by rw [h.cell]; rfl, by rw [h.cell]; rfl, ⟨⟨h, k, e⟩⟩⟩
theorem HeldT.drew (h : HeldT b m nar t ws g cur w W) : HeldT b m nar t ws g cur w W.drew := ⟨h.1, h.2.1, h.2.2.1, ⟨⟨h.2.2.2.out.1, h.2.2.2.out.2.1.drew, h.2.2.2.out.2.2⟩⟩⟩
theorem HeldT.set {p o : Nat} {v : Value} (h : HeldT b m nar t ws g cur w W) (hp : w.heap.size ≤ p ∧ p ≠ g ∧ b < w.heap.size) : HeldT b m nar t ws g cur w (W.setCell ⟨p, o, none⟩ v) :=
 .of ((h.2.2.2.out.1).same (Below.heap_setCell _ _ _ _ (by show b ≠ p; omega))) (below_set h.2.2.2.out.2.1 hp.1) ((Below.heap_setCell _ _ _ _ (by show g ≠ p; omega)).trans h.2.2.2.out.2.2)
end
theorem words_one' (ws : List Nat) : ∀ u ∈ ws.map wordV, u.oneCell' = true := by
 intro u hu
 obtain ⟨x, _, rfl⟩ := List.mem_map.mp hu
 rfl
theorem info_34 : ∃ i0, Try.prog.info? 23 = some i0 ∧ i0.zero = some (.int .u64 0) ∧ i0.size = 1 ∧ i0.bytes = 8 := by
 have h : (Try.prog.info? 23).map (fun i => (i.zero, i.size, i.bytes)) = some (some (.int .u64 0), 1, 8) := by kernel_rfl
 obtain ⟨i0, e, h⟩ := Option.map_eq_some_iff.1 h
 injection h with h1 h
 injection h with h2 h3
 exact ⟨i0, e, h1, h2, h3⟩
set_option maxHeartbeats 4000000 in
set_option maxRecDepth 100000 in
theorem state_calls (b m : Nat) (nar : Bool) (t : Int) (ws : List Nat) (w : World) (h : AccB w b m nar t ws) (h0 : 1 ≤ m) (h1 : m ≤ 16) (hl : ws.length = 16) :
  Calls Try.prog 28 #[.pointer (some ⟨b, 0, none⟩)] w fun e w' => ∃ (g cap : Nat) (cur : Array Value), e = .returned (.agg #[.int .i64 (4 * (m : Int)), .bool nar, .int .i64 t, .slice (some ⟨g, 0, none⟩) m cap]) ∧ w.heap.size ≤ g ∧ w'.heap[g]? = some (.cells cur 23 (0, 0)) ∧ cur.toList.take m = (ws.take m).map wordV ∧ Below w.heap.size w w' := by
 obtain ⟨i0, hi0, hz0, hz1, hz2⟩ := info_34
 have hu46 : Try.prog.underlying 22 = some (.slice 23) := by kernel_rfl
 have HS := @sl62 m h1
 have ht : (ws.take m).length = m := by rw [List.length_take]; omega
 have HH : HeldS b m nar t ws w (w.alloc (.cells #[.int .i64 0, .bool false, .int .i64 0, .slice none 0 0] 64 (0, 0))) := ⟨⟨h.same (alloc_old w _ b h.lt), below_alloc (Below.refl _ _) _, alloc_new w _⟩⟩
 have HT := Aside0.mk ht
 have hb := Aside0.mk h.lt
 clear ht h
 go_enter Try.func28, Try.ntmps28
 go_upto_region 1 with (fail)
 generalize w.alloc (.cells #[.int .i64 0, .bool false, .int .i64 0, .slice none 0 0] 64 (0, 0)) = W0 at *
 go_region_held3 (fun W => HeldS b m nar t ws w W) ((first | with_reducible exact HH | with_reducible exact HeldS.drew HH | with_reducible assumption | with_reducible exact HeldS.grown ‹_› ‹_› rfl)) (first
  | (refine step_append_lies _ (by rfl) _ _ _ (by rfl) w.heap.size 23 i0 _ 1 8 hu46 hi0 hz0 hz1 hz2 rfl (by omega) (.slice none 0 0) 0 [] (by rfl) ⟨rfl, .inl ⟨rfl, rfl⟩⟩ ⟨b, 3, none⟩ m _ ((ws.take m).map wordV) (by rfl) (by rw [List.length_map, HT.out, Nat.mul_one]) (HeldS.news ‹_› hl h1) (words_one' _) (by omega) (by show _ ≤ 9223372036854775807; omega) (by omega) (HeldS.size ‹_›) _ rfl ?_; intro gg cap w1 hown1 hgrow hat hlt)
  | (go_at_call 32; (with_reducible refine (size_calls b m nar t ws _ (HeldS.acc ‹_›) h1).mono ?_); rintro e w' ⟨rfl, rfl⟩))
 (try simp only [Exit.inBlock, Exit.then])
 have hS1 : HeldS b m nar t ws w w1 := by with_reducible assumption
 obtain ⟨cur, hcur, htake⟩ : ∃ cur, w1.heap[gg]? = some (.cells cur 23 (0, 0)) ∧ cur.toList.take m = (ws.take m).map wordV := by
  rcases hown1.2 with ⟨e, _⟩ | ⟨g', cap', cur, e, _, hg, _, _, _, ht⟩
  ·
   injection e with e1 _ _; cases e1
  ·
   injection e with e1 e2 e3
   injection e1 with e1
   injection e1 with e1 _ _
   subst e1
   exact ⟨cur, hg, by rw [Nat.mul_one, Nat.zero_add] at ht; rw [ht]; rfl⟩
 have hge : Aside0 (w.heap.size ≤ w.heap.size ∧ w.heap.size ≠ gg ∧ b < w.heap.size) := ⟨by
  refine ⟨Nat.le_refl _, ?_, hb.out⟩
  rcases hat with c | c
  ·
   cases c
  ·
   have : w.heap.size < W0.heap.size := (Array.getElem?_eq_some_iff.1 HH.out.2.2).1
   have c' : gg = W0.heap.size := c
   omega⟩
 have hgg : Aside0 (w.heap.size ≤ gg) := ⟨by
  rcases hat with c | c
  ·
   cases c
  ·
   have : w.heap.size < W0.heap.size := (Array.getElem?_eq_some_iff.1 HH.out.2.2).1
   have c' : gg = W0.heap.size := c
   omega⟩
 have hS2 : HeldT b m nar t ws gg cur w w1 := .of hS1.out.1 hS1.out.2.1 hcur
 have HR := Aside0.mk hS1.out.2.2
 obtain ⟨z0, z1, z2, z3, f0, f1, f2, f3⟩ := cl4 HR.out
 have HK := Aside0.mk htake
 clear hown1 hgrow hat hlt hcur hS1 HH htake
 go_upto_region 2 with (fail)
 go_region_held3 (fun W => W.cell? ⟨b, 0, none⟩ = some (.int .i64 (4 * (m : Int))) ∧ W.cell? ⟨b, 1, none⟩ = some (.bool nar) ∧ W.cell? ⟨b, 2, none⟩ = some (.int .i64 t) ∧ Aside0 (AccB W b m nar t ws ∧ Below w.heap.size w W ∧ W.heap[gg]? = some (.cells cur 23 (0, 0)))) ((first | with_reducible exact HeldT.drew hS2 | with_reducible exact hS2 | (with_reducible refine HeldT.drew (HeldT.set (HeldT.set (HeldT.set (HeldT.set ?_ hge.out) hge.out) hge.out) hge.out); with_reducible exact hS2))) (first | fail)
 (try simp only [Exit.inBlock, Exit.then])
 generalize hW2 : World.drew _ = W2
 have hF : W2.heap[w.heap.size]? = some (.cells #[.int .i64 (4 * (m : Int)), .bool nar, .int .i64 t, .slice (some ⟨gg, 0, none⟩) m cap] 64 (0, 0)) := by rw [← hW2]; exact four_set HR.out
 have hT2 : HeldT b m nar t ws gg cur w W2 := by rw [← hW2]; with_reducible assumption
 clear hW2
 go_wp2
 refine bodyPost_ret (results_cell_row rfl _ _ w.heap.size 64 #[.int .i64 (4 * (m : Int)), .bool nar, .int .i64 t, .slice (some ⟨gg, 0, none⟩) m cap] (0, 0) _ rfl hF Try.underlying64 rfl (by kernel_rfl)) rfl ?_
 refine ⟨gg, cap, cur, rfl, hgg.out, hT2.2.2.2.out.2.2, HK.out, hT2.2.2.2.out.2.1⟩
end Go.Proofs.Ytjlaijaadclghaa.F
