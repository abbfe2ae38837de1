/- What holds at each round of the law over .. -/
import Derived.Test.YtgaaeehohhnocaaC3b
namespace Go.Proofs.Ytgaaeehohhnocaa.F
open RowKit YtgaaeehohhnocaaW PrintWords PrintLast PrintMore
set_option linter.all false
structure InvC (w : World) (m b g gD B : Nat) (kv : Int) (nv : Bool) (sv fv : Int) (nar : Bool) (t : Int) (ws : List Nat) (vn : Bool) (vl : List Int) (vE : Int) (u : Value) (W : World) : Prop where
 below : Below w.heap.size w W
 ax : AccB W b m nar t ws
 box : W.heap[g]? = some (.cells #[.bool vn, u, .int .i64 vE] 32 (0, 0))
 dbox : W.heap[gD]? = some (.cells #[.int .i64 kv, .bool nv, .int .i64 sv, .int .u64 fv] 39 (0, 0))
 row : Kd.R (Kd.int .i64) 3 W B (fun _ => True) u vl
 lt : w.heap.size ≤ b ∧ b < g ∧ g < gD ∧ gD < B ∧ B ≤ W.heap.size
section
variable {w : World} {m b g gD B : Nat} {kv : Int} {nv : Bool} {sv fv : Int} {nar : Bool} {t : Int} {ws : List Nat} {vn : Bool} {vl : List Int} {vE : Int} {u : Value} {W V : World}
theorem InvC.step (h : InvC w m b g gD B kv nv sv fv nar t ws vn vl vE u W) (c : Below W.heap.size W V) : InvC w m b g gD B kv nv sv fv nar t ws vn vl vE u V := by
 obtain ⟨h0, h1, h2, h3, h4, h5⟩ := h
 have hs := c.size
 exact ⟨below_step h0 c, h1.same (c.block _ (by omega)), (c.block _ (by omega)).trans h2, (c.block _ (by omega)).trans h3, Kd.R_below h4 c, by omega⟩
theorem InvC.drewN (h : InvC w m b g gD B kv nv sv fv nar t ws vn vl vE u W) (k : Nat) : InvC w m b g gD B kv nv sv fv nar t ws vn vl vE u (W.drewN k) := h.step (pw_below_drewN (Below.refl _ _) k)
theorem InvC.x {n' : Bool} {t' : Int} {w' : List Nat} (h : InvC w m b g gD B kv nv sv fv nar t ws vn vl vE u W) (c : Chg W V b) (a : AccB V b m n' t' w') : InvC w m b g gD B kv nv sv fv n' t' w' vn vl vE u V := by
 obtain ⟨h0, h1, h2, h3, h4, h5⟩ := h
 have hs := c.size
 exact ⟨c.belowB h0 h5.1, a, (c.other _ (by omega) (by omega)).trans h2, (c.other _ (by omega) (by omega)).trans h3, Inv.rowK h4 (fun k hk hlt => c.other k hlt (by omega)), by omega⟩
theorem InvC.far {q : Nat} (h : InvC w m b g gD B kv nv sv fv nar t ws vn vl vE u W) (c : Chg W V q) (hq : B ≤ q) (hr : Kd.R (Kd.int .i64) 3 W B (fun k => k ≠ q) u vl) : InvC w m b g gD B kv nv sv fv nar t ws vn vl vE u V := by
 obtain ⟨h0, h1, h2, h3, h4, h5⟩ := h
 have hs := c.size
 refine ⟨c.belowB h0 (by omega), h1.same (c.other _ (by omega) (by omega)), (c.other _ (by omega) (by omega)).trans h2, (c.other _ (by omega) (by omega)).trans h3, Kd.R_mono (Kd.R_step hr (fun k hk hlt => c.other k hlt hk)) (fun _ _ => trivial), by omega⟩
theorem InvC.v {n' : Bool} {l' : List Int} {E' : Int} {u' : Value} {V1 : World} (h : InvC w m b g gD B kv nv sv fv nar t ws vn vl vE u W) (c : Below B W V1) (r : Kd.R (Kd.int .i64) 3 V1 B (fun _ => True) u' l') (c2 : Chg V1 V g) (bx : V.heap[g]? = some (.cells #[.bool n', u', .int .i64 E'] 32 (0, 0))) : InvC w m b g gD B kv nv sv fv nar t ws n' l' E' u' V := by
 obtain ⟨h0, h1, h2, h3, h4, h5⟩ := h
 have hs := c.size
 have hs2 := c2.size
 have e : ∀ k, k < B → k ≠ g → V.heap[k]? = W.heap[k]? := fun k hk hg => (c2.other k (by omega) hg).trans (c.block k hk)
 refine ⟨⟨c2.os.trans (c.os.trans h0.os), c2.tape.trans (c.tape.trans h0.tape), c2.output.trans (c.output.trans h0.output), ?_, fun k hk => (e k (by omega) (by omega)).trans (h0.block k hk)⟩, h1.same (e _ (by omega) (by omega)), bx, (e _ (by omega) (by omega)).trans h3, Inv.rowK r (fun k hk hlt => c2.other k hlt (by omega)), by omega⟩
 have := h0.size
 omega
theorem InvC.flip {n' : Bool} (h : InvC w m b g gD B kv nv sv fv nar t ws vn vl vE u W) : InvC w m b g gD B kv nv sv fv nar t ws n' vl vE u (W.setCell ⟨g, 0, none⟩ (.bool n')) := by
 have hu := Upd.cell (i := 0) (v := .bool n') h.box
 exact h.v (Below.refl _ _ |> fun x => below_lower x h.lt.2.2.2.2) h.row hu.chg hu.here
theorem InvC.zero (h : InvC w m b g gD B kv nv sv fv nar t ws vn vl vE u W) : InvC w m b g gD B kv nv sv fv nar t ws false [] 0 (.slice none 0 0) (((W.setCell ⟨g, 0, none⟩ (.bool false)).setCell ⟨g, 1, none⟩ (.slice none 0 0)).setCell ⟨g, 2, none⟩ (.int .i64 0)) := by
 have hu := three_set (u0 := .bool false) (u1 := .slice none 0 0) (u2 := .int .i64 0) h.box
 exact h.v (below_lower (Below.refl _ _) h.lt.2.2.2.2) (Kd.R_nil _ _ _ _ _) hu.chg hu.here
end
structure NowC (w : World) (m b g gD B : Nat) (kv : Int) (nv : Bool) (sv fv : Int) (nar2 : Bool) (t2 : Int) (ws2 : List Nat) (vn : Bool) (vl : List Int) (vE : Int) (u : Value) (bw : Nat) (nar : Bool) (t : Int) (ws : List Nat) (T : Nat) (nn : Bool) (nl : List Int) (nE : Int) (u1 : Value) (S1 : Nat) (W : World) : Prop where
 inv : InvC w m b g gD B kv nv sv fv nar2 t2 ws2 vn vl vE u W
 was : AccB W bw m nar t ws
 box : W.heap[T]? = some (.cells #[.bool nn, u1, .int .i64 nE] 32 (0, 0))
 lt : B ≤ S1 ∧ S1 ≤ W.heap.size ∧ B ≤ T ∧ T < S1 ∧ bw ≠ T
 row0 : Kd.R (Kd.int .i64) 3 W B (fun k => k < S1) u vl
 row1 : Kd.R (Kd.int .i64) 3 W S1 (fun _ => True) u1 nl
theorem NowC.of {w : World} {m b g gD B : Nat} {kv : Int} {nv : Bool} {sv fv : Int} {nar2 : Bool} {t2 : Int} {ws2 : List Nat} {vn : Bool} {vl : List Int} {vE : Int} {u : Value} {bw : Nat} {nar : Bool} {t : Int} {ws : List Nat} {T : Nat} {nn : Bool} {nl : List Int} {nE : Int} {u1 v0 v1 v2 : Value} {base : Nat} {W7 W8 : World}
  (h7 : InvC w m b g gD B kv nv sv fv nar2 t2 ws2 vn vl vE u W7) (hw : AccB W7 bw m nar t ws) (hT : W7.heap[T]? = some (.cells #[v0, v1, v2] 32 (0, 0))) (hl : B ≤ T ∧ bw ≠ T) (hb : Below W7.heap.size W7 W8) (hbase : W7.heap.size ≤ base) (r : Kd.R (Kd.int .i64) 3 W8 base (fun _ => True) u1 nl) :
  NowC w m b g gD B kv nv sv fv nar2 t2 ws2 vn vl vE u bw nar t ws T nn nl nE u1 W7.heap.size (((W8.setCell ⟨T, 0, none⟩ (.bool nn)).setCell ⟨T, 1, none⟩ u1).setCell ⟨T, 2, none⟩ (.int .i64 nE)) := by
 have hT8 := keepK hb hT
 have hu := three_set (u0 := .bool nn) (u1 := u1) (u2 := .int .i64 nE) hT8
 have hTl := (Array.getElem?_eq_some_iff.1 hT).1
 have h8 := h7.step hb
 have hs := hb.size
 refine ⟨h8.far hu.chg hl.1 (row_free h8.row hT8), (hw.same (hb.block bw hw.lt)).same (hu.other bw hl.2), hu.here, ⟨by have := h7.lt; omega, by rw [hu.size]; exact hs, hl.1, hTl, hl.2⟩, ?_, ?_⟩
 ·
  have r7 : Kd.R (Kd.int .i64) 3 W7 B (fun k => k < W7.heap.size ∧ k ≠ T) u vl := Kd.R_mono (Kd.R_bound (row_free h7.row hT)) (fun k hk => ⟨hk.2.2.1, hk.1⟩)
  exact Kd.R_mono (Kd.R_step r7 (fun k hk _ => (hu.other k hk.2).trans (hb.block k hk.1))) (fun k hk => hk.1)
 ·
  have r8 : Kd.R (Kd.int .i64) 3 W8 W7.heap.size (fun k => W7.heap.size ≤ k) u1 nl := Kd.R_mono (Kd.R_bound (Kd.R_lower r hbase)) (fun k hk => hk.2.1)
  exact Kd.R_mono (Kd.R_step r8 (fun k hk _ => hu.other k (by omega))) (fun _ _ => trivial)
theorem NowC.flip {w : World} {m b g gD B : Nat} {kv : Int} {nv : Bool} {sv fv : Int} {nar2 : Bool} {t2 : Int} {ws2 : List Nat} {vn : Bool} {vl : List Int} {vE : Int} {u : Value} {bw : Nat} {nar : Bool} {t : Int} {ws : List Nat} {T : Nat} {nn n' : Bool} {nl : List Int} {nE : Int} {u1 : Value} {S1 : Nat} {W : World}
  (h : NowC w m b g gD B kv nv sv fv nar2 t2 ws2 vn vl vE u bw nar t ws T nn nl nE u1 S1 W) : NowC w m b g gD B kv nv sv fv nar2 t2 ws2 vn vl vE u bw nar t ws T n' nl nE u1 S1 (W.setCell ⟨T, 0, none⟩ (.bool n')) := by
 obtain ⟨h1, h2, h3, h4, h5, h6⟩ := h
 have hu := Upd.cell (i := 0) (v := .bool n') h3
 have r0 : Kd.R (Kd.int .i64) 3 W B (fun k => k < S1 ∧ k ≠ T) u vl := Kd.R_mono (Kd.R_types h5 h3 (fun q hq => by
  rcases List.mem_cons.mp hq with rfl | hq
  ·
   decide
  ·
   cases hq)) (fun k hk => hk)
 have r1 : Kd.R (Kd.int .i64) 3 W S1 (fun k => S1 ≤ k) u1 nl := Kd.R_mono (Kd.R_bound h6) (fun k hk => hk.2.1)
 exact ⟨h1.far hu.chg h4.2.2.1 (row_free h1.row h3), h2.same (hu.other bw h4.2.2.2.2), hu.here, ⟨h4.1, by rw [hu.size]; exact h4.2.1, h4.2.2⟩, Kd.R_mono (Kd.R_step r0 (fun k hk _ => hu.other k hk.2)) (fun k hk => hk.1), Kd.R_mono (Kd.R_step r1 (fun k hk _ => hu.other k (by omega))) (fun _ _ => trivial)⟩
abbrev HeldW (gD : Nat) (kv : Int) (nv : Bool) (sv fv : Int) (T : Nat) (W7 W : World) : Prop := W.cell? ⟨gD, 0, none⟩ = some (.int .i64 kv) ∧ W.cell? ⟨gD, 1, none⟩ = some (.bool nv) ∧ W.cell? ⟨gD, 2, none⟩ = some (.int .i64 sv) ∧ W.cell? ⟨gD, 3, none⟩ = some (.int .u64 fv) ∧
 Aside0 (Chg W7 W T ∧ W7.heap[gD]? = some (.cells #[.int .i64 kv, .bool nv, .int .i64 sv, .int .u64 fv] 39 (0, 0)) ∧ gD ≠ T)
section
variable {gD : Nat} {kv : Int} {nv : Bool} {sv fv : Int} {T : Nat} {W7 W V : World}
theorem HeldW.of (h : Chg W7 W T) (a : W7.heap[gD]? = some (.cells #[.int .i64 kv, .bool nv, .int .i64 sv, .int .u64 fv] 39 (0, 0))) (n : gD ≠ T) : HeldW gD kv nv sv fv T W7 W := by
 obtain ⟨a0, a1, a2, a3, _⟩ := cl4 ((h.other gD (Array.getElem?_eq_some_iff.1 a).1 n).trans a)
 exact ⟨a0, a1, a2, a3, ⟨⟨h, a, n⟩⟩⟩
theorem HeldW.via (u : Below W.heap.size W V) (h : HeldW gD kv nv sv fv T W7 W) : HeldW gD kv nv sv fv T W7 V := .of (h.2.2.2.2.out.1.below u) h.2.2.2.2.out.2.1 h.2.2.2.2.out.2.2
theorem HeldW.drew (h : HeldW gD kv nv sv fv T W7 W) : HeldW gD kv nv sv fv T W7 W.drew := HeldW.via (Below.refl _ _).drew h
theorem HeldW.set3 {v0 v1 v2 u0 u1 u2 : Value} (h : HeldW gD kv nv sv fv T W7 W) (e : W.heap[T]? = some (.cells #[v0, v1, v2] 32 (0, 0))) : HeldW gD kv nv sv fv T W7 (((W.setCell ⟨T, 0, none⟩ u0).setCell ⟨T, 1, none⟩ u1).setCell ⟨T, 2, none⟩ u2) :=
 .of (h.2.2.2.2.out.1.upd (three_set e)) h.2.2.2.2.out.2.1 h.2.2.2.2.out.2.2
end
theorem cutT (k B : Nat) (u : Value) (l r : List Int) (W : World) (hS : B ≤ W.heap.size) (h0 : Kd.R (Kd.int .i64) 3 W B (fun _ => True) u l) (h : vernierref04_Cut.f k l = some r) :
  Calls Try.prog 27 #[u] W fun e w' => ∃ (A : Option Addr) (c : Nat), e = .returned (.slice A r.length c) ∧ Below B W w' := by
 obtain ⟨w0, hw0⟩ : ∃ w0 : World, w0 = { W with heap := W.heap.extract 0 B } := ⟨_, rfl⟩
 have hs0 : w0.heap.size = B := by rw [hw0]; show (W.heap.extract 0 B).size = B; rw [Array.size_extract]; omega
 have hb : Below w0.heap.size w0 W := by
  refine ⟨by rw [hw0], by rw [hw0], by rw [hw0], by rw [hs0]; omega, fun i hi => ?_⟩
  rw [hs0] at hi
  rw [hw0]
  show W.heap[i]? = (W.heap.extract 0 B)[i]?
  rw [Array.getElem?_extract, if_pos (by omega), Nat.zero_add]
 refine (vernierref04_Cut.calls k _ u l r w0 W hb (by rw [hs0]; exact h0) h).mono ?_
 rintro e w' ⟨v1, he, hr, hb', hk⟩
 obtain ⟨A, c, rfl, _, _⟩ := Kd.R_reads hr
 refine ⟨A, c, he, hb'.os.trans hb.os.symm, hb'.tape.trans hb.tape.symm, hb'.output.trans hb.output.symm, hk.1, fun i hi => ?_⟩
 rw [hs0] at hb' hb
 exact (hb'.block i hi).trans (hb.block i hi).symm
abbrev HeldZ (g B : Nat) (vn : Bool) (u : Value) (vE : Int) (w W : World) : Prop := W.cell? ⟨g, 1, none⟩ = some u ∧ Aside0 (Below w.heap.size w W ∧ W.heap[g]? = some (.cells #[.bool vn, u, .int .i64 vE] 32 (0, 0)) ∧ g < B ∧ w.heap.size ≤ B)
theorem HeldZ.of {g B : Nat} {vn : Bool} {u : Value} {vE : Int} {w W : World} (h : Below w.heap.size w W) (e : W.heap[g]? = some (.cells #[.bool vn, u, .int .i64 vE] 32 (0, 0))) (l : g < B ∧ w.heap.size ≤ B) : HeldZ g B vn u vE w W := by
 obtain ⟨_, z1, _⟩ := cl3 e
 exact ⟨z1, ⟨⟨h, e, l⟩⟩⟩
theorem HeldZ.drew {g B : Nat} {vn : Bool} {u : Value} {vE : Int} {w W : World} (h : HeldZ g B vn u vE w W) : HeldZ g B vn u vE w W.drew := .of h.2.out.1.drew h.2.out.2.1 h.2.out.2.2
theorem HeldZ.via {g B : Nat} {vn : Bool} {u : Value} {vE : Int} {w W V : World} (k : Below B W V) (h : HeldZ g B vn u vE w W) : HeldZ g B vn u vE w V :=
 .of (below_then h.2.out.1 ⟨k.os, k.tape, k.output, k.size, fun i hi => k.block i (Nat.lt_of_lt_of_le hi h.2.out.2.2.2)⟩) ((k.block g h.2.out.2.2.1).trans h.2.out.2.1) h.2.out.2.2
structure RunC (kf m L : Nat) (p : Int) (c : Nat → Int) (o : Nat → Nat) (kv : Int) (nv : Bool) (sv fv : Int) (nr nr2 : Nat → Bool) (t t2 : Nat → Int) (ws ws2 : Nat → List Nat) (er : Nat → Option Int) (vn nn : Nat → Bool) (vl nl : Nat → List Int) (vE nE : Nat → Int) : Prop where
 m2 : 2 ≤ m
 m16 : m ≤ 16
 wl : ∀ i, i ≤ L → (ws i).length = 16 ∧ ∀ x ∈ ws i, x < 18446744073709551616
 wl2 : ∀ i, i < L → (ws2 i).length = 16
 tb : ∀ i, i ≤ L → 0 ≤ t i ∧ t i ≤ 2147483647
 op : ∀ i, i < L → verniertop_pick.f (c i) 5 = some (o i : Int) ∧ o i < 5
 dep0 : ∀ i, i < L → o i = 0 → ∀ b W, AccB W b m (nr i) (t i) (ws i) → Calls Try.prog 24 #[.pointer (some ⟨b, 0, none⟩), .int .u64 p] W fun e w' => e = .returned (errW (er i)) ∧ AccB w' b m (nr2 i) (t2 i) (ws2 i) ∧ Chg W w' b
 dep1 : ∀ i, i < L → o i = 1 → ∀ b W, AccB W b m (nr i) (t i) (ws i) → Calls Try.prog 25 #[.pointer (some ⟨b, 0, none⟩), .int .u64 p, .int .u64 p] W fun e w' => e = .returned (errW (er i)) ∧ AccB w' b m (nr2 i) (t2 i) (ws2 i) ∧ Chg W w' b
 dep2 : ∀ i, i < L → o i = 2 → ∃ one : Int, vernierref05_Power.f kf (wrap64 (4 * (m : Int) - 2)) = some one ∧ ∀ b W, AccB W b m (nr i) (t i) (ws i) → Calls Try.prog 26 #[.pointer (some ⟨b, 0, none⟩), .int .u64 p, .int .u64 one] W fun e w' => e = .returned (errW (er i)) ∧ AccB w' b m (nr2 i) (t2 i) (ws2 i) ∧ Chg W w' b
 now0 : ∀ i, i < L → o i = 0 → verniertop_valOf.f kf kv nv sv fv = some (nn i, nl i, nE i)
 now1 : ∀ i, i < L → o i = 1 → ∃ (p1 : Bool) (l1 : List Int) (E1 : Int), verniertop_valOf.f kf kv nv sv fv = some (p1, l1, E1) ∧ verniertop_times.f kf p1 l1 E1 p1 l1 E1 = some (nn i, nl i, nE i)
 now2 : ∀ i, i < L → o i = 2 → verniertop_valOf.f kf kv nv sv fv = some (!nn i, nl i, nE i)
 full : ∀ i, i < L → o i < 3 → t i = 2147483647 → er i = some 11 ∧ nr2 i = nr i ∧ t2 i = t i ∧ ws2 i = ws i ∧ nr (i + 1) = nr i ∧ t (i + 1) = t i ∧ ws (i + 1) = ws i ∧ vn (i + 1) = vn i ∧ vl (i + 1) = vl i ∧ vE (i + 1) = vE i
 room : ∀ i, i < L → o i < 3 → t i ≠ 2147483647 → er i = none ∧ t2 i = t i + 1 ∧ nr (i + 1) = nr2 i ∧ t (i + 1) = t2 i ∧ ws (i + 1) = ws2 i ∧ nr2 i = (nr i || kv == 2)
 sumN : ∀ i, i < L → o i < 3 → t i ≠ 2147483647 → kv = 2 → vn (i + 1) = vn i ∧ vl (i + 1) = vl i ∧ vE (i + 1) = vE i
 sumP : ∀ i, i < L → o i < 3 → t i ≠ 2147483647 → kv ≠ 2 → verniertop_plus.f kf (vn i) (vl i) (vE i) (nn i) (nl i) (nE i) = some (vn (i + 1), vl (i + 1), vE (i + 1))
 turn : ∀ i, i < L → o i = 3 → nr (i + 1) = nr i ∧ t (i + 1) = t i ∧ ws (i + 1) = negW m (ws i) ∧ vn (i + 1) = (!vn i) ∧ vl (i + 1) = vl i ∧ vE (i + 1) = vE i
 clear : ∀ i, i < L → o i = 4 → Int.tmod (c i) 3 = 0 → nr (i + 1) = false ∧ t (i + 1) = 0 ∧ ws (i + 1) = List.replicate 16 0 ∧ vn (i + 1) = false ∧ vl (i + 1) = [] ∧ vE (i + 1) = 0
 stay : ∀ i, i < L → o i = 4 → Int.tmod (c i) 3 ≠ 0 → nr (i + 1) = nr i ∧ t (i + 1) = t i ∧ ws (i + 1) = ws i ∧ vn (i + 1) = vn i ∧ vl (i + 1) = vl i ∧ vE (i + 1) = vE i
 start : nr 0 = false ∧ ws 0 = List.replicate 16 0 ∧ vn 0 = false ∧ vl 0 = [] ∧ vE 0 = 0
structure FinC (kf m : Nat) (nr : Bool) (t : Int) (ws : List Nat) (vn : Bool) (vl : List Int) (vE : Int) (p : Int) : Prop where
 round : ∀ b W, AccB W b m nr t ws → Calls Try.prog 15 #[.pointer (some ⟨b, 0, none⟩)] W fun e w' => e = .returned (.int .u64 p) ∧ Below W.heap.size W w'
 isnar : nr = true → vernierref05_Power.f kf (wrap64 (4 * (m : Int) - 1)) = some p
 near : nr = false → ∀ (W : World) (A : Option Addr) (c : Nat), Kd.C (Kd.int .i64) W A vl.length vl → vl.length ≤ c → Calls Try.prog 20 #[.int .i64 (4 * (m : Int)), .int .u64 p, .agg #[.bool vn, .slice A vl.length c, .int .i64 vE]] W fun e w' => e = .returned (.bool true) ∧ Below W.heap.size W w'
 cut : nr = false → vernierref04_Cut.f kf vl = some vl
end Go.Proofs.Ytgaaeehohhnocaa.F
