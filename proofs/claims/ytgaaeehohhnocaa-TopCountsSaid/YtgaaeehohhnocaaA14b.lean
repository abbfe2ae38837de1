/- What holds at each round of the law's loop; .. -/
import Derived.Test.YtgaaeehohhnocaaA13b
namespace Go.Proofs.Ytgaaeehohhnocaa.F
open RowKit YtgaaeehohhnocaaW PrintWords PrintLast PrintMore
attribute [local go_sem high] xor_u64 xor_u32
set_option linter.all false
theorem Chg.belowB {w W V : World} {b : Nat} (h : Below w.heap.size w W) (c : Chg W V b) (hb : w.heap.size ≤ b) : Below w.heap.size w V :=
 ⟨c.os.trans h.os, c.tape.trans h.tape, c.output.trans h.output, Nat.le_trans h.size c.size, fun k hk => (c.other k (Nat.lt_of_lt_of_le hk h.size) (by omega)).trans (h.block k hk)⟩
theorem Upd.chg {W V : World} {b : Nat} {o : Obj} (u : Upd W V b o) : Chg W V b := ⟨u.os, u.tape, u.output, by rw [u.size]; exact Nat.le_refl _, fun k _ hb => u.other k hb⟩
theorem plusT (k B S1 : Nat) (n0 n1 : Bool) (u0 u1 : Value) (l0 l1 r2 : List Int) (E0 E1 r3 : Int) (r1 : Bool) (W : World) (hB : B ≤ S1) (hS : S1 ≤ W.heap.size) (h0 : Kd.R (Kd.int .i64) 3 W B (fun k => k < S1) u0 l0) (h1 : Kd.R (Kd.int .i64) 3 W S1 (fun _ => True) u1 l1) (h : verniertop_plus.f k n0 l0 E0 n1 l1 E1 = some (r1, r2, r3)) :
  Calls Try.prog 12 #[.agg #[.bool n0, u0, .int .i64 E0], .agg #[.bool n1, u1, .int .i64 E1]] W fun e w' => ∃ v1, e = .returned (.agg #[.bool r1, v1, .int .i64 r3]) ∧ Kd.R (Kd.int .i64) 3 w' B (fun _ => True) v1 r2 ∧ Below B W w' := by
 obtain ⟨w0, hw0⟩ : ∃ w0 : World, w0 = { W with heap := W.heap.extract 0 B } := ⟨_, rfl⟩
 have hs0 : w0.heap.size = B := by rw [hw0]; show (W.heap.extract 0 B).size = B; rw [Array.size_extract]; omega
 have hb : Below w0.heap.size w0 W := by
  refine ⟨by rw [hw0], by rw [hw0], by rw [hw0], by rw [hs0]; omega, fun i hi => ?_⟩
  rw [hs0] at hi
  rw [hw0]
  show W.heap[i]? = (W.heap.extract 0 B)[i]?
  rw [Array.getElem?_extract, if_pos (by omega), Nat.zero_add]
 have q0 : Kd.R (Kd.int .i64) 3 W w0.heap.size (fun k => k < S1) u0 l0 := by rw [hs0]; exact h0
 have q1 : Kd.R (Kd.int .i64) 3 W w0.heap.size (fun k => S1 ≤ k) u1 l1 := by
  rw [hs0]
  have := Kd.R_bound h1
  exact Kd.R_mono (Kd.R_lower this hB) (fun k hk => hk.2.1)
 refine (verniertop_plus.calls k n0 _ u0 l0 E0 n1 _ u1 l1 E1 r1 r2 r3 w0 W hb q0 (fun k a b => by omega) q1 (fun k a b => by omega) h).mono ?_
 rintro e w' ⟨v1, he, hr, hb', hk⟩
 refine ⟨v1, he, ?_, ?_⟩
 ·
  rw [hs0] at hr; exact Kd.R_mono hr (fun _ _ => trivial)
 ·
  refine ⟨hb'.os.trans hb.os.symm, hb'.tape.trans hb.tape.symm, hb'.output.trans hb.output.symm, ?_, fun i hi => ?_⟩
  ·
   exact hk.1
  ·
   rw [hs0] at hb' hb; exact (hb'.block i hi).trans (hb.block i hi).symm
structure Inv (w : World) (m b1 b2 b3 g B : Nat) (nx : Bool) (tx : Int) (wx : List Nat) (ny : Bool) (ty : Int) (wy : List Nat) (nz : Bool) (tz : Int) (wz : List Nat) (vn : Bool) (vl : List Int) (vE : Int) (u : Value) (W : World) : Prop where
 below : Below w.heap.size w W
 ax : AccB W b1 m nx tx wx
 ay : AccB W b2 m ny ty wy
 az : AccB W b3 m nz tz wz
 box : W.heap[g]? = some (.cells #[.bool vn, u, .int .i64 vE] 32 (0, 0))
 row : Kd.R (Kd.int .i64) 3 W B (fun _ => True) u vl
 lt : w.heap.size ≤ b1 ∧ b1 < b2 ∧ b2 < b3 ∧ b3 < g ∧ g < B ∧ B ≤ W.heap.size
section
variable {w : World} {m b1 b2 b3 g B : Nat} {nx : Bool} {tx : Int} {wx : List Nat} {ny : Bool} {ty : Int} {wy : List Nat} {nz : Bool} {tz : Int} {wz : List Nat} {vn : Bool} {vl : List Int} {vE : Int} {u : Value} {W V : World}
theorem Inv.step (h : Inv w m b1 b2 b3 g B nx tx wx ny ty wy nz tz wz vn vl vE u W) (c : Below W.heap.size W V) : Inv w m b1 b2 b3 g B nx tx wx ny ty wy nz tz wz vn vl vE u V := by
 obtain ⟨h0, h1, h2, h3, h4, h5, h6⟩ := h
 have hs := c.size
 refine ⟨below_step h0 c, h1.same (c.block _ (by omega)), h2.same (c.block _ (by omega)), h3.same (c.block _ (by omega)), (c.block _ (by omega)).trans h4, Kd.R_below h5 c, by omega⟩
theorem Inv.drewN (h : Inv w m b1 b2 b3 g B nx tx wx ny ty wy nz tz wz vn vl vE u W) (k : Nat) : Inv w m b1 b2 b3 g B nx tx wx ny ty wy nz tz wz vn vl vE u (W.drewN k) := h.step (pw_below_drewN (Below.refl _ _) k)
theorem Inv.rowK (h : Kd.R (Kd.int .i64) 3 W B (fun _ => True) u vl) (e : ∀ k, B ≤ k → k < W.heap.size → V.heap[k]? = W.heap[k]?) : Kd.R (Kd.int .i64) 3 V B (fun _ => True) u vl := by
 have h1 := Kd.R_step (Kd.R_bound h) (w1 := V) (fun k hk hlt => e k hk.2.1 hlt)
 exact Kd.R_mono h1 (fun _ _ => trivial)
theorem Inv.x {n' : Bool} {t' : Int} {w' : List Nat} (h : Inv w m b1 b2 b3 g B nx tx wx ny ty wy nz tz wz vn vl vE u W) (c : Chg W V b1) (a : AccB V b1 m n' t' w') : Inv w m b1 b2 b3 g B n' t' w' ny ty wy nz tz wz vn vl vE u V := by
 obtain ⟨h0, h1, h2, h3, h4, h5, h6⟩ := h
 have hs := c.size
 exact ⟨c.belowB h0 h6.1, a, h2.same (c.other _ (by omega) (by omega)), h3.same (c.other _ (by omega) (by omega)), (c.other _ (by omega) (by omega)).trans h4, Inv.rowK h5 (fun k hk hlt => c.other k hlt (by omega)), by omega⟩
theorem Inv.y {n' : Bool} {t' : Int} {w' : List Nat} (h : Inv w m b1 b2 b3 g B nx tx wx ny ty wy nz tz wz vn vl vE u W) (c : Chg W V b2) (a : AccB V b2 m n' t' w') : Inv w m b1 b2 b3 g B nx tx wx n' t' w' nz tz wz vn vl vE u V := by
 obtain ⟨h0, h1, h2, h3, h4, h5, h6⟩ := h
 have hs := c.size
 exact ⟨c.belowB h0 (by omega), h1.same (c.other _ (by omega) (by omega)), a, h3.same (c.other _ (by omega) (by omega)), (c.other _ (by omega) (by omega)).trans h4, Inv.rowK h5 (fun k hk hlt => c.other k hlt (by omega)), by omega⟩
theorem Inv.z {n' : Bool} {t' : Int} {w' : List Nat} (h : Inv w m b1 b2 b3 g B nx tx wx ny ty wy nz tz wz vn vl vE u W) (c : Chg W V b3) (a : AccB V b3 m n' t' w') : Inv w m b1 b2 b3 g B nx tx wx ny ty wy n' t' w' vn vl vE u V := by
 obtain ⟨h0, h1, h2, h3, h4, h5, h6⟩ := h
 have hs := c.size
 exact ⟨c.belowB h0 (by omega), h1.same (c.other _ (by omega) (by omega)), h2.same (c.other _ (by omega) (by omega)), a, (c.other _ (by omega) (by omega)).trans h4, Inv.rowK h5 (fun k hk hlt => c.other k hlt (by omega)), by omega⟩
theorem Inv.v {n' : Bool} {l' : List Int} {E' : Int} {u' : Value} {V1 : World} (h : Inv w m b1 b2 b3 g B nx tx wx ny ty wy nz tz wz vn vl vE u W) (c : Below B W V1) (r : Kd.R (Kd.int .i64) 3 V1 B (fun _ => True) u' l') (c2 : Chg V1 V g) (b : V.heap[g]? = some (.cells #[.bool n', u', .int .i64 E'] 32 (0, 0))) : Inv w m b1 b2 b3 g B nx tx wx ny ty wy nz tz wz n' l' E' u' V := by
 obtain ⟨h0, h1, h2, h3, h4, h5, h6⟩ := h
 have hs := c.size
 have hs2 := c2.size
 have e : ∀ k, k < B → k ≠ g → V.heap[k]? = W.heap[k]? := fun k hk hg => (c2.other k (by omega) hg).trans (c.block k hk)
 refine ⟨⟨c2.os.trans (c.os.trans h0.os), c2.tape.trans (c.tape.trans h0.tape), c2.output.trans (c.output.trans h0.output), ?_, fun k hk => (e k (by omega) (by omega)).trans (h0.block k hk)⟩, h1.same (e _ (by omega) (by omega)), h2.same (e _ (by omega) (by omega)), h3.same (e _ (by omega) (by omega)), b, Inv.rowK r (fun k hk hlt => c2.other k hlt (by omega)), by omega⟩
 have := h0.size
 omega
end
end Go.Proofs.Ytgaaeehohhnocaa.F
