/- What holds at each round of the law's loop; .. -/
import Derived.Test.YtjlaijaadclghaaA13Q
import Derived.Test.YtjlaijaadclghaaB3Q
namespace Go.Proofs.Ytjlaijaadclghaa.F
open RowKit YtjlaijaadclghaaW PrintWords PrintLast PrintMore
attribute [local go_sem high] xor_u64 xor_u32
set_option linter.all false
theorem Chg.belowB {w W V : World} {b : Nat} (h : Below w.heap.size w W) (c : Chg W V b) (hb : w.heap.size ≤ b) : Below w.heap.size w V :=
 ⟨c.os.trans h.os, c.tape.trans h.tape, c.output.trans h.output, Nat.le_trans h.size c.size, fun k hk => (c.other k (Nat.lt_of_lt_of_le hk h.size) (by omega)).trans (h.block k hk)⟩
theorem Upd.chg {W V : World} {b : Nat} {o : Obj} (u : Upd W V b o) : Chg W V b := ⟨u.os, u.tape, u.output, by rw [u.size]; exact Nat.le_refl _, fun k _ hb => u.other k hb⟩
structure Inv (w : World) (m b1 b2 b3 g B : Nat) (nx : Bool) (tx : Int) (wx : List Nat) (ny : Bool) (ty : Int) (wy : List Nat) (nz : Bool) (tz : Int) (wz : List Nat) (vn : Bool) (vl : List Int) (vE : Int) (u : Value) (W : World) : Prop where
 below : Below w.heap.size w W
 ax : AccB W b1 m nx tx wx
 ay : AccB W b2 m ny ty wy
 az : AccB W b3 m nz tz wz
 box : W.heap[g]? = some (.cells #[.bool vn, u, .int .i64 vE] 32 (0, 0))
 row : Kd.R (Kd.int .i64) 3 W B (fun _ => True) u vl
 lt : w.heap.size ≤ b1 ∧ b1 < b2 ∧ b2 < b3 ∧ b3 < g ∧ g < B ∧ B ≤ W.heap.size
section
variable {w : World} {m b1 b2 b3 g B : Nat} {nx : Bool} {tx : Int} {wx : List Nat} {ny : Bool} {ty : Int} {wy : List Nat} {nz : Bool} {tz : Int} {wz : List Nat} {vn : Bool} {vl : List Int} {vE : Int} {u : Value} {W V : World}
theorem Inv.step (h : Inv w m b1 b2 b3 g B nx tx wx ny ty wy nz tz wz vn vl vE u W) (c : Below W.heap.size W V) : Inv w m b1 b2 b3 g B nx tx wx ny ty wy nz tz wz vn vl vE u V := by
 obtain ⟨h0, h1, h2, h3, h4, h5, h6⟩ := h
 have hs := c.size
 refine ⟨below_step h0 c, h1.same (c.block _ (by omega)), h2.same (c.block _ (by omega)), h3.same (c.block _ (by omega)), (c.block _ (by omega)).trans h4, Kd.R_below h5 c, by omega⟩
theorem Inv.drewN (h : Inv w m b1 b2 b3 g B nx tx wx ny ty wy nz tz wz vn vl vE u W) (k : Nat) : Inv w m b1 b2 b3 g B nx tx wx ny ty wy nz tz wz vn vl vE u (W.drewN k) := h.step (pw_below_drewN (Below.refl _ _) k)
theorem Inv.rowK (h : Kd.R (Kd.int .i64) 3 W B (fun _ => True) u vl) (e : ∀ k, B ≤ k → k < W.heap.size → V.heap[k]? = W.heap[k]?) : Kd.R (Kd.int .i64) 3 V B (fun _ => True) u vl := by
 have h1 := Kd.R_step (Kd.R_bound h) (w1 := V) (fun k hk hlt => e k hk.2.1 hlt)
 exact Kd.R_mono h1 (fun _ _ => trivial)
theorem Inv.x {n' : Bool} {t' : Int} {w' : List Nat} (h : Inv w m b1 b2 b3 g B nx tx wx ny ty wy nz tz wz vn vl vE u W) (c : Chg W V b1) (a : AccB V b1 m n' t' w') : Inv w m b1 b2 b3 g B n' t' w' ny ty wy nz tz wz vn vl vE u V := by
 obtain ⟨h0, h1, h2, h3, h4, h5, h6⟩ := h
 have hs := c.size
 exact ⟨c.belowB h0 h6.1, a, h2.same (c.other _ (by omega) (by omega)), h3.same (c.other _ (by omega) (by omega)), (c.other _ (by omega) (by omega)).trans h4, Inv.rowK h5 (fun k hk hlt => c.other k hlt (by omega)), by omega⟩
theorem Inv.y {n' : Bool} {t' : Int} {w' : List Nat} (h : Inv w m b1 b2 b3 g B nx tx wx ny ty wy nz tz wz vn vl vE u W) (c : Chg W V b2) (a : AccB V b2 m n' t' w') : Inv w m b1 b2 b3 g B nx tx wx n' t' w' nz tz wz vn vl vE u V := by
 obtain ⟨h0, h1, h2, h3, h4, h5, h6⟩ := h
 have hs := c.size
 exact ⟨c.belowB h0 (by omega), h1.same (c.other _ (by omega) (by omega)), a, h3.same (c.other _ (by omega) (by omega)), (c.other _ (by omega) (by omega)).trans h4, Inv.rowK h5 (fun k hk hlt => c.other k hlt (by omega)), by omega⟩
theorem Inv.z {n' : Bool} {t' : Int} {w' : List Nat} (h : Inv w m b1 b2 b3 g B nx tx wx ny ty wy nz tz wz vn vl vE u W) (c : Chg W V b3) (a : AccB V b3 m n' t' w') : Inv w m b1 b2 b3 g B nx tx wx ny ty wy n' t' w' vn vl vE u V := by
 obtain ⟨h0, h1, h2, h3, h4, h5, h6⟩ := h
 have hs := c.size
 exact ⟨c.belowB h0 (by omega), h1.same (c.other _ (by omega) (by omega)), h2.same (c.other _ (by omega) (by omega)), a, (c.other _ (by omega) (by omega)).trans h4, Inv.rowK h5 (fun k hk hlt => c.other k hlt (by omega)), by omega⟩
theorem Inv.v {n' : Bool} {l' : List Int} {E' : Int} {u' : Value} {V1 : World} (h : Inv w m b1 b2 b3 g B nx tx wx ny ty wy nz tz wz vn vl vE u W) (c : Below B W V1) (r : Kd.R (Kd.int .i64) 3 V1 B (fun _ => True) u' l') (c2 : Chg V1 V g) (b : V.heap[g]? = some (.cells #[.bool n', u', .int .i64 E'] 32 (0, 0))) : Inv w m b1 b2 b3 g B nx tx wx ny ty wy nz tz wz n' l' E' u' V := by
 obtain ⟨h0, h1, h2, h3, h4, h5, h6⟩ := h
 have hs := c.size
 have hs2 := c2.size
 have e : ∀ k, k < B → k ≠ g → V.heap[k]? = W.heap[k]? := fun k hk hg => (c2.other k (by omega) hg).trans (c.block k hk)
 refine ⟨⟨c2.os.trans (c.os.trans h0.os), c2.tape.trans (c.tape.trans h0.tape), c2.output.trans (c.output.trans h0.output), ?_, fun k hk => (e k (by omega) (by omega)).trans (h0.block k hk)⟩, h1.same (e _ (by omega) (by omega)), h2.same (e _ (by omega) (by omega)), h3.same (e _ (by omega) (by omega)), b, Inv.rowK r (fun k hk hlt => c2.other k hlt (by omega)), by omega⟩
 have := h0.size
 omega
end
end Go.Proofs.Ytjlaijaadclghaa.F

namespace Go.Proofs.Ytjlaijaadclghaa.M
open RowKit YtjlaijaadclghaaW PrintWords PrintLast PrintMore F
set_option linter.all false
def rsP (n : Nat) (S : Int) : Nat := if S = 0 then 0 else rdN n (decide (S < 0)) (scU (16 - 8 * (n : Int)) S.natAbs) (tpM S.natAbs) (tpR S.natAbs)
theorem tw_top {h l : Nat} (hl : l < 18446744073709551616) (ht : 170141183460469231731687303715884105728 ≤ tw h l) : 9223372036854775808 ≤ h := by unfold tw at ht; omega
theorem round_done {m n : Nat} {ws : List Nat} {S : Int} (hn : Wd n) (hnm : n = 4 * m) (hl : ws.length = 16) (hw : Ws ws) (hst : Stands m ws S) (hS : 2 * S.natAbs < 18446744073709551616 ^ m) (b : Nat) (t : Int) (W : World) (h : AccB W b m false t ws) :
  Calls Try.prog 15 #[.pointer (some ⟨b, 0, none⟩)] W fun e w' => e = .returned (.int .u64 (rsP n S : Nat)) ∧ Below W.heap.size W w' := by
 have g1 := hn.ge
 have g2 := hn.le
 have hm2 : 2 ≤ m := by omega
 have hm16 : m ≤ 16 := by omega
 obtain ⟨hv, hlen⟩ := mag_val (by omega) hm16 hl hw hst hS
 have hsg := (stands_small (by omega) hm16 hl hw hst hS).1
 have hmw : Ws (magW m ws) := magW_lt hw
 obtain ⟨t1, t2, t3⟩ := top_val (ls := magW m ws) (m - 1) (by omega)
 rw [show m - 1 + 1 = m by omega, hv] at t1
 have hneg : decide (9223372036854775808 ≤ ws.getD (m - 1) 0) = decide (S < 0) := decide_eq_decide.mpr hsg.symm
 have h0w := th_ws hmw (topI (magW m ws) (m - 1)) 0
 have hLZ := LeadingZeros64_ev h0w
 have hth : thW (magW m ws) (topI (magW m ws) (m - 1)) 0 = (magW m ws).getD (topI (magW m ws) (m - 1)) 0 := by unfold thW; rw [if_pos (Nat.zero_le _)]; rfl
 have h4 : ((n : Nat) : Int) = 4 * (m : Int) := by omega
 by_cases hz : thW (magW m ws) (topI (magW m ws) (m - 1)) 0 = 0
 ·
  -- nought
  have hi0 : topI (magW m ws) (m - 1) = 0 := by
   rcases t3 with t3 | t3
   ·
    exact t3
   ·
    rw [← hth] at t3; exact absurd hz t3
  rw [hi0] at t1 hz hLZ
  have hS0 : S.natAbs = 0 := by
   rw [t1, wN_snoc (k := 0) (by omega)]
   rw [show thW (magW m ws) 0 0 = (magW m ws).getD 0 0 from rfl] at hz
   rw [hz]; rfl
  have hS0' : S = 0 := by omega
  rw [hz] at hLZ
  have hM := Make_ev (neg := decide (S < 0)) (rest := false) (h := 0) (l := 0) (e := 64 * ((0 : Int) - 1) - 0 + 16 - 8 * (4 * (m : Int))) (by decide) (by decide) (by omega) (by omega) (fun h => by cases h)
  rw [if_pos (by rfl)] at hM
  have hR := Round_zero hn
  obtain ⟨K1, hK1⟩ := Ev.both hLZ hM
  obtain ⟨K2, hK2⟩ := hR
  obtain ⟨a1, a2⟩ := hK1 (K1 + K2) (by omega)
  have a3 := hK2 (K1 + K2) (by omega)
  have w1 : thW (magW m ws) 0 1 = 0 := by unfold thW; rw [if_neg (by decide)]
  have w2 : thW (magW m ws) 0 2 = 0 := by unfold thW; rw [if_neg (by decide)]
  have e1 : rdHi (magW m ws) 0 0 = 0 := by unfold rdHi; rw [hz, w1]
  have e2 : rdLo (magW m ws) 0 0 = 0 := by unfold rdLo; rw [w1, w2]
  have e3 : rdRest (magW m ws) 0 0 = false := by unfold rdRest; rw [w2]; rfl
  have hres : rsP n S = 0 := by unfold rsP; rw [if_pos hS0']
  rw [hres]
  have hcall := round_calls b m t ws (K1 + K2) 64 0
  rw [hi0, hz, e1, e2, e3, hneg] at hcall
  exact hcall a1 rfl _ 0 0 0 0 0 false false rfl a2 (by rw [← h4]; exact a3) W h hm2 hm16 hl hw
 ·
  obtain ⟨c1, c2, c3, c4, c5, c6, c7⟩ := handed hmw (by omega) hz
  rw [← t1] at c3 c4 c5
  have hpos : 0 < S.natAbs := by
   rcases Nat.eq_zero_or_pos S.natAbs with z | z
   ·
    rw [z] at c3
    have : blen 0 = 0 := rfl
    have := blen_pos (show 0 < thW (magW m ws) (topI (magW m ws) (m - 1)) 0 by omega)
    omega
   ·
    exact z
  have hb := tpM_bounds hpos
  have hbl : blen (tpM S.natAbs) = 128 := blen_unique hb.2 (Or.inr hb.1)
  generalize hi : topI (magW m ws) (m - 1) = i at *
  generalize hs : 64 - blen (thW (magW m ws) i 0) = s at *
  have hi15 : i ≤ 15 := by omega
  have hrest : rdRest (magW m ws) i s = true → 9223372036854775808 ≤ rdHi (magW m ws) i s := fun _ => by
   have h1 := hb.1
   rw [← c4, show (2 : Nat) ^ 127 = 170141183460469231731687303715884105728 by decide] at h1
   exact tw_top c7 h1
  have hM := Make_ev (neg := decide (S < 0)) (rest := rdRest (magW m ws) i s) (h := rdHi (magW m ws) i s) (l := rdLo (magW m ws) i s) (e := 64 * ((i : Int) - 1) - (s : Int) + 16 - 8 * (4 * (m : Int))) c6 c7 (by omega) (by omega) hrest
  have hne : tw (rdHi (magW m ws) i s) (rdLo (magW m ws) i s) ≠ 0 := by
   rw [c4]; intro z; rw [z] at hb; exact absurd hb.1 (by decide)
  rw [if_neg hne, c4, hbl] at hM
  have hnm2 : nmW (tpM S.natAbs) = tpM S.natAbs := by unfold nmW; rw [hbl, Nat.sub_self, Nat.pow_zero, Nat.mul_one]
  rw [hnm2, c5] at hM
  have hsc : 64 * ((i : Int) - 1) - (s : Int) + 16 - 8 * (4 * (m : Int)) + ((128 : Nat) : Int) - 1 = scU (16 - 8 * (n : Int)) S.natAbs := by
   unfold scU; rw [c3]; omega
  rw [hsc] at hM
  have hscr : -1099511627776 ≤ scU (16 - 8 * (n : Int)) S.natAbs ∧ scU (16 - 8 * (n : Int)) S.natAbs ≤ 1099511627776 := by unfold scU; rw [c3]; omega
  have e127 : (2 : Nat) ^ 127 = 170141183460469231731687303715884105728 := by decide
  have e128 : (2 : Nat) ^ 128 = 340282366920938463463374607431768211456 := by decide
  have hR := Round_made (neg := decide (S < 0)) (rest := tpR S.natAbs) hn hscr.1 hscr.2 (e127 ▸ hb.1) (e128 ▸ hb.2)
  obtain ⟨K1, hK1⟩ := Ev.both hLZ hM
  obtain ⟨K2, hK2⟩ := hR
  obtain ⟨a1, a2⟩ := hK1 (K1 + K2) (by omega)
  have a3 := hK2 (K1 + K2) (by omega)
  have hres : rsP n S = rdN n (decide (S < 0)) (scU (16 - 8 * (n : Int)) S.natAbs) (tpM S.natAbs) (tpR S.natAbs) := by unfold rsP; rw [if_neg (by omega)]
  rw [hres]
  have hcall := round_calls b m t ws (K1 + K2) s s
  rw [hi, hneg, c5] at hcall
  exact hcall a1 (by omega) _ _ _ _ _ _ _ _ rfl a2 (by rw [← h4]; exact a3) W h hm2 hm16 hl hw
end Go.Proofs.Ytjlaijaadclghaa.M
