/- Walk of the accumulator's enter; conditions: .. -/
import Derived.Test.YtjlaijaadclghaaA4Q
import Derived.WalkMore
namespace Go.Proofs.Ytjlaijaadclghaa.F
open RowKit YtjlaijaadclghaaW PrintWords PrintLast PrintMore
attribute [local go_sem high] xor_u64 xor_u32
set_option linter.all false
def stepW (tk : Bool) (x v c : Nat) : Nat := if tk = true then (x + 18446744073709551616 - v - c) % 18446744073709551616 else (x + v + c) % 18446744073709551616
def stepCy (tk : Bool) (x v c : Nat) : Nat := if tk = true then (if x < v + c then 1 else 0) else (x + v + c) / 18446744073709551616
def opC (tk : Bool) : List Nat → List Nat → Nat → List Nat
 | [], _, _ => []
 | x :: xs, vs, c => stepW tk x (vs.headD 0) c :: opC tk xs vs.tail (stepCy tk x (vs.headD 0) c)
structure Chg (w W : World) (b : Nat) : Prop where
 os : W.os = w.os
 tape : W.tape = w.tape
 output : W.output = w.output
 size : w.heap.size ≤ W.heap.size
 other : ∀ k, k < w.heap.size → k ≠ b → W.heap[k]? = w.heap[k]?
theorem Chg.refl (w : World) (b : Nat) : Chg w w b := ⟨rfl, rfl, rfl, Nat.le_refl _, fun _ _ _ => rfl⟩
theorem Chg.upd {w V W : World} {b : Nat} {o : Obj} (h : Chg w V b) (u : Upd V W b o) : Chg w W b := ⟨u.os.trans h.os, u.tape.trans h.tape, u.output.trans h.output, by rw [u.size]; exact h.size, fun k hk hb => (u.other k hb).trans (h.other k hk hb)⟩
theorem Chg.below {w V W : World} {b : Nat} (h : Chg w V b) (u : Below V.heap.size V W) : Chg w W b := ⟨u.os.trans h.os, u.tape.trans h.tape, u.output.trans h.output, Nat.le_trans h.size u.size, fun k hk hb => (u.block k (Nat.lt_of_lt_of_le hk h.size)).trans (h.other k hk hb)⟩
theorem Chg.trans {u v w : World} {b : Nat} (h : Chg u v b) (k : Chg v w b) : Chg u w b := ⟨k.os.trans h.os, k.tape.trans h.tape, k.output.trans h.output, Nat.le_trans h.size k.size, fun i hi hb => (k.other i (Nat.lt_of_lt_of_le hi h.size) hb).trans (h.other i hi hb)⟩
theorem Chg.drewN {w W : World} {b : Nat} (h : Chg w W b) (k : Nat) : Chg w (W.drewN k) b := ⟨h.os, h.tape, h.output, h.size, h.other⟩
def three (hi lo s : Nat) : List Nat := [lo * 2 ^ s % 18446744073709551616, hi * 2 ^ s % 18446744073709551616 + lo / 2 / 2 ^ (63 - s), hi / 2 / 2 ^ (63 - s)]
theorem wrap_nat (x : Nat) : IntKind.u64.wrap (x : Int) = ((x % 18446744073709551616 : Nat) : Int) := by
 simp [IntKind.wrap, IntKind.bits, IntKind.signed]
theorem low_part {lo s : Nat} (hlo : lo < 18446744073709551616) (hs : s < 64) : lo / 2 / 2 ^ (63 - s) < 2 ^ s := by
 rw [Nat.div_lt_iff_lt_mul (Nat.pow_pos (by decide)), ← Nat.pow_add, show s + (63 - s) = 63 by omega]
 have h63 : (2 : Nat) ^ 63 = 9223372036854775808 := by decide
 omega
theorem or_three {hi lo s : Nat} (hhi : hi < 18446744073709551616) (hlo : lo < 18446744073709551616) (hs : s < 64) : Go.bits .or .u64 (IntKind.u64.wrap ((hi : Int) * 2 ^ s)) ((lo : Int) / 2 / 2 ^ (63 - s)) = ((hi * 2 ^ s % 18446744073709551616 + lo / 2 / 2 ^ (63 - s) : Nat) : Int) := by
 have e1 : IntKind.u64.wrap ((hi : Int) * 2 ^ s) = ((hi * 2 ^ s % 18446744073709551616 : Nat) : Int) := wrap_nat (hi * 2 ^ s)
 have e2 : (lo : Int) / 2 / 2 ^ (63 - s) = ((lo / 2 / 2 ^ (63 - s) : Nat) : Int) := rfl
 have hb := low_part hlo hs
 have hp : 2 ^ s * 2 ^ (64 - s) = 18446744073709551616 := by rw [← Nat.pow_add, show s + (64 - s) = 64 by omega]
 have hk : ∀ n : Int, 0 ≤ n → n < 2 ^ 64 → IntKind.u64.wrap n = n := fun n a b => by
  simp [IntKind.wrap, IntKind.bits, IntKind.signed]; omega
 have hA : hi * 2 ^ s % 18446744073709551616 = 2 ^ s * (hi % 2 ^ (64 - s)) := by rw [← hp, Nat.mul_comm hi, Nat.mul_mod_mul_left]
 have hm : hi % 2 ^ (64 - s) < 2 ^ (64 - s) := Nat.mod_lt _ (Nat.pow_pos (by decide))
 have hlt : hi * 2 ^ s % 18446744073709551616 < 18446744073709551616 := Nat.mod_lt _ (by decide)
 have hps : 2 ^ s ≤ 2 ^ 63 := Nat.pow_le_pow_right (by decide) (by omega)
 have h63 : (2 : Nat) ^ 63 = 9223372036854775808 := by decide
 rw [e1, e2, (bits_nat .u64 64 (by decide) hk _ _ hlt (by show _ < 18446744073709551616; omega)).2, hA]
 congr 1
 exact (Nat.two_pow_add_eq_or_of_lt hb _).symm
def enterW (tk : Bool) (m : Nat) (ws : List Nat) (hi lo up : Nat) : List Nat := ws.take (up / 64) ++ opC tk ((ws.take m).drop (up / 64)) (three hi lo (up % 64)) 0 ++ ws.drop m
theorem stepCy_le {tk : Bool} {x v c : Nat} (hx : x < 18446744073709551616) (hv : v < 18446744073709551616) (hc : c ≤ 1) : stepCy tk x v c ≤ 1 := by
 unfold stepCy; split
 ·
  split <;> omega
 ·
  omega
theorem opC_nil (tk : Bool) : ∀ zs : List Nat, (∀ x ∈ zs, x < 18446744073709551616) → opC tk zs [] 0 = zs
 | [], _ => rfl
 | x :: zs, h => by
  have hx := h x (by simp)
  have e1 : stepW tk x 0 0 = x := by unfold stepW; split <;> omega
  have e2 : stepCy tk x 0 0 = 0 := by unfold stepCy; split <;> (try split) <;> omega
  show stepW tk x 0 0 :: opC tk zs [] (stepCy tk x 0 0) = _
  rw [e1, e2, opC_nil tk zs (fun y hy => h y (by simp [hy]))]
theorem Acc_store {W : World} {b m : Nat} {nar : Bool} {t : Int} {ys zs rest : List Nat} {x y i : Nat} (h : AccB W b m nar t (ys ++ x :: zs ++ rest)) (hi : i = ys.length) : Upd W (W.setCell ⟨b, 3 + i, none⟩ (.int .u64 (y : Int))) b (.cells (accC m nar t (ys ++ [y] ++ zs ++ rest)) 62 (0, 0)) := by
 have e : W.setCell ⟨b, 3 + i, none⟩ (.int .u64 (y : Int)) = W.setRow b (accC m nar t (ys ++ [y] ++ zs ++ rest)) := by
  rw [setCell_eq_setRow W b (3 + i) _ 62 (0, 0) _ h]
  congr 1
  rw [hi]
  show (rowC _ [] (ys ++ x :: zs ++ rest)).setIfInBounds _ (wordV y) = _
  rw [List.append_assoc, List.cons_append]
  have := rowC_set [.int .i64 (4 * (m : Int)), .bool nar, .int .i64 t] [] ys (zs ++ rest) x y
  rw [show ys ++ [y] ++ zs ++ rest = ys ++ y :: (zs ++ rest) by simp]
  exact this
 rw [e]
 exact Upd.setRow h
theorem Acc_at {W : World} {b m : Nat} {nar : Bool} {t : Int} {ys zs rest : List Nat} {x i : Nat} (h : AccB W b m nar t (ys ++ x :: zs ++ rest)) (hi : i = ys.length) : W.cell? ⟨b, 3 + i, none⟩ = some (.int .u64 (x : Int)) := by
 rw [h.word (by rw [hi]; simp), hi, List.append_assoc, List.cons_append]
 simp
def RoundS (tk : Bool) (m : Nat) (ws : List Nat) (hi lo up v0 v1 v2 kq : Nat) (ys zs vs : List Nat) (c k i : Nat) : Prop := kq = zs.length ∧ i = ys.length ∧ i + zs.length = m ∧ i = up / 64 + k ∧ c ≤ 1 ∧ vs = [v0, v1, v2].drop k ∧ (∀ x ∈ zs, x < 18446744073709551616) ∧ enterW tk m ws hi lo up = ys ++ opC tk zs vs c ++ ws.drop m
theorem RoundS.next {tk : Bool} {m : Nat} {ws : List Nat} {hi lo up v0 v1 v2 kq : Nat} {ys zs vs : List Nat} {c k i x v : Nat} (h : RoundS tk m ws hi lo up v0 v1 v2 kq ys (x :: zs) vs c k i) (hv : v = [v0, v1, v2].getD k 0) (hV : v0 < 18446744073709551616 ∧ v1 < 18446744073709551616 ∧ v2 < 18446744073709551616) :
  RoundS tk m ws hi lo up v0 v1 v2 zs.length (ys ++ [stepW tk x v c]) zs vs.tail (stepCy tk x v c) (k + 1) (i + 1) ∧ zs.length < kq ∧ x < 18446744073709551616 ∧ v < 18446744073709551616 ∧ c ≤ 1 := by
 obtain ⟨h1, h2, h3, h4, h5, h6, h7, h8⟩ := h
 have hx := h7 x (by simp)
 have hvB : v < 18446744073709551616 := by
  rw [hv]
  rcases (show k = 0 ∨ k = 1 ∨ k = 2 ∨ 3 ≤ k by omega) with rfl | rfl | rfl | h
  ·
   exact hV.1
  ·
   exact hV.2.1
  ·
   exact hV.2.2
  ·
   rw [List.getD_eq_getElem?_getD, List.getElem?_eq_none (by simpa using h)]; decide
 have hh : vs.headD 0 = v := by
  rw [hv, h6]
  rcases (show k = 0 ∨ k = 1 ∨ k = 2 ∨ 3 ≤ k by omega) with rfl | rfl | rfl | h
  ·
   rfl
  ·
   rfl
  ·
   rfl
  ·
   rw [List.drop_eq_nil_of_le (by simpa using h), List.getD_eq_getElem?_getD, List.getElem?_eq_none (by simpa using h)]; rfl
 refine ⟨⟨rfl, ?_, ?_, by omega, stepCy_le hx hvB h5, ?_, fun y hy => h7 y (by simp [hy]), ?_⟩, ?_, hx, hvB, h5⟩
 ·
  rw [List.length_append, h2]; rfl
 ·
  simp only [List.length_cons] at h3; omega
 ·
  rw [h6, List.tail_drop]
 ·
  rw [h8, ← hh]
  simp [opC]
 ·
  rw [h1]; simp
theorem RoundS.last {tk : Bool} {m : Nat} {ws : List Nat} {hi lo up v0 v1 v2 kq : Nat} {ys zs vs : List Nat} {c k i : Nat} (h : RoundS tk m ws hi lo up v0 v1 v2 kq ys zs vs c k i) (hz : zs = [] ∨ (3 ≤ k ∧ c = 0)) : enterW tk m ws hi lo up = ys ++ zs ++ ws.drop m := by
 obtain ⟨h1, h2, h3, h4, h5, h6, h7, h8⟩ := h
 rw [h8]
 rcases hz with rfl | ⟨hk, rfl⟩
 ·
  rfl
 ·
  rw [h6, List.drop_eq_nil_of_le (by simpa using hk), opC_nil tk zs h7]
theorem sub_step {x v c : Nat} (hx : x < 18446744073709551616) (hv : v < 18446744073709551616) (hc : c ≤ 1) : bits_Sub64.f (x : Int) (v : Int) (c : Int) = some (((stepW true x v c : Nat) : Int), ((stepCy true x v c : Nat) : Int)) := by
 unfold bits_Sub64.f stepW stepCy
 rw [if_pos (by omega), if_pos rfl, if_pos rfl]
 congr 2
 ·
  omega
 ·
  split <;> split <;> omega
theorem add_step {x v c : Nat} (hx : x < 18446744073709551616) (hv : v < 18446744073709551616) (hc : c ≤ 1) : bits_Add64.f (x : Int) (v : Int) (c : Int) = some (((stepW false x v c : Nat) : Int), ((stepCy false x v c : Nat) : Int)) := by
 unfold bits_Add64.f stepW stepCy
 rw [if_pos (by omega), if_neg (by decide), if_neg (by decide)]
 congr 2
set_option maxHeartbeats 4000000 in
set_option maxRecDepth 100000 in
theorem enter_calls (tk : Bool) (b m : Nat) (nar : Bool) (t : Int) (ws : List Nat) (hi lo up : Nat) (w : World) (h : AccB w b m nar t ws) (h0 : 1 ≤ m) (h1 : m ≤ 16) (hl : ws.length = 16) (hw : ∀ x ∈ ws, x < 18446744073709551616) (hhi : hi < 18446744073709551616) (hlo : lo < 18446744073709551616) (hup : up / 64 < m) :
  Calls Try.prog 64 #[.pointer (some ⟨b, 0, none⟩), .int .u64 (hi : Int), .int .u64 (lo : Int), .int .i64 (up : Int), .bool tk] w fun e w' => e = .returned (.tuple #[]) ∧ AccB w' b m nar t (enterW tk m ws hi lo up) ∧ Chg w w' b := by
 have hu74 := Try.underlying72
 have hu76 := Try.underlying76
 have HS := @sl62 m h1
 have hb := Aside0.mk h.lt
 obtain ⟨v0, hv0⟩ : ∃ v0 : Nat, v0 = lo * 2 ^ (up % 64) % 18446744073709551616 := ⟨_, rfl⟩
 obtain ⟨v1, hv1⟩ : ∃ v1 : Nat, v1 = hi * 2 ^ (up % 64) % 18446744073709551616 + lo / 2 / 2 ^ (63 - up % 64) := ⟨_, rfl⟩
 obtain ⟨v2, hv2⟩ : ∃ v2 : Nat, v2 = hi / 2 / 2 ^ (63 - up % 64) := ⟨_, rfl⟩
 have e0 : IntKind.u64.wrap ((lo : Int) * 2 ^ (up % 64)) = (v0 : Int) := by rw [hv0]; exact wrap_nat (lo * 2 ^ (up % 64))
 have e1 : Go.bits .or .u64 (IntKind.u64.wrap ((hi : Int) * 2 ^ (up % 64))) ((lo : Int) / 2 / 2 ^ (63 - up % 64)) = (v1 : Int) := by rw [hv1]; exact or_three hhi hlo (by omega)
 have e2 : (hi : Int) / 2 / 2 ^ (63 - up % 64) = (v2 : Int) := by rw [hv2]; rfl
 have HV : Aside0 (three hi lo (up % 64) = [v0, v1, v2]) := ⟨by unfold three; rw [hv0, hv1, hv2]⟩
 have HV2 : Aside0 (v0 < 18446744073709551616 ∧ v1 < 18446744073709551616 ∧ v2 < 18446744073709551616) := ⟨by
  have hs : up % 64 < 64 := Nat.mod_lt _ (by decide)
  have b1 := low_part hlo hs
  have hp : 2 ^ (up % 64) * 2 ^ (64 - up % 64) = 18446744073709551616 := by rw [← Nat.pow_add, show up % 64 + (64 - up % 64) = 64 by omega]
  have hA : hi * 2 ^ (up % 64) % 18446744073709551616 = 2 ^ (up % 64) * (hi % 2 ^ (64 - up % 64)) := by rw [← hp, Nat.mul_comm hi, Nat.mul_mod_mul_left]
  have hm : hi % 2 ^ (64 - up % 64) < 2 ^ (64 - up % 64) := Nat.mod_lt _ (Nat.pow_pos (by decide))
  refine ⟨by rw [hv0]; exact Nat.mod_lt _ (by decide), ?_, ?_⟩
  ·
   rw [hv1, hA]
   have : 2 ^ (up % 64) * (hi % 2 ^ (64 - up % 64) + 1) ≤ 18446744073709551616 := by rw [← hp]; exact Nat.mul_le_mul_left _ hm
   rw [Nat.mul_add, Nat.mul_one] at this
   omega
  ·
   rw [hv2]
   have := low_part hhi hs
   have : 2 ^ (up % 64) ≤ 2 ^ 63 := Nat.pow_le_pow_right (by decide) (by omega)
   have h63 : (2 : Nat) ^ 63 = 9223372036854775808 := by decide
   omega⟩
 clear hv0 hv1 hv2
 go_enter Try.func64, Try.ntmps64
 go_step3
 go_upto_region 2 with (fail)
 obtain ⟨W0, hW0⟩ : ∃ W0, W0 = w.alloc (.cells #[.int .u64 (v0 : Int), .int .u64 (v1 : Int), .int .u64 (v2 : Int)] 72 (0, 0)) := ⟨_, rfl⟩
 have hA0 : AccB W0 b m nar t ws := by rw [hW0]; exact h.same (alloc_old w _ b hb.out)
 have hC0 : Chg w W0 b := by rw [hW0]; exact (Chg.refl w b).below (below_alloc (Below.refl _ _) _)
 have hG0 : W0.heap[w.heap.size]? = some (.cells #[.int .u64 (v0 : Int), .int .u64 (v1 : Int), .int .u64 (v2 : Int)] 72 (0, 0)) := by rw [hW0]; exact alloc_new w _
 rw [← hW0]
 have HA0 := Aside0.mk hA0
 have HC0 := Aside0.mk hC0
 have HG0 := Aside0.mk hG0
 clear hA0 hC0 hG0 hW0
 obtain ⟨g, hg⟩ : ∃ g, g = w.heap.size := ⟨_, rfl⟩
 have hgb : Aside0 (g ≠ b) := ⟨by have := hb.out; omega⟩
 rw [← hg] at HG0 ⊢
 have HGG := Aside0.mk hg
 clear hg
 go_quiet (first | (go_at_call 32; refine Calls.quiet_of_same (size_calls b m nar t ws _ (HA0.out.drewN _) h1)))
 go_wp2
 go_step3
 go_wp2
 clear e0 e1 e2
 go_loopg [14, 15, 16, 17] (m - up / 64) (fun kq v14 v15 v16 v17 W => ∃ (ys zs vs : List Nat) (c k i : Nat), v14 = .int .u64 (c : Int) ∧ v15 = .int .i64 (i : Int) ∧ Aside0 (RoundS tk m ws hi lo up v0 v1 v2 kq ys zs vs c k i) ∧ Aside0 (AccB W b m nar t (ys ++ zs ++ ws.drop m)) ∧ Aside0 (Chg w W b) ∧ Aside0 (W.heap[g]? = some (.cells #[.int .u64 (v0 : Int), .int .u64 (v1 : Int), .int .u64 (v2 : Int)] 72 (0, 0))))
 case atStart =>
  refine ⟨ws.take (up / 64), (ws.take m).drop (up / 64), [v0, v1, v2], 0, 0, up / 64, rfl, by first | rfl | (simp; done), ⟨?_, ?_, ?_, rfl, by decide, rfl, fun x hx => hw x (List.mem_of_mem_take (List.mem_of_mem_drop hx)), ?_⟩, ⟨?_⟩, ⟨?_⟩, ⟨?_⟩⟩
  ·
   rw [List.length_drop, List.length_take]; omega
  ·
   rw [List.length_take]; omega
  ·
   rw [List.length_drop, List.length_take]; omega
  ·
   show enterW tk m ws hi lo up = _
   unfold enterW; rw [HV.out]
  ·
   have e : ws.take (up / 64) ++ (ws.take m).drop (up / 64) ++ ws.drop m = ws := by
    have e1 : ws.take (up / 64) = (ws.take m).take (up / 64) := by rw [List.take_take]; congr 1; omega
    rw [e1, List.take_append_drop, List.take_append_drop]
   rw [e]; exact HA0.out
  ·
   exact HC0.out.drewN nq
  ·
   exact HG0.out
 case round =>
  obtain ⟨ys, zs, vs, c, k, i, rfl, rfl, HF, HA, HC, HG⟩ := hrel
  cases zs with
  | nil =>
   have c0 : decide (i < m) = false := by have := HF.out.2.2.1; simp at this; rw [decide_eq_false_iff_not]; omega
   go_wp2
   rw [Exit.noGoto_normal]
   go_end0
   exact ⟨rfl, by rw [HF.out.last (.inl rfl)]; exact HA.out, HC.out⟩
  | cons x zs =>
   have hlt : i < m := by have := HF.out.2.2.1; simp at this; omega
   have c0 : decide (i < m) = true := decide_eq_true hlt
   have ek : (i : Int) - (up : Int) / 64 = (k : Int) := by have := HF.out.2.2.2.1; omega
   have hk17 : k < 17 := by have := HF.out.2.2.2.1; omega
   have hcx : wr.cell? ⟨b, 3 + i, none⟩ = some (.int .u64 (x : Int)) := Acc_at HA.out HF.out.2.1
   have hfx : wr.frozen? ⟨b, 3 + i, none⟩ = false := frozen_of_row _ b _ _ 62 HA.out
   obtain ⟨v, hv⟩ : ∃ v, v = [v0, v1, v2].getD k 0 := ⟨_, rfl⟩
   have HVV := Aside0.mk hv
   by_cases hk3 : k < 3
   ·
    have c1 : decide (k < 3) = true := decide_eq_true hk3
    have hcell : wr.cell? ⟨g, k, none⟩ = some (.int .u64 (v : Int)) := by
     unfold World.cell?; rw [HG.out, hv]
     rcases (show k = 0 ∨ k = 1 ∨ k = 2 by omega) with rfl | rfl | rfl <;> rfl
    clear hv
    cases tk with
    | true =>
     have hN := HF.out.next (v := v) HVV.out HV2.out
     have A9 := Aside0.mk (sub_step hN.2.2.1 hN.2.2.2.1 hN.2.2.2.2)
     have HN := Aside0.mk hN
     clear hN
     obtain ⟨y, hy⟩ : ∃ y, y = stepW true x v c := ⟨_, rfl⟩
     obtain ⟨cy, hcy⟩ : ∃ cy, cy = stepCy true x v c := ⟨_, rfl⟩
     rw [← hy, ← hcy] at A9 HN
     clear hy hcy
     go_wp2_with (first | ((with_reducible refine gC (f := 78) rfl ?_); (with_reducible refine gD (N := 76) rfl ?_); refine goesX_ (some 76) #[.int .u64 (x : Int), .int .u64 (v : Int), .int .u64 (c : Int)] ?_; (with_reducible refine (bits_Sub64.calls _ _ _ _ _ _ A9.out).mono ?_); rintro e w' ⟨rfl, rfl⟩; refine ⟨_, rfl, ?_⟩))
     go_roundg zs.length
     case measure => exact HN.out.2.1
     case rel => exact ⟨ys ++ [y], zs, vs.tail, cy, k + 1, i + 1, rfl, by first | rfl | (simp; done), ⟨HN.out.1⟩, ⟨(Acc_store HA.out HF.out.2.1).here⟩, ⟨HC.out.upd (Acc_store HA.out HF.out.2.1)⟩, ⟨((Acc_store HA.out HF.out.2.1).other g hgb.out).trans HG.out⟩⟩
    | false =>
     have hN := HF.out.next (v := v) HVV.out HV2.out
     have A9 := Aside0.mk (add_step hN.2.2.1 hN.2.2.2.1 hN.2.2.2.2)
     have HN := Aside0.mk hN
     clear hN
     obtain ⟨y, hy⟩ : ∃ y, y = stepW false x v c := ⟨_, rfl⟩
     obtain ⟨cy, hcy⟩ : ∃ cy, cy = stepCy false x v c := ⟨_, rfl⟩
     rw [← hy, ← hcy] at A9 HN
     clear hy hcy
     go_wp2_with (first | ((with_reducible refine gC (f := 65) rfl ?_); (with_reducible refine gD (N := 89) rfl ?_); refine goesX_ (some 89) #[.int .u64 (x : Int), .int .u64 (v : Int), .int .u64 (c : Int)] ?_; (with_reducible refine (bits_Add64.calls _ _ _ _ _ _ A9.out).mono ?_); rintro e w' ⟨rfl, rfl⟩; refine ⟨_, rfl, ?_⟩))
     go_roundg zs.length
     case measure => exact HN.out.2.1
     case rel => exact ⟨ys ++ [y], zs, vs.tail, cy, k + 1, i + 1, rfl, by first | rfl | (simp; done), ⟨HN.out.1⟩, ⟨(Acc_store HA.out HF.out.2.1).here⟩, ⟨HC.out.upd (Acc_store HA.out HF.out.2.1)⟩, ⟨((Acc_store HA.out HF.out.2.1).other g hgb.out).trans HG.out⟩⟩
   ·
    have c1 : decide (k < 3) = false := decide_eq_false hk3
    have hv0 : v = 0 := by rw [hv, List.getD_eq_getElem?_getD, List.getElem?_eq_none (by simp; omega)]; rfl
    clear hv
    subst hv0
    by_cases hc0 : c = 0
    ·
     have HK := Aside0.mk hk3
     subst hc0
     go_wp2
     rw [Exit.noGoto_normal]
     go_end0
     exact ⟨rfl, by rw [HF.out.last (.inr ⟨by have := HK.out; omega, rfl⟩)]; exact HA.out, HC.out⟩
    ·
     have c2 : ((c : Int) == 0) = false := by simpa using hc0
     cases tk with
     | true =>
      have hN := HF.out.next (v := 0) HVV.out HV2.out
      have A9 : Aside0 (bits_Sub64.f (x : Int) 0 (c : Int) = some (((stepW true x 0 c : Nat) : Int), ((stepCy true x 0 c : Nat) : Int))) := Aside0.mk (sub_step (v := 0) hN.2.2.1 hN.2.2.2.1 hN.2.2.2.2)
      have HN := Aside0.mk hN
      clear hN
      obtain ⟨y, hy⟩ : ∃ y, y = stepW true x 0 c := ⟨_, rfl⟩
      obtain ⟨cy, hcy⟩ : ∃ cy, cy = stepCy true x 0 c := ⟨_, rfl⟩
      rw [← hy, ← hcy] at A9 HN
      clear hy hcy
      go_wp2_with (first | ((with_reducible refine gC (f := 78) rfl ?_); (with_reducible refine gD (N := 76) rfl ?_); refine goesX_ (some 76) #[.int .u64 (x : Int), .int .u64 0, .int .u64 (c : Int)] ?_; (with_reducible refine (bits_Sub64.calls _ _ _ _ _ _ A9.out).mono ?_); rintro e w' ⟨rfl, rfl⟩; refine ⟨_, rfl, ?_⟩))
      go_roundg zs.length
      case measure => exact HN.out.2.1
      case rel => exact ⟨ys ++ [y], zs, vs.tail, cy, k + 1, i + 1, rfl, by first | rfl | (simp; done), ⟨HN.out.1⟩, ⟨(Acc_store HA.out HF.out.2.1).here⟩, ⟨HC.out.upd (Acc_store HA.out HF.out.2.1)⟩, ⟨((Acc_store HA.out HF.out.2.1).other g hgb.out).trans HG.out⟩⟩
     | false =>
      have hN := HF.out.next (v := 0) HVV.out HV2.out
      have A9 : Aside0 (bits_Add64.f (x : Int) 0 (c : Int) = some (((stepW false x 0 c : Nat) : Int), ((stepCy false x 0 c : Nat) : Int))) := Aside0.mk (add_step (v := 0) hN.2.2.1 hN.2.2.2.1 hN.2.2.2.2)
      have HN := Aside0.mk hN
      clear hN
      obtain ⟨y, hy⟩ : ∃ y, y = stepW false x 0 c := ⟨_, rfl⟩
      obtain ⟨cy, hcy⟩ : ∃ cy, cy = stepCy false x 0 c := ⟨_, rfl⟩
      rw [← hy, ← hcy] at A9 HN
      clear hy hcy
      go_wp2_with (first | ((with_reducible refine gC (f := 65) rfl ?_); (with_reducible refine gD (N := 89) rfl ?_); refine goesX_ (some 89) #[.int .u64 (x : Int), .int .u64 0, .int .u64 (c : Int)] ?_; (with_reducible refine (bits_Add64.calls _ _ _ _ _ _ A9.out).mono ?_); rintro e w' ⟨rfl, rfl⟩; refine ⟨_, rfl, ?_⟩))
      go_roundg zs.length
      case measure => exact HN.out.2.1
      case rel => exact ⟨ys ++ [y], zs, vs.tail, cy, k + 1, i + 1, rfl, by first | rfl | (simp; done), ⟨HN.out.1⟩, ⟨(Acc_store HA.out HF.out.2.1).here⟩, ⟨HC.out.upd (Acc_store HA.out HF.out.2.1)⟩, ⟨((Acc_store HA.out HF.out.2.1).other g hgb.out).trans HG.out⟩⟩
end Go.Proofs.Ytjlaijaadclghaa.F
