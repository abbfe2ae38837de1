/- Walk of the accumulator's deposit; .. -/
import Derived.Test.YtjlaijaadclghaaA5Q
namespace Go.Proofs.Ytjlaijaadclghaa.F
open RowKit YtjlaijaadclghaaW PrintWords PrintLast PrintMore
attribute [local go_sem high] xor_u64 xor_u32
set_option linter.all false
theorem AccB.c0 {W : World} {b m : Nat} {nar : Bool} {t : Int} {ws : List Nat} (h : AccB W b m nar t ws) : W.cell? ⟨b, 0, none⟩ = some (.int .i64 (4 * (m : Int))) := by rw [h.cell]; rfl
theorem AccB.c1 {W : World} {b m : Nat} {nar : Bool} {t : Int} {ws : List Nat} (h : AccB W b m nar t ws) : W.cell? ⟨b, 1, none⟩ = some (.bool nar) := by rw [h.cell]; rfl
theorem AccB.c2 {W : World} {b m : Nat} {nar : Bool} {t : Int} {ws : List Nat} (h : AccB W b m nar t ws) : W.cell? ⟨b, 2, none⟩ = some (.int .i64 t) := by rw [h.cell]; rfl
theorem AccB.fz {W : World} {b m : Nat} {nar : Bool} {t : Int} {ws : List Nat} (h : AccB W b m nar t ws) (i : Nat) : W.frozen? ⟨b, i, none⟩ = false := frozen_of_row _ b i _ 62 h
theorem storeCells_shift (g off : Nat) : ∀ (vs : List Value) (j : Nat), storeCells ⟨g, off, none⟩ vs j = storeCells ⟨g, 0, none⟩ vs (off + j)
 | [], j => rfl
 | v :: rest, j => by
  have e : (⟨g, off, none⟩ : Addr).add j = (⟨g, 0, none⟩ : Addr).add (off + j) := by
   unfold Addr.add
   split <;> split <;> simp_all
  simp only [storeCells, e, storeCells_shift g off rest (j + 1), Nat.add_assoc]
theorem run_storeVar_end {P : Program} (w : World) (g off : Nat) (t ty : TypeId) (cur : Array Value) (vs : List Value) (hg : w.heap[g]? = some (.cells cur t (0, 0))) (hi : (P.info? ty).map (·.size) = some vs.length)
  (ho : off + vs.length = cur.size) (h1 : ∀ v ∈ vs, v.oneCell' = true) :
  (storeVar ty ⟨g, off, none⟩ (.agg vs.toArray)).run P w = .ok () (w.setRow g (cur.toList.take off ++ vs).toArray) := by
 have := run_storeCells_from (P := P) g t vs off cur w hg ho h1
 cases hq : P.info? ty with
 | none => simp [hq] at hi
 | some i =>
  have hs : vs.length = i.size := by simp [hq] at hi; omega
  have e := storeCells_shift g off vs 0
  rw [Nat.add_zero] at e
  simp [storeVar, sizeOf, typeInfo, hq, Value.cells, hs, e, this]
theorem wpList_store_end {P : Program} {ops : Array Oper} {rest : List Oper} {o : Oper} {a : Act} {w : World} {Q : Exit → Act → World → Prop} (hgd : o.guard = none) (ty : TypeId) (x y : Operand) (ho : o.op = .store ty x y)
  (g off : Nat) (vs : List Value) (hx : a.eval x = .pointer (some ⟨g, off, none⟩)) (hy : a.eval y = .agg vs.toArray)
  (t : TypeId) (cur : Array Value) (hg : w.heap[g]? = some (.cells cur t (0, 0))) (hi : (P.info? ty).map (·.size) = some vs.length)
  (hl : off + vs.length = cur.size) (h1 : ∀ v ∈ vs, v.oneCell' = true)
  (h : ∀ W, Upd w W g (.cells (cur.toList.take off ++ vs).toArray t (0, 0)) → wpList P ops Q rest (a.put o.dst undef) W) : wpList P ops Q (o :: rest) a w := by
 refine wpList_plain hgd fun _ hK => ?_
 unfold Oper.wp execOp
 simp only [ho, hx, hy, Instr.storeAt, Instr.sureAddr, Sem.run_bind, Sem.run_pure, Result.andThen_ok, run_storeVar_end w g off t ty cur vs hg hi hl h1]
 exact hK _ _ (h _ (Upd.setRow hg))
theorem Upd.cell {w : World} {g i : Nat} {cs : Array Value} {ty : TypeId} {v : Value} (h : w.heap[g]? = some (.cells cs ty (0, 0))) : Upd w (w.setCell ⟨g, i, none⟩ v) g (.cells (cs.setIfInBounds i v) ty (0, 0)) := by
 rw [setCell_eq_setRow w g i cs ty (0, 0) v h]; exact Upd.setRow h
theorem Upd.trans {u v w : World} {g : Nat} {o p : Obj} (h : Upd u v g o) (k : Upd v w g p) : Upd u w g p := ⟨k.os.trans h.os, k.tape.trans h.tape, k.output.trans h.output, k.size.trans h.size, k.here, fun i hi => (k.other i hi).trans (h.other i hi)⟩
theorem set4 {w : World} {g : Nat} {ty : TypeId} {a0 a1 a2 a3 : Value} (v0 v1 v2 v3 : Value) (h : w.heap[g]? = some (.cells #[a0, a1, a2, a3] ty (0, 0))) : Upd w ((((w.setCell ⟨g, 0, none⟩ v0).setCell ⟨g, 1, none⟩ v1).setCell ⟨g, 2, none⟩ v2).setCell ⟨g, 3, none⟩ v3) g (.cells #[v0, v1, v2, v3] ty (0, 0)) := by
 have u0 := Upd.cell (i := 0) (v := v0) h
 have u1 := Upd.cell (i := 1) (v := v1) u0.here
 have u2 := Upd.cell (i := 2) (v := v2) u1.here
 have u3 := Upd.cell (i := 3) (v := v3) u2.here
 exact ((u0.trans u1).trans u2).trans u3
theorem Below.chg {w W : World} {b : Nat} (h : Below w.heap.size w W) : Chg w W b := ⟨h.os, h.tape, h.output, h.size, fun k hk _ => h.block k hk⟩
theorem Chg.far {w V W : World} {b g : Nat} {o : Obj} (h : Chg w V b) (u : Upd V W g o) (hg : w.heap.size ≤ g) : Chg w W b := ⟨u.os.trans h.os, u.tape.trans h.tape, u.output.trans h.output, by rw [u.size]; exact h.size, fun k hk hb => (u.other k (by omega)).trans (h.other k hk hb)⟩
def depN (nar : Bool) (k1 k2 : Int) : Bool := nar || k1 == 2 || k2 == 2
def depW (nar tk n1 n2 : Bool) (k1 k2 : Int) (m : Nat) (ws : List Nat) (P : Nat) (u : Int) : List Nat :=
 if depN nar k1 k2 = true then List.replicate 16 0 else if k1 = 1 ∧ k2 = 1 then enterW ((n1 != n2) != tk) m ws (P / 2 ^ (-u).toNat / 18446744073709551616) (P / 2 ^ (-u).toNat % 18446744073709551616) u.toNat else ws
theorem or_half {hi lo : Nat} (hlo : lo < 18446744073709551616) : Go.bits .or .u64 ((lo : Int) / 2) (IntKind.u64.wrap ((hi : Int) * 9223372036854775808)) = ((hi % 2 * 9223372036854775808 + lo / 2 : Nat) : Int) := by
 have e1 : IntKind.u64.wrap ((hi : Int) * 9223372036854775808) = ((hi % 2 * 9223372036854775808 : Nat) : Int) := by
  rw [show (hi : Int) * 9223372036854775808 = ((hi * 9223372036854775808 : Nat) : Int) by omega, wrap_nat]
  congr 1; omega
 have e2 : (lo : Int) / 2 = ((lo / 2 : Nat) : Int) := rfl
 have hk : ∀ n : Int, 0 ≤ n → n < 2 ^ 64 → IntKind.u64.wrap n = n := fun n a b => by
  simp [IntKind.wrap, IntKind.bits, IntKind.signed]; omega
 rw [e1, e2, (bits_nat .u64 64 (by decide) hk (lo / 2) (hi % 2 * 9223372036854775808) (by show _ < 18446744073709551616; omega) (by show _ < 18446744073709551616; omega)).2, Nat.or_comm]
 congr 1
 have := Nat.two_pow_add_eq_or_of_lt (i := 63) (b := lo / 2) (by show _ < 9223372036854775808; omega) (hi % 2)
 rw [show (2 : Nat) ^ 63 = 9223372036854775808 by decide, Nat.mul_comm] at this
 exact this.symm
set_option maxHeartbeats 8000000 in
set_option maxRecDepth 100000 in
theorem deposit_calls (tk : Bool) (b m : Nat) (nar : Bool) (t : Int) (ws : List Nat) (kf : Nat) (a1 a2 : Int) (k1 s1 f1 k2 s2 f2 : Int) (n1 n2 : Bool) (P : Nat) (u : Int) (w : World) (h : AccB w b m nar t ws) (h0 : 1 ≤ m) (h1 : m ≤ 16) (hl : ws.length = 16) (hw : ∀ x ∈ ws, x < 18446744073709551616) (ht0 : 0 ≤ t) (ht1 : t < 2147483647)
  (d1 : codec_Decode.f kf (4 * (m : Int)) a1 = some (k1, n1, s1, f1, none)) (d2 : codec_Decode.f kf (4 * (m : Int)) a2 = some (k2, n2, s2, f2, none))
  (hm : k1 = 1 → k2 = 1 → bits_Mul64.f f1 f2 = some (((P / 18446744073709551616 : Nat) : Int), ((P % 18446744073709551616 : Nat) : Int)) ∧ P / 18446744073709551616 < 18446744073709551616 ∧ u.toNat / 64 < m)
  (hu : u = s1 + s2 - 126 + 8 * (4 * (m : Int)) - 16) (hs1 : -1100 ≤ s1 ∧ s1 ≤ 1100) (hs2 : -1100 ≤ s2 ∧ s2 ≤ 1100) :
  Calls Try.prog 48 #[.pointer (some ⟨b, 0, none⟩), .int .u64 a1, .int .u64 a2, .bool tk] w fun e w' => e = .returned (errW none) ∧ AccB w' b m (depN nar k1 k2) (t + 1) (depW nar tk n1 n2 k1 k2 m ws P u) ∧ Chg w w' b := by
 have HM := Aside0.mk hm
 have HU := Aside0.mk hu
 clear hm hu
 have hu25 := Try.underlying25
 have hu39 := Try.underlying35
 have HH := Aside0.mk h
 have hb := Aside0.mk h.lt
 have HB := Aside0.mk (Below.refl w.heap.size w)
 have A3 := Aside0.mk d1
 have A4 := Aside0.mk d2
 have x0 := h.c0
 have x2 := h.c2
 have ct : (t == 2147483647) = false := by simpa using (show t ≠ 2147483647 by omega)
 clear d1 d2 h
 go_enter Try.func48, Try.ntmps48
 go_upto_region 10 with (first
  | ((with_reducible refine gC (f := 27) rfl ?_); (with_reducible refine gD (N := 27) rfl ?_); refine goesY_ (some 27) Try.func27 #[.int .i64 (4 * (m : Int)), .int .u64 a1] ?_; (with_reducible refine (codec_Decode.calls kf (4 * (m : Int)) a1 k1 n1 s1 f1 none _ A3.out).mono ?_); rintro e w7 ⟨rfl, hb7⟩; refine ⟨_, rfl, ?_⟩; have n0_ := Aside0.mk (bS3 HB.out hb7); clear HB; have HB := n0_; clear n0_; clear hb7; have y0 := (HH.out.same (HB.out.block b hb.out)).c0; have y2 := (HH.out.same (HB.out.block b hb.out)).c2; (try simp only [errW_none, errW_some]))
  | ((with_reducible refine gD (N := 9) rfl ?_); refine bE3 9 #[.int .i64 0, .bool false, .int .i64 0, .int .u64 0] 35 ?hr ?_; (case hr => first | (go_simp; done) | (go_simp; rfl)); intro g1 hg w8 hbox hb8; have n0_ := Aside0.mk (bS3 HB.out hb8); have n1_ := Aside0.mk hbox; have n2_ := Aside0.mk ((bZ3 hg HB.out)); clear HB; have HB := n0_; have BK1 := n1_; have GW1 := n2_; have GE1 := n2_; clear n0_ n1_ n2_; clear hb8 hbox hg; obtain ⟨hcz1_0, hcz1_1, hcz1_2, hcz1_3, hfz1_0, hfz1_1, hfz1_2, hfz1_3⟩ := cl4 BK1.out; have y0 := (HH.out.same (HB.out.block b hb.out)).c0; have y2 := (HH.out.same (HB.out.block b hb.out)).c2; have gb1 : b ≠ g1 := by have := hb.out; have := GW1.out; omega)
  | ((with_reducible refine gC (f := 27) rfl ?_); (with_reducible refine gD (N := 39) rfl ?_); refine goesY_ (some 39) Try.func27 #[.int .i64 (4 * (m : Int)), .int .u64 a2] ?_; (with_reducible refine (codec_Decode.calls kf (4 * (m : Int)) a2 k2 n2 s2 f2 none _ A4.out).mono ?_); rintro e w9 ⟨rfl, hb7⟩; refine ⟨_, rfl, ?_⟩; have hbb := Aside0.mk hb7; have n0_ := Aside0.mk (bS3 HB.out hb7); clear HB; have HB := n0_; clear n0_; clear hb7; have z0 := (HH.out.same (HB.out.block b hb.out)).c0; have z2 := (HH.out.same (HB.out.block b hb.out)).c2; (try simp only [errW_none, errW_some]))
  | ((with_reducible refine gD (N := 11) rfl ?_); refine bE3 11 #[.int .i64 0, .bool false, .int .i64 0, .int .u64 0] 35 ?hr2 ?_; (case hr2 => first | (go_simp; done) | (go_simp; rfl)); intro g2 hg w10 hbox hb8; have hbc := Aside0.mk hb8; have n0_ := Aside0.mk (bS3 HB.out hb8); have n1_ := Aside0.mk hbox; have n2_ := Aside0.mk ((bZ3 hg HB.out)); clear HB; have HB := n0_; have BK2 := n1_; have GW2 := n2_; have GE2 := n2_; have HG2 := Aside0.mk hg; clear n0_ n1_ n2_; clear hb8 hbox hg; obtain ⟨hcz2_0, hcz2_1, hcz2_2, hcz2_3, hfz2_0, hfz2_1, hfz2_2, hfz2_3⟩ := cl4 BK2.out; have u0 := (HH.out.same (HB.out.block b hb.out)).c0; have u2 := (HH.out.same (HB.out.block b hb.out)).c2; have uf := (HH.out.same (HB.out.block b hb.out)).fz 2; have gb2 : b ≠ g2 := by have := hb.out; have := GW2.out; omega))
 have U1 := set4 (.int .i64 k1) (.bool n1) (.int .i64 s1) (.int .u64 f1) BK1.out
 have hl1 : g1 < w8.heap.size := (Array.getElem?_eq_some_iff.1 BK1.out).1
 have G9 := (hbb.out.block g1 (by rw [U1.size]; exact hl1)).trans U1.here
 have hl9 : g1 < w9.heap.size := (Array.getElem?_eq_some_iff.1 G9).1
 have G10 := (hbc.out.block g1 hl9).trans G9
 have U2 := set4 (.int .i64 k2) (.bool n2) (.int .i64 s2) (.int .u64 f2) BK2.out
 have hg12 : g1 ≠ g2 := by have := HG2.out; omega
 have G11 := (U2.other g1 hg12).trans G10
 have hA10 := HH.out.same (HB.out.block b hb.out)
 have hA11 := hA10.same (U2.other b gb2)
 have U3 := Upd.cell (i := 2) (v := .int .i64 (t + 1)) hA11
 have G12 := (U3.other g1 (Ne.symm gb1)).trans G11
 have K12 := (U3.other g2 (Ne.symm gb2)).trans U2.here
 have hC12 : Chg w _ b := ((Below.chg HB.out).far U2 GW2.out).upd U3
 have hA12 : AccB _ b m nar (t + 1) ws := U3.here
 clear U1 hl1 G9 hl9 G10 U2 hg12 G11 hA10 hA11 U3
 generalize World.setCell _ ⟨b, 2, none⟩ _ = Z at *
 clear hcz1_0 hcz1_1 hcz1_2 hcz1_3 hfz1_0 hfz1_1 hfz1_2 hfz1_3 hcz2_0 hcz2_1 hcz2_2 hcz2_3 hfz2_0 hfz2_1 hfz2_2 hfz2_3 u0 u2 uf z0 z2 y0 y2 x0 x2
 have HA := Aside0.mk hA12
 have HC := Aside0.mk hC12
 have HG := Aside0.mk G12
 have HK := Aside0.mk K12
 obtain ⟨q10, q11, q12, q13, _, _, _, _⟩ := cl4 G12
 obtain ⟨q20, q21, q22, q23, _, _, _, _⟩ := cl4 K12
 have r0 := hA12.c0
 have r1 := hA12.c1
 have rf1 := hA12.fz 1
 clear hA12 hC12 G12 K12
 have Nend : ∀ W5, Upd (Z.setCell ⟨b, 1, none⟩ (.bool true)) W5 b (.cells (((accC m nar (t + 1) ws).setIfInBounds 1 (.bool true)).toList.take 3 ++ (List.replicate 16 0).map wordV).toArray 62 (0, 0)) → AccB W5 b m true (t + 1) (List.replicate 16 0) ∧ Chg w W5 b := fun W5 hU => by
  have hU2 := (Upd.cell (i := 1) (v := .bool true) HA.out).trans hU
  refine ⟨?_, HC.out.upd hU2⟩
  have := hU2.here
  exact this
 have NE := Aside0.mk Nend
 clear Nend
 have HA1 := Aside0.mk (Upd.cell (i := 1) (v := .bool true) HA.out).here
 have hs3 : Aside0 (3 + ((List.replicate 16 0).map wordV).length = ((accC m nar (t + 1) ws).setIfInBounds 1 (.bool true)).size) := ⟨by rw [Array.size_setIfInBounds, acc_size _ _ _ _ hl]; rfl⟩
 have hw1 : Aside0 (∀ v ∈ (List.replicate 16 0).map wordV, v.oneCell' = true) := ⟨fun v hv => by obtain ⟨x, _, rfl⟩ := List.mem_map.mp hv; rfl⟩
 cases nar with
 | true =>
  go_wp2_with (first
   | (refine wpList_store_end rfl 60 (.tmp 73) (.tmp 69) rfl b 3 ((List.replicate 16 0).map wordV) rfl rfl 62 _ HA1.out (by kernel_rfl) hs3.out hw1.out ?_; intro W5 hU5; have HU5 := Aside0.mk hU5; clear hU5))
  go_ret
  exact ⟨by simp only [errW_none]; rfl, by rw [show depN true k1 k2 = true by rfl, show depW true tk n1 n2 k1 k2 m ws P u = List.replicate 16 0 by unfold depW; rw [if_pos (by rfl)]]; exact (NE.out _ HU5.out).1, (NE.out _ HU5.out).2⟩
 | false =>
  by_cases e1 : k1 = 2
  ·
   have b1 : (k1 == 2) = true := beq_iff_eq.mpr e1
   clear e1
   go_wp2_with (first
    | (refine wpList_store_end rfl 60 (.tmp 73) (.tmp 69) rfl b 3 ((List.replicate 16 0).map wordV) rfl rfl 62 _ HA1.out (by kernel_rfl) hs3.out hw1.out ?_; intro W5 hU5; have HU5 := Aside0.mk hU5; clear hU5))
   go_ret
   exact ⟨by simp only [errW_none]; rfl, by rw [show depN false k1 k2 = true by unfold depN; rw [b1]; rfl, show depW false tk n1 n2 k1 k2 m ws P u = List.replicate 16 0 by unfold depW; rw [if_pos (by unfold depN; rw [b1]; rfl)]]; exact (NE.out _ HU5.out).1, (NE.out _ HU5.out).2⟩
  ·
   have b1 : (k1 == 2) = false := beq_eq_false_iff_ne.mpr e1
   by_cases e2 : k2 = 2
   ·
    have b2 : (k2 == 2) = true := beq_iff_eq.mpr e2
    clear e2
    go_wp2_with (first
     | (refine wpList_store_end rfl 60 (.tmp 73) (.tmp 69) rfl b 3 ((List.replicate 16 0).map wordV) rfl rfl 62 _ HA1.out (by kernel_rfl) hs3.out hw1.out ?_; intro W5 hU5; have HU5 := Aside0.mk hU5; clear hU5))
    go_ret
    exact ⟨by simp only [errW_none]; rfl, by rw [show depN false k1 k2 = true by unfold depN; rw [b1, b2]; rfl, show depW false tk n1 n2 k1 k2 m ws P u = List.replicate 16 0 by unfold depW; rw [if_pos (by unfold depN; rw [b1, b2]; rfl)]]; exact (NE.out _ HU5.out).1, (NE.out _ HU5.out).2⟩
   ·
    have b2 : (k2 == 2) = false := beq_eq_false_iff_ne.mpr e2
    have HD : Aside0 (depN false k1 k2 = false) := ⟨by unfold depN; rw [b1, b2]; rfl⟩
    by_cases e3 : k1 = 1
    ·
     have b3 : (k1 == 1) = true := beq_iff_eq.mpr e3
     by_cases e4 : k2 = 1
     ·
      have b4 : (k2 == 1) = true := beq_iff_eq.mpr e4
      have A7 := Aside0.mk (HM.out e3 e4).1
      have HP := Aside0.mk (HM.out e3 e4).2
      have HDW : Aside0 (depW false tk n1 n2 k1 k2 m ws P u = enterW ((n1 != n2) != tk) m ws (P / 2 ^ (-u).toNat / 18446744073709551616) (P / 2 ^ (-u).toNat % 18446744073709551616) u.toNat) := ⟨by unfold depW; rw [HD.out, if_neg (by decide), if_pos ⟨e3, e4⟩]⟩
      clear e1 e2 e3 e4
      go_upto_region 14 with (first
       | ((with_reducible refine gC (f := 63) rfl ?_); (with_reducible refine gD (N := 88) rfl ?_); refine goesY_ (some 88) Try.func63 #[.int .u64 f1, .int .u64 f2] ?_; (with_reducible refine (bits_Mul64.calls f1 f2 _ _ _ A7.out).mono ?_); rintro e w' ⟨rfl, ⟨nd, rfl⟩⟩; refine ⟨_, rfl, ?_⟩))
      go_quiet (fail)
      go_wp2
      go_loopg [12, 13, 14] (-u).toNat (fun kq v12 v13 v14 W => ∃ (hi lo : Nat) (uu : Int) (j : Nat), v12 = .int .u64 (hi : Int) ∧ v13 = .int .u64 (lo : Int) ∧ v14 = .int .i64 uu ∧ Aside0 (kq + j = (-u).toNat ∧ uu = u + (j : Int) ∧ hi = P / 2 ^ j / 18446744073709551616 ∧ lo = P / 2 ^ j % 18446744073709551616) ∧ ∃ k, W = Z.drewN k)
      case atStart =>
       refine ⟨P / 18446744073709551616, P % 18446744073709551616, u, 0, rfl, rfl, by rw [HU.out], ⟨rfl, by omega, by rw [Nat.pow_zero, Nat.div_one], by rw [Nat.pow_zero, Nat.div_one]⟩, nd + nq, ?_⟩
       first | rfl | (rw [World.drewN_drewN])
      case round =>
       obtain ⟨hi, lo, uu, j, rfl, rfl, rfl, HF, k0, rfl⟩ := hrel
       by_cases hneg : uu < 0
       ·
        have c0 : decide (uu < 0) = true := decide_eq_true hneg
        have hlo : lo < 18446744073709551616 := by rw [HF.out.2.2.2]; exact Nat.mod_lt _ (by decide)
        have hub : -100000 ≤ uu ∧ uu ≤ 100000 := by have := HF.out.1; have := HF.out.2.1; have := HU.out; omega
        have eO := or_half (hi := hi) hlo
        obtain ⟨lo2, hlo2⟩ : ∃ lo2, lo2 = hi % 2 * 9223372036854775808 + lo / 2 := ⟨_, rfl⟩
        rw [← hlo2] at eO
        have HL := Aside0.mk hlo2
        clear hlo2
        have HN := Aside0.mk hneg
        go_wp2
        go_roundg (gk - 1)
        case measure => have := HF.out.1; have := HF.out.2.1; have := HN.out; omega
        case rel =>
         refine ⟨hi / 2, lo2, uu + 1, j + 1, rfl, by first | rfl | (simp; done), by first | rfl | (simp; done), ⟨?_⟩, k0, rfl⟩
         obtain ⟨f1_, f2_, f3_, f4_⟩ := HF.out
         have hn := HN.out
         have hp : P / 2 ^ (j + 1) = P / 2 ^ j / 2 := by rw [Nat.pow_succ, Nat.div_div_eq_div_mul]
         rw [hp, HL.out, f3_, f4_]
         generalize P / 2 ^ j = V
         refine ⟨by omega, by omega, by omega, by omega⟩
       ·
        have c0 : decide (uu < 0) = false := decide_eq_false hneg
        have HN := Aside0.mk hneg
        have HE : Aside0 (uu = ((u.toNat : Nat) : Int) ∧ hi = P / 2 ^ (-u).toNat / 18446744073709551616 ∧ lo = P / 2 ^ (-u).toNat % 18446744073709551616) := ⟨by
         obtain ⟨f1_, f2_, f3_, f4_⟩ := HF.out
         have hj : j = (-u).toNat := by omega
         rw [← hj]
         exact ⟨by omega, f3_, f4_⟩⟩
        obtain ⟨un, hun⟩ : ∃ un, un = u.toNat := ⟨_, rfl⟩
        have hue := HE.out.1
        rw [← hun] at hue HE
        have HUN := Aside0.mk hun
        clear hun
        subst hue
        have hhi : hi < 18446744073709551616 := by
         rw [HE.out.2.1]
         have h1_ : P / 2 ^ (-u).toNat ≤ P := Nat.div_le_self _ _
         have h2_ : P / 2 ^ (-u).toNat / 18446744073709551616 ≤ P / 18446744073709551616 := Nat.div_le_div_right h1_
         have := HP.out.1
         omega
        have hlo : lo < 18446744073709551616 := by rw [HE.out.2.2]; exact Nat.mod_lt _ (by decide)
        have A8 : Aside0 (∀ q : Bool, q = ((n1 != n2) != tk) → _) := Aside0.mk (fun q hq => enter_calls q b m false (t + 1) ws hi lo un (Z.drewN k0) HA.out h0 h1 hl hw hhi hlo (by rw [HUN.out]; exact HP.out.2))
        clear hhi hlo
        go_wp2_with (first
         | (go_at_call 64; refine (A8.out _ (by cases n1 <;> cases n2 <;> cases tk <;> rfl)).mono ?_; rintro e w' ⟨rfl, hfin, hchg⟩; have HFI := Aside0.mk hfin; have HCH := Aside0.mk hchg; clear hfin hchg))
        go_ret
        exact ⟨by simp only [errW_none]; rfl, by rw [HD.out, HDW.out, ← HE.out.2.1, ← HE.out.2.2, ← HUN.out]; first | exact HFI.out | (have hz := HFI.out; revert hz; cases n1 <;> cases n2 <;> cases tk <;> exact fun hz => hz), (HC.out.drewN k0).trans HCH.out⟩
     ·
      have b4 : (k2 == 1) = false := beq_eq_false_iff_ne.mpr e4
      have HDW : Aside0 (depW false tk n1 n2 k1 k2 m ws P u = ws) := ⟨by unfold depW; rw [HD.out, if_neg (by decide), if_neg (fun hh => e4 hh.2)]⟩
      clear e1 e2 e3 e4
      go_wp2
      go_ret
      exact ⟨by simp only [errW_none]; rfl, by rw [HD.out, HDW.out]; exact HA.out, HC.out⟩
    ·
     have b3 : (k1 == 1) = false := beq_eq_false_iff_ne.mpr e3
     have HDW : Aside0 (depW false tk n1 n2 k1 k2 m ws P u = ws) := ⟨by unfold depW; rw [HD.out, if_neg (by decide), if_neg (fun hh => e3 hh.1)]⟩
     clear e1 e2 e3
     go_wp2
     go_ret
     exact ⟨by simp only [errW_none]; rfl, by rw [HD.out, HDW.out]; exact HA.out, HC.out⟩
end Go.Proofs.Ytjlaijaadclghaa.F
