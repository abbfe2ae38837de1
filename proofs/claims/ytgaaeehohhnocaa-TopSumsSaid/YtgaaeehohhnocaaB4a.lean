/- Walk of the law's code over sums: an empty list that is nil, and no width. -/
import Derived.Test.YtgaaeehohhnocaaA16a
import Derived.Test.YtgaaeehohhnocaaB3a
namespace Go.Proofs.Ytgaaeehohhnocaa.F
open Go.RowKit Go.Proofs.YtgaaeehohhnocaaW.PrintWords Go.Proofs.YtgaaeehohhnocaaW.PrintLast Go.Proofs.YtgaaeehohhnocaaW.PrintMore
attribute [local go_sem high] xor_u64 xor_u32
set_option linter.unusedVariables false
set_option linter.unusedSimpArgs false
set_option maxHeartbeats 16000000 in
set_option maxRecDepth 100000 in
theorem sums_none {kf m : Nat} {p : Int} (hm : 2 ≤ m ∧ m ≤ 16)
  (F : Fin kf m 0 false false false (List.replicate 16 0) (List.replicate 16 0) (List.replicate 16 0) false false [] 0 p)
  (d1 : Int) (d2 : Bool) (d3 d4 : Int) (hd : codec_Decode.f kf (4 * (m : Int)) 0 = some (d1, d2, d3, d4, none)) (his : vernierref05_Is.f (4 * (m : Int)) = some true)
  (from_ at_ : Int) (hpick : verniertop_pick.f from_ 1 = some at_) (back : Bool) (w : World) :
  Calls Try.prog 3 #[.int .i64 (4 * (m : Int)), .slice none 0 0, .int .i64 from_, .bool back] w fun e w' => e = .returned (.bool true) ∧ Below w.heap.size w w' := by
 have hu25 := Try.underlying25
 have hu32 := Try.underlying32
 have HF := Aside0.mk F
 have A3 := Aside0.mk hd
 have A4 := Aside0.mk his
 have A5 := Aside0.mk hpick
 have hm2 := hm.1
 have hm16 := hm.2
 have HB0 := Aside0.mk (Below.refl w.heap.size w)
 clear F hd his hpick hm
 go_enter Try.func3, Try.ntmps3
 go_upto_region 2 with (first
  | (go_at_call 5; (with_reducible refine (new_calls kf m d1 d2 d3 d4 _ A3.out).mono ?_); rintro e w1 ⟨b1, hb1, rfl, ha1, hw1⟩; have HA1 := Aside0.mk ha1; have HB1 := Aside0.mk hw1; have HG1 := Aside0.mk hb1; clear ha1 hw1 hb1; simp only [errW_none]))
 go_upto_region 3 with (first
  | (go_at_call 5; (with_reducible refine (new_calls kf m d1 d2 d3 d4 _ A3.out).mono ?_); rintro e w2 ⟨b2, hb2, rfl, ha2, hw2⟩; have HA2 := Aside0.mk ha2; have HB2 := Aside0.mk (below_step HB1.out hw2); have HA12 := Aside0.mk (HA1.out.same (hw2.block b1 HA1.out.lt)); have HG2 := Aside0.mk (show b1 < b2 from Nat.lt_of_lt_of_le HA1.out.lt hb2); clear ha2 hw2 hb2; simp only [errW_none]))
 go_upto_region 4 with (first
  | (go_at_call 5; (with_reducible refine (new_calls kf m d1 d2 d3 d4 _ A3.out).mono ?_); rintro e w3 ⟨b3, hb3, rfl, ha3, hw3⟩; have HA3 := Aside0.mk ha3; have HB3 := Aside0.mk (below_step HB2.out hw3); have HA13 := Aside0.mk (HA12.out.same (hw3.block b1 HA12.out.lt)); have HA23 := Aside0.mk (HA2.out.same (hw3.block b2 HA2.out.lt)); have HG3 := Aside0.mk (show b2 < b3 from Nat.lt_of_lt_of_le HA2.out.lt hb3); clear ha3 hw3 hb3; simp only [errW_none]))
 go_upto_region 9 with (first
  | (go_at_call 6; (with_reducible refine (vernierref05_Is.calls _ true _ A4.out).mono ?_); rintro e w' ⟨rfl, ⟨nd, rfl⟩⟩))
 have hb3 := HB3.out
 have HI0 : Aside0 (Inv w m b1 b2 b3 w3.heap.size (w3.heap.size + 1) false (0 : Int) (List.replicate 16 0) false (0 : Int) (List.replicate 16 0) false (0 : Int) (List.replicate 16 0) false [] 0 (.slice none 0 0) ((w3.drewN nd).alloc (.cells #[.bool false, .slice none 0 0, .int .i64 0] 32 (0, 0)))) := ⟨by
   have hlt := HA3.out.lt
   have h13 := HA13.out.lt
   have h23 := HA23.out.lt
   refine ⟨below_alloc (pw_below_drewN hb3 nd) _, ?_, ?_, ?_, ?_, ?_, ?_⟩
   ·
    exact HA13.out.same (alloc_old (w3.drewN nd) _ b1 h13)
   ·
    exact HA23.out.same (alloc_old (w3.drewN nd) _ b2 h23)
   ·
    exact HA3.out.same (alloc_old (w3.drewN nd) _ b3 hlt)
   ·
    exact alloc_new (w3.drewN nd) _
   ·
    exact Kd.R_nil _ _ _ _ _
   ·
    have := HG1.out; have := HG2.out; have := HG3.out
    refine ⟨by omega, by omega, by omega, hlt, by omega, ?_⟩
    show w3.heap.size + 1 ≤ (w3.heap.push _).size
    rw [Array.size_push]; exact Nat.le_refl _⟩
 clear hb3
 generalize hB : w3.heap.size + 1 = B at *
 generalize hg : w3.heap.size = g at *
 go_upto_region 14 with (first
  | (go_at_call 7; (with_reducible refine (verniertop_pick.calls from_ _ at_ _ A5.out).mono ?_); rintro e w' ⟨rfl, ⟨nk, rfl⟩⟩))
 have HG := Aside0.mk hg
 have HGB := Aside0.mk hB
 clear hg hB
 go_wp2
 generalize hW : World.drewN (World.alloc _ _) _ = wr
 have HE : Aside0 (Inv w m b1 b2 b3 g B false (0 : Int) (List.replicate 16 0) false (0 : Int) (List.replicate 16 0) false (0 : Int) (List.replicate 16 0) false [] 0 (.slice none 0 0) wr) := ⟨by rw [← hW]; exact HI0.out.drewN _⟩
 clear hW
 go_loopg [17, 19] 0 (fun kq v17 v19 W => v17 = .bool false ∧ v19 = .int .i64 0 ∧ W = wr)
 case atStart => exact ⟨rfl, rfl, rfl⟩
 case round =>
  obtain ⟨rfl, rfl, hw⟩ := hrel
  have hw' := hw.symm
  subst hw'
  clear hw
  go_upto_region 36 with (first
   | (go_at_call 13; (with_reducible refine (negate_calls b3 m false (0 : Int) (List.replicate 16 0) _ HE.out.az (by omega) hm16 HF.out.lz.1 HF.out.lz.2).mono ?_); rintro e W1 ⟨rfl, hu1⟩; have HE1 := Aside0.mk (HE.out.z hu1.chg hu1.here); clear hu1))
  have HY1 : Aside0 (AccB W1 b2 m false (0 : Int) (List.replicate 16 0)) := ⟨by rw [HF.out.alike.1]; exact HE1.out.ay⟩
  have HZ1 : Aside0 (AccB W1 b3 m false (0 : Int) (negW m (List.replicate 16 0))) := ⟨by rw [HF.out.alike.2.2.1]; exact HE1.out.az⟩
  go_upto_region 38 with (first
   | (go_at_call 14; (with_reducible refine (alike_calls b1 b2 m false (0 : Int) (List.replicate 16 0) (List.replicate 16 0) _ HE1.out.ax HY1.out (by omega) hm16 HF.out.lx.1 HF.out.ly HF.out.alike.2.1).mono ?_); rintro e W2 ⟨rfl, hb2⟩; have HE2 := Aside0.mk (HE1.out.step hb2); have HZ2 := Aside0.mk (HZ1.out.same (hb2.block b3 HZ1.out.lt)); clear hb2)
   | (go_at_call 14; (with_reducible refine (alike_calls b1 b3 m false (0 : Int) (List.replicate 16 0) (negW m (List.replicate 16 0)) _ HE2.out.ax HZ2.out (by omega) hm16 HF.out.lx.1 HF.out.lnz HF.out.alike.2.2.2).mono ?_); rintro e W3 ⟨rfl, hb3⟩; have HE3 := Aside0.mk (HE2.out.step hb3); clear hb3))
  go_upto_if 209 with (first
   | (go_at_call 15; (with_reducible refine (HF.out.round b1 _ HE3.out.ax).mono ?_); rintro e W4 ⟨rfl, hb4⟩; have HE4 := Aside0.mk (HE3.out.step hb4); clear hb4))
  have HNR : Aside0 (false = false) := ⟨rfl⟩
  have hc : ([] : List Int).length ≤ 0 := Nat.le_refl _
  have hC := (Kd.R_reads' HE4.out.row).2.2
  have HC4 := Aside0.mk hC
  obtain ⟨sg, hsg⟩ : ∃ sg : Int, sg = (if 9223372036854775808 ≤ (List.replicate 16 0).getD (m - 1) 0 then -1 else if List.replicate 16 0 = List.replicate 16 0 then 0 else 1) := ⟨_, rfl⟩
  have HS : Aside0 (Calls Try.prog 19 #[.pointer (some ⟨b1, 0, none⟩)] W4 fun e w' => e = .returned (.int .i64 sg) ∧ ∃ k, w' = W4.drewN k) := ⟨by rw [hsg]; exact sign_calls b1 m false (0 : Int) (List.replicate 16 0) W4 HE4.out.ax (by omega) hm16 HF.out.lx.1 HF.out.lx.2⟩
  have HSG : Aside0 (verniertop_sign.f false [] 0 = some sg) := ⟨by rw [hsg]; exact HF.out.sign HNR.out⟩
  clear hsg hC
  have HNE : Aside0 (∀ k, Calls Try.prog 20 #[.int .i64 (4 * (m : Int)), .int .u64 p, .agg #[.bool false, .slice none 0 0, .int .i64 0]] (W4.drewN k) fun e w' => e = .returned (.bool true) ∧ Below (W4.drewN k).heap.size (W4.drewN k) w') := ⟨fun k => HF.out.near rfl _ none 0 (Kd.C_drewN HC4.out _) hc⟩
  have HSE : Aside0 (∀ W, Below W4.heap.size W4 W → Calls Try.prog 21 #[.agg #[.bool false, .slice none 0 0, .int .i64 0]] W fun e w' => e = .returned (.int .i64 sg) ∧ Below W.heap.size W w') := ⟨fun W hW => verniertop_sign.calls false none 0 [] 0 sg _ (Kd.C_below HC4.out hW) hc HSG.out⟩
  obtain ⟨g0, g1, g2, h0, h1, h2⟩ := cl3 HE4.out.box
  go_upto_region 43 with (first
   | (go_at_call 19; (with_reducible refine HS.out.mono ?_); rintro e w' ⟨rfl, ⟨ns, rfl⟩⟩))
  go_upto_region 44 with (first
   | (go_at_call 20; (with_reducible refine (HNE.out _).mono ?_); rintro e W5 ⟨rfl, hb5⟩; have HE5 := Aside0.mk ((HE4.out.drewN _).step hb5); have HB5 : Aside0 (Below W4.heap.size W4 W5) := ⟨below_step (pw_below_drewN (Below.refl _ _) _) hb5⟩; clear hb5))
  clear g0 g1 g2 h0 h1 h2
  obtain ⟨g0, g1, g2, h0, h1, h2⟩ := cl3 HE5.out.box
  have hsg : (sg == sg) = true := beq_self_eq_true sg
  go_wp2_with (first
   | (go_at_call 21; (with_reducible refine (HSE.out _ HB5.out).mono ?_); rintro e W6 ⟨rfl, hb6⟩; have HB6 := Aside0.mk (below_step HE5.out.below hb6); clear hb6))
  go_ret
  exact ⟨rfl, HB6.out⟩
set_option maxHeartbeats 4000000 in
set_option maxRecDepth 100000 in
theorem sums_bad (kf : Nat) (n : Int) (d1 : Int) (d2 : Bool) (d3 d4 : Int) (v : Value) (from_ : Int) (back : Bool) (hd : codec_Decode.f kf n 0 = some (d1, d2, d3, d4, some 2)) (his : vernierref05_Is.f n = some false) (w : World) :
  Calls Try.prog 3 #[.int .i64 n, v, .int .i64 from_, .bool back] w fun e w' => e = .returned (.bool true) ∧ Below w.heap.size w w' := by
 have hu25 := Try.underlying25
 have hu29 := Try.underlying29
 have heq : ∀ w : World, (binOp BinOp.eql 25 (.iface 29 (.int .i64 2)) (.iface 29 (.int .i64 2))).run Try.prog w = .ok (.bool true) w := fun _ => by kernel_rfl
 have A3 := Aside0.mk hd
 have A4 := Aside0.mk his
 have HB0 := Aside0.mk (Below.refl w.heap.size w)
 clear hd his
 go_enter Try.func3, Try.ntmps3
 go_upto_region 2 with (first
  | (go_at_call 5; (with_reducible refine (new_bad kf n d1 d2 d3 d4 2 _ A3.out).mono ?_); rintro e w1 ⟨rfl, hw1⟩; have HB1 := Aside0.mk (below_step HB0.out hw1); clear hw1; simp only [errW_some]))
 go_upto_region 3 with (first
  | (go_at_call 5; (with_reducible refine (new_bad kf n d1 d2 d3 d4 2 _ A3.out).mono ?_); rintro e w2 ⟨rfl, hw2⟩; have HB2 := Aside0.mk (below_step HB1.out hw2); clear hw2; simp only [errW_some]))
 go_upto_region 4 with (first
  | (go_at_call 5; (with_reducible refine (new_bad kf n d1 d2 d3 d4 2 _ A3.out).mono ?_); rintro e w3 ⟨rfl, hw3⟩; have HB3 := Aside0.mk (below_step HB2.out hw3); clear hw3; simp only [errW_some]))
 go_wp2_with (first
  | (go_at_call 6; (with_reducible refine (vernierref05_Is.calls _ false _ A4.out).mono ?_); rintro e w' ⟨rfl, ⟨nd, rfl⟩⟩))
 go_ret
 exact ⟨rfl, pw_below_drewN HB3.out _⟩
end Go.Proofs.Ytgaaeehohhnocaa.F

namespace Go.Proofs.Ytgaaeehohhnocaa.M
open Go.RowKit Go.Proofs.YtgaaeehohhnocaaW.PrintWords Go.Proofs.YtgaaeehohhnocaaW.PrintLast Go.Proofs.YtgaaeehohhnocaaW.PrintMore Go.Proofs.Ytgaaeehohhnocaa.F
set_option linter.unusedVariables false
set_option linter.unusedSimpArgs false
def rsP (n : Nat) (S : Int) : Nat := if S = 0 then 0 else rdN n (decide (S < 0)) (scU (16 - 8 * (n : Int)) S.natAbs) (tpM S.natAbs) (tpR S.natAbs)
theorem tw_top {h l : Nat} (hl : l < 18446744073709551616) (ht : 170141183460469231731687303715884105728 ≤ tw h l) : 9223372036854775808 ≤ h := by unfold tw at ht; omega
theorem round_done {m n : Nat} {ws : List Nat} {S : Int} (hn : Wd n) (hnm : n = 4 * m) (hl : ws.length = 16) (hw : Ws ws) (hst : Stands m ws S) (hS : 2 * S.natAbs < 18446744073709551616 ^ m) (b : Nat) (t : Int) (W : World) (h : AccB W b m false t ws) :
  Calls Try.prog 15 #[.pointer (some ⟨b, 0, none⟩)] W fun e w' => e = .returned (.int .u64 (rsP n S : Nat)) ∧ Below W.heap.size W w' := by
 have g1 := hn.ge
 have g2 := hn.le
 have hm2 : 2 ≤ m := by omega
 have hm16 : m ≤ 16 := by omega
 obtain ⟨hv, hlen⟩ := mag_val (by omega) hm16 hl hw hst hS
 have hsg := (stands_small (by omega) hm16 hl hw hst hS).1
 have hmw : Ws (magW m ws) := magW_lt hw
 obtain ⟨t1, t2, t3⟩ := top_val (ls := magW m ws) (m - 1) (by omega)
 rw [show m - 1 + 1 = m by omega, hv] at t1
 have hneg : decide (9223372036854775808 ≤ ws.getD (m - 1) 0) = decide (S < 0) := decide_eq_decide.mpr hsg.symm
 have h0w := th_ws hmw (topI (magW m ws) (m - 1)) 0
 have hLZ := LeadingZeros64_ev h0w
 have hth : thW (magW m ws) (topI (magW m ws) (m - 1)) 0 = (magW m ws).getD (topI (magW m ws) (m - 1)) 0 := by unfold thW; rw [if_pos (Nat.zero_le _)]; rfl
 have h4 : ((n : Nat) : Int) = 4 * (m : Int) := by omega
 by_cases hz : thW (magW m ws) (topI (magW m ws) (m - 1)) 0 = 0
 ·
  -- nought
  have hi0 : topI (magW m ws) (m - 1) = 0 := by
   rcases t3 with t3 | t3
   ·
    exact t3
   ·
    rw [← hth] at t3; exact absurd hz t3
  rw [hi0] at t1 hz hLZ
  have hS0 : S.natAbs = 0 := by
   rw [t1, wN_snoc (k := 0) (by omega)]
   rw [show thW (magW m ws) 0 0 = (magW m ws).getD 0 0 from rfl] at hz
   rw [hz]; rfl
  have hS0' : S = 0 := by omega
  rw [hz] at hLZ
  have hM := Make_ev (neg := decide (S < 0)) (rest := false) (h := 0) (l := 0) (e := 64 * ((0 : Int) - 1) - 0 + 16 - 8 * (4 * (m : Int))) (by decide) (by decide) (by omega) (by omega) (fun h => by cases h)
  rw [if_pos (by rfl)] at hM
  have hR := Round_zero hn
  obtain ⟨K1, hK1⟩ := Ev.both hLZ hM
  obtain ⟨K2, hK2⟩ := hR
  obtain ⟨a1, a2⟩ := hK1 (K1 + K2) (by omega)
  have a3 := hK2 (K1 + K2) (by omega)
  have w1 : thW (magW m ws) 0 1 = 0 := by unfold thW; rw [if_neg (by decide)]
  have w2 : thW (magW m ws) 0 2 = 0 := by unfold thW; rw [if_neg (by decide)]
  have e1 : rdHi (magW m ws) 0 0 = 0 := by unfold rdHi; rw [hz, w1]
  have e2 : rdLo (magW m ws) 0 0 = 0 := by unfold rdLo; rw [w1, w2]
  have e3 : rdRest (magW m ws) 0 0 = false := by unfold rdRest; rw [w2]; rfl
  have hres : rsP n S = 0 := by unfold rsP; rw [if_pos hS0']
  rw [hres]
  have hcall := round_calls b m t ws (K1 + K2) 64 0
  rw [hi0, hz, e1, e2, e3, hneg] at hcall
  exact hcall a1 rfl _ 0 0 0 0 0 false false rfl a2 (by rw [← h4]; exact a3) W h hm2 hm16 hl hw
 ·
  obtain ⟨c1, c2, c3, c4, c5, c6, c7⟩ := handed hmw (by omega) hz
  rw [← t1] at c3 c4 c5
  have hpos : 0 < S.natAbs := by
   rcases Nat.eq_zero_or_pos S.natAbs with z | z
   ·
    rw [z] at c3
    have : blen 0 = 0 := rfl
    have := blen_pos (show 0 < thW (magW m ws) (topI (magW m ws) (m - 1)) 0 by omega)
    omega
   ·
    exact z
  have hb := tpM_bounds hpos
  have hbl : blen (tpM S.natAbs) = 128 := blen_unique hb.2 (Or.inr hb.1)
  generalize hi : topI (magW m ws) (m - 1) = i at *
  generalize hs : 64 - blen (thW (magW m ws) i 0) = s at *
  have hi15 : i ≤ 15 := by omega
  have hrest : rdRest (magW m ws) i s = true → 9223372036854775808 ≤ rdHi (magW m ws) i s := fun _ => by
   have h1 := hb.1
   rw [← c4, show (2 : Nat) ^ 127 = 170141183460469231731687303715884105728 by decide] at h1
   exact tw_top c7 h1
  have hM := Make_ev (neg := decide (S < 0)) (rest := rdRest (magW m ws) i s) (h := rdHi (magW m ws) i s) (l := rdLo (magW m ws) i s) (e := 64 * ((i : Int) - 1) - (s : Int) + 16 - 8 * (4 * (m : Int))) c6 c7 (by omega) (by omega) hrest
  have hne : tw (rdHi (magW m ws) i s) (rdLo (magW m ws) i s) ≠ 0 := by
   rw [c4]; intro z; rw [z] at hb; exact absurd hb.1 (by decide)
  rw [if_neg hne, c4, hbl] at hM
  have hnm2 : nmW (tpM S.natAbs) = tpM S.natAbs := by unfold nmW; rw [hbl, Nat.sub_self, Nat.pow_zero, Nat.mul_one]
  rw [hnm2, c5] at hM
  have hsc : 64 * ((i : Int) - 1) - (s : Int) + 16 - 8 * (4 * (m : Int)) + ((128 : Nat) : Int) - 1 = scU (16 - 8 * (n : Int)) S.natAbs := by
   unfold scU; rw [c3]; omega
  rw [hsc] at hM
  have hscr : -1099511627776 ≤ scU (16 - 8 * (n : Int)) S.natAbs ∧ scU (16 - 8 * (n : Int)) S.natAbs ≤ 1099511627776 := by unfold scU; rw [c3]; omega
  have e127 : (2 : Nat) ^ 127 = 170141183460469231731687303715884105728 := by decide
  have e128 : (2 : Nat) ^ 128 = 340282366920938463463374607431768211456 := by decide
  have hR := Round_made (neg := decide (S < 0)) (rest := tpR S.natAbs) hn hscr.1 hscr.2 (e127 ▸ hb.1) (e128 ▸ hb.2)
  obtain ⟨K1, hK1⟩ := Ev.both hLZ hM
  obtain ⟨K2, hK2⟩ := hR
  obtain ⟨a1, a2⟩ := hK1 (K1 + K2) (by omega)
  have a3 := hK2 (K1 + K2) (by omega)
  have hres : rsP n S = rdN n (decide (S < 0)) (scU (16 - 8 * (n : Int)) S.natAbs) (tpM S.natAbs) (tpR S.natAbs) := by unfold rsP; rw [if_neg (by omega)]
  rw [hres]
  have hcall := round_calls b m t ws (K1 + K2) s s
  rw [hi, hneg, c5] at hcall
  exact hcall a1 (by omega) _ _ _ _ _ _ _ _ rfl a2 (by rw [← h4]; exact a3) W h hm2 hm16 hl hw
end Go.Proofs.Ytgaaeehohhnocaa.M
