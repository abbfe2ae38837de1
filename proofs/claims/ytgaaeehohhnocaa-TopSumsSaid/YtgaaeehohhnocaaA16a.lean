/- Walk of the law's code over sums; conditions: what its parts do, as Run says. -/
import Derived.Test.YtgaaeehohhnocaaA15a
namespace Go.Proofs.Ytgaaeehohhnocaa.F
open Go.RowKit Go.Proofs.YtgaaeehohhnocaaW.PrintWords Go.Proofs.YtgaaeehohhnocaaW.PrintLast Go.Proofs.YtgaaeehohhnocaaW.PrintMore
attribute [local go_sem high] xor_u64 xor_u32
set_option linter.unusedVariables false
set_option linter.unusedSimpArgs false
structure Run (kf m L : Nat) (at_ : Nat) (back : Bool) (da db : Nat → Int) (dm : Nat → Bool) (ix : Nat → Nat) (nx ny nz : Nat → Bool) (wx wy wz : Nat → List Nat) (nar : Nat → Bool) (ka kb sa sb fa fb : Nat → Int) (na nb : Nat → Bool) (vn : Nat → Bool) (vl : Nat → List Int) (vE : Nat → Int) : Prop where
 m2 : 2 ≤ m
 m16 : m ≤ 16
 small : L ≤ 400
 x0 : nx 0 = false ∧ wx 0 = List.replicate 16 0
 y0 : ny 0 = false ∧ wy 0 = List.replicate 16 0
 z0 : nz 0 = false ∧ wz 0 = List.replicate 16 0
 hx : ∀ i, i < L → ∀ b W, AccB W b m (nx i) (i : Int) (wx i) → Calls Try.prog 47 #[.pointer (some ⟨b, 0, none⟩), .int .u64 (da i), .int .u64 (db i), .bool (dm i)] W fun e w' => e = .returned (errW none) ∧ AccB w' b m (nx (i + 1)) ((i + 1 : Nat) : Int) (wx (i + 1)) ∧ Chg W w' b
 hy : ∀ i, i < L → ∀ b W, AccB W b m (ny i) (i : Int) (wy i) → Calls Try.prog 47 #[.pointer (some ⟨b, 0, none⟩), .int .u64 (da (ix i)), .int .u64 (db (ix i)), .bool (dm (ix i))] W fun e w' => e = .returned (errW none) ∧ AccB w' b m (ny (i + 1)) ((i + 1 : Nat) : Int) (wy (i + 1)) ∧ Chg W w' b
 hz : ∀ i, i < L → ∀ b W, AccB W b m (nz i) (i : Int) (wz i) → Calls Try.prog 47 #[.pointer (some ⟨b, 0, none⟩), .int .u64 (da i), .int .u64 (db i), .bool (!dm i)] W fun e w' => e = .returned (errW none) ∧ AccB w' b m (nz (i + 1)) ((i + 1 : Nat) : Int) (wz (i + 1)) ∧ Chg W w' b
 at0 : at_ ≤ L
 ixl : ∀ i, i < L → ix i < L ∧ ix i = (if back = true then L - 1 - (at_ + i) % L else (at_ + i) % L)
 d1 : ∀ i, i < L → vernierref06_Decode.f kf (4 * (m : Int)) (da i) = some (ka i, na i, sa i, fa i)
 d2 : ∀ i, i < L → vernierref06_Decode.f kf (4 * (m : Int)) (db i) = some (kb i, nb i, sb i, fb i)
 nar0 : nar 0 = false
 nars : ∀ i, i < L → nar (i + 1) = (nar i || ka i == 2 || kb i == 2)
 v0 : vn 0 = false ∧ vl 0 = [] ∧ vE 0 = 0
 vs : ∀ i, i < L → nar (i + 1) = true → vn (i + 1) = vn i ∧ vl (i + 1) = vl i ∧ vE (i + 1) = vE i
 vp : ∀ i, i < L → nar (i + 1) = false → ∃ (p1 p2 p3 : Bool) (l1 l2 l3 : List Int) (E1 E2 E3 : Int), verniertop_valOf.f kf (ka i) (na i) (sa i) (fa i) = some (p1, l1, E1) ∧ verniertop_valOf.f kf (kb i) (nb i) (sb i) (fb i) = some (p2, l2, E2) ∧ verniertop_times.f kf p1 l1 E1 p2 l2 E2 = some (p3, l3, E3) ∧ verniertop_plus.f kf (vn i) (vl i) (vE i) (p3 != dm i) l3 E3 = some (vn (i + 1), vl (i + 1), vE (i + 1))
structure Fin (kf m L : Nat) (nx ny nz : Bool) (wx wy wz : List Nat) (nar : Bool) (vn : Bool) (vl : List Int) (vE : Int) (p : Int) : Prop where
 lx : wx.length = 16 ∧ ∀ x ∈ wx, x < 18446744073709551616
 ly : wy.length = 16
 lz : wz.length = 16 ∧ ∀ x ∈ wz, x < 18446744073709551616
 lnz : (negW m wz).length = 16
 alike : nx = ny ∧ wx.take m = wy.take m ∧ nx = nz ∧ wx.take m = (negW m wz).take m
 round : ∀ b W, AccB W b m nx (L : Int) wx → Calls Try.prog 15 #[.pointer (some ⟨b, 0, none⟩)] W fun e w' => e = .returned (.int .u64 p) ∧ Below W.heap.size W w'
 isnar : nar = true → vernierref05_Power.f kf (wrap64 (4 * (m : Int) - 1)) = some p ∧ ∀ b W, AccB W b m false 0 (List.replicate 16 0) → Calls Try.prog 15 #[.pointer (some ⟨b, 0, none⟩)] W fun e w' => e = .returned (.int .u64 0) ∧ Below W.heap.size W w'
 near : nar = false → ∀ (W : World) (A : Option Addr) (c : Nat), Kd.C (Kd.int .i64) W A vl.length vl → vl.length ≤ c → Calls Try.prog 20 #[.int .i64 (4 * (m : Int)), .int .u64 p, .agg #[.bool vn, .slice A vl.length c, .int .i64 vE]] W fun e w' => e = .returned (.bool true) ∧ Below W.heap.size W w'
 sign : nar = false → verniertop_sign.f vn vl vE = some (if 9223372036854775808 ≤ wx.getD (m - 1) 0 then -1 else if wx = List.replicate 16 0 then 0 else 1)
theorem sl22 (ad : Addr) (len cap : Nat) (h : 400 ≤ len) (hc : len ≤ cap) (w : World) : (Instr.sliceAt 22 (.slice (some ad) len cap) none (some (.int .i64 400)) none).run Try.prog w = .ok (.slice (some ad) 400 cap) w := by
 have hu : Try.prog.underlying 22 = some (.slice (Try.prog.elem 22)) := by kernel_rfl
 rw [run_sliceAt_slice (h := hu), run_slice_h (ht := hu) (h0 := by omega) (h2 := by omega)]
 have hs : (sizeOf (Try.prog.elem 22)).run Try.prog w = .ok 3 w := by
  have hi : (Try.prog.info? (Try.prog.elem 22)).map (·.size) = some 3 := by kernel_rfl
  cases hq : Try.prog.info? (Try.prog.elem 22) with
  | none => rw [hq] at hi; cases hi
  | some i =>
   rw [hq] at hi
   have : i.size = 3 := by simpa using hi
   simp [sizeOf, typeInfo, hq, this]
 rw [hs]
 simp [sliced, Addr.add]
theorem put_acc {W : World} {b m : Nat} {n n' : Bool} {t t' : Int} {ws ws' : List Nat} {a1 a2 : Int} {tk : Bool} (ha : AccB W b m n t ws) (H : ∀ b W, AccB W b m n t ws → Calls Try.prog 47 #[.pointer (some ⟨b, 0, none⟩), .int .u64 a1, .int .u64 a2, .bool tk] W fun e w' => e = .returned (errW none) ∧ AccB w' b m n' t' ws' ∧ Chg W w' b) :
  Calls Try.prog 8 #[.pointer (some ⟨b, 0, none⟩), .agg #[.int .u64 a1, .int .u64 a2, .bool tk]] W fun e w' => e = .returned (.bool true) ∧ AccB w' b m n' t' ws' ∧ Chg W w' b :=
 put8_calls b a1 a2 tk W (fun w' => AccB w' b m n' t' ws' ∧ Chg W w' b) (fun o => (H b (W.alloc o) (ha.same (alloc_old W o b ha.lt))).mono fun e w' ⟨h1, h2, h3⟩ => ⟨h1, h2, ((Chg.refl W b).below (below_alloc (Below.refl _ _) o)).trans h3⟩)
theorem Chg.keep {W V : World} {b g : Nat} {o : Obj} (c : Chg W V b) (h : W.heap[g]? = some o) (hne : g ≠ b) : V.heap[g]? = some o := (c.other g (Array.getElem?_eq_some_iff.1 h).1 hne).trans h
theorem newD {U V : World} {o : Obj} (u : Below (U.alloc o).drew.heap.size (U.alloc o).drew V) : V.heap[U.heap.size]? = some o := (u.block _ (by show U.heap.size < (U.heap.push o).size; simp)).trans (alloc_new U o)
theorem below_lower {W V : World} {B : Nat} (h : Below W.heap.size W V) (hB : B ≤ W.heap.size) : Below B W V := ⟨h.os, h.tape, h.output, h.size, fun k hk => h.block k (Nat.lt_of_lt_of_le hk hB)⟩
theorem below_then {u v w : World} {B : Nat} (h : Below B u v) (k : Below B v w) : Below B u w := ⟨k.os.trans h.os, k.tape.trans h.tape, k.output.trans h.output, Nat.le_trans h.size k.size, fun i hi => (k.block i hi).trans (h.block i hi)⟩
theorem row_upto {W V : World} {B : Nat} {u : Value} {l : List Int} (r : Kd.R (Kd.int .i64) 3 W B (fun _ => True) u l) (h : Below W.heap.size W V) : Kd.R (Kd.int .i64) 3 V B (fun k => k < W.heap.size) u l :=
 Kd.R_step (Kd.R_mono (Kd.R_bound r) (fun k hk => hk.2.2.1)) (fun k hk _ => h.block k hk)
set_option maxHeartbeats 16000000 in
set_option maxRecDepth 100000 in
theorem sums_some {kf m L at_ : Nat} {back : Bool} {da db : Nat → Int} {dm : Nat → Bool} {ix : Nat → Nat} {nx ny nz : Nat → Bool} {wx wy wz : Nat → List Nat} {nar : Nat → Bool} {ka kb sa sb fa fb : Nat → Int} {na nb : Nat → Bool} {vn : Nat → Bool} {vl : Nat → List Int} {vE : Nat → Int} {p : Int}
  (R : Run kf m L at_ back da db dm ix nx ny nz wx wy wz nar ka kb sa sb fa fb na nb vn vl vE) (F : Fin kf m L (nx L) (ny L) (nz L) (wx L) (wy L) (wz L) (nar L) (vn L) (vl L) (vE L) p)
  (d1 : Int) (d2 : Bool) (d3 d4 : Int) (hd : codec_Decode.f kf (4 * (m : Int)) 0 = some (d1, d2, d3, d4, none)) (his : vernierref05_Is.f (4 * (m : Int)) = some true)
  (ad : Addr) (len cap : Nat) (hL : L = min len 400) (hlen : len ≤ cap ∧ cap ≤ 9223372036854775807) (from_ : Int) (hpick : verniertop_pick.f from_ (wrap64 ((L : Int) + 1)) = some (at_ : Int)) (w : World) (had : 0 < L → ad.block < w.heap.size)
  (hl : ∀ i, i < L → w.cell? (ad.add (i * 3)) = some (.int .u64 (da i)) ∧ w.cell? ((ad.add (i * 3)).add 1) = some (.int .u64 (db i)) ∧ w.cell? ((ad.add (i * 3)).add 2) = some (.bool (dm i))) :
  Calls Try.prog 3 #[.int .i64 (4 * (m : Int)), .slice (some ad) len cap, .int .i64 from_, .bool back] w fun e w' => e = .returned (.bool true) ∧ Below w.heap.size w w' := by
 have hu25 := Try.underlying25
 have hu32 := Try.underlying32
 have hu36 := Try.underlying36
 have hu39 := Try.underlying39
 have HR := Aside0.mk R
 have HF := Aside0.mk F
 have A3 := Aside0.mk hd
 have A4 := Aside0.mk his
 have A5 := Aside0.mk hpick
 have HL := Aside0.mk hl
 have HAD := Aside0.mk had
 have HLL := Aside0.mk hL
 have HLC := Aside0.mk hlen
 have HB0 := Aside0.mk (Below.refl w.heap.size w)
 clear R F hd his hpick hl had hL hlen
 go_enter Try.func3, Try.ntmps3
 go_upto_region 2 with (first
  | (go_at_call 5; (with_reducible refine (new_calls kf m d1 d2 d3 d4 _ A3.out).mono ?_); rintro e w1 ⟨b1, hb1, rfl, ha1, hw1⟩; have HA1 := Aside0.mk ha1; have HB1 := Aside0.mk hw1; have HG1 := Aside0.mk hb1; clear ha1 hw1 hb1; simp only [errW_none]))
 go_upto_region 3 with (first
  | (go_at_call 5; (with_reducible refine (new_calls kf m d1 d2 d3 d4 _ A3.out).mono ?_); rintro e w2 ⟨b2, hb2, rfl, ha2, hw2⟩; have HA2 := Aside0.mk ha2; have HB2 := Aside0.mk (below_step HB1.out hw2); have HA12 := Aside0.mk (HA1.out.same (hw2.block b1 HA1.out.lt)); have HG2 := Aside0.mk (show b1 < b2 from Nat.lt_of_lt_of_le HA1.out.lt hb2); clear ha2 hw2 hb2; simp only [errW_none]))
 go_upto_region 4 with (first
  | (go_at_call 5; (with_reducible refine (new_calls kf m d1 d2 d3 d4 _ A3.out).mono ?_); rintro e w3 ⟨b3, hb3, rfl, ha3, hw3⟩; have HA3 := Aside0.mk ha3; have HB3 := Aside0.mk (below_step HB2.out hw3); have HA13 := Aside0.mk (HA12.out.same (hw3.block b1 HA12.out.lt)); have HA23 := Aside0.mk (HA2.out.same (hw3.block b2 HA2.out.lt)); have HG3 := Aside0.mk (show b2 < b3 from Nat.lt_of_lt_of_le HA2.out.lt hb3); clear ha3 hw3 hb3; simp only [errW_none]))
 go_upto_region 9 with (first
  | (go_at_call 6; (with_reducible refine (vernierref05_Is.calls _ true _ A4.out).mono ?_); rintro e w' ⟨rfl, ⟨nd, rfl⟩⟩))
 go_upto_if 91 with (fail)
 go_cut [1] (fun v1 wc => v1 = .slice (some ad) L cap ∧ wc = w3.drewN nd)
 case first =>
  by_cases hgt : 400 < len
  ·
   have q0 : decide ((400 : Int) < (len : Int)) = true := decide_eq_true (by omega)
   have q1 := sl22 ad len cap (by omega) (by have := HLC.out; omega)
   go_wp2
   go_meet
   case rel => exact ⟨by rw [HLL.out, Nat.min_eq_right (by omega)], rfl⟩
  ·
   have q0 : decide ((400 : Int) < (len : Int)) = false := decide_eq_false (by omega)
   go_wp2
   go_meet
   case rel => exact ⟨by rw [HLL.out, Nat.min_eq_left (by omega)], rfl⟩
 case rest =>
  obtain ⟨rfl, rfl⟩ := hcut
  have hb3 := HB3.out
  have HI0 : Aside0 (Inv w m b1 b2 b3 w3.heap.size (w3.heap.size + 1) (nx 0) 0 (wx 0) (ny 0) 0 (wy 0) (nz 0) 0 (wz 0) (vn 0) (vl 0) (vE 0) (.slice none 0 0) ((w3.drewN nd).alloc (.cells #[.bool false, .slice none 0 0, .int .i64 0] 32 (0, 0)))) := ⟨by
   have hlt := HA3.out.lt
   have h13 := HA13.out.lt
   have h23 := HA23.out.lt
   refine ⟨below_alloc (pw_below_drewN hb3 nd) _, ?_, ?_, ?_, ?_, ?_, ?_⟩
   ·
    rw [HR.out.x0.1, HR.out.x0.2]; exact HA13.out.same (alloc_old (w3.drewN nd) _ b1 h13)
   ·
    rw [HR.out.y0.1, HR.out.y0.2]; exact HA23.out.same (alloc_old (w3.drewN nd) _ b2 h23)
   ·
    rw [HR.out.z0.1, HR.out.z0.2]; exact HA3.out.same (alloc_old (w3.drewN nd) _ b3 hlt)
   ·
    rw [HR.out.v0.1, HR.out.v0.2.2]; exact alloc_new (w3.drewN nd) _
   ·
    rw [HR.out.v0.2.1]; exact Kd.R_nil _ _ _ _ _
   ·
    have := HG1.out; have := HG2.out; have := HG3.out
    refine ⟨by omega, by omega, by omega, hlt, by omega, ?_⟩
    show w3.heap.size + 1 ≤ (w3.heap.push _).size
    rw [Array.size_push]; exact Nat.le_refl _⟩
  clear hb3
  generalize hB : w3.heap.size + 1 = B at *
  generalize hg : w3.heap.size = g at *
  go_upto_region 14 with (first
   | (go_at_call 7; (with_reducible refine (verniertop_pick.calls from_ _ (at_ : Int) _ A5.out).mono ?_); rintro e w' ⟨rfl, ⟨nk, rfl⟩⟩))
  have HG := Aside0.mk hg
  have HGB := Aside0.mk hB
  clear hg hB
  go_wp2
  go_loopg [17, 19] L (fun kq v17 v19 W => ∃ (i : Nat) (u : Value), v17 = .bool (nar i) ∧ v19 = .int .i64 (i : Int) ∧ Aside0 (kq + i = L) ∧ Aside0 (Inv w m b1 b2 b3 g B (nx i) (i : Int) (wx i) (ny i) (i : Int) (wy i) (nz i) (i : Int) (wz i) (vn i) (vl i) (vE i) u W))
  case atStart => exact ⟨0, _, by rw [HR.out.nar0], rfl, ⟨rfl⟩, ⟨HI0.out.drewN _⟩⟩
  case round =>
   obtain ⟨i, u, rfl, rfl, HK, HI⟩ := hrel
   clear HI0
   have hsm := HR.out.small
   by_cases hi : i < L
   ·
    have c0 : decide (i < L) = true := decide_eq_true hi
    obtain ⟨kk, hkk⟩ : ∃ kk, kk = ix i := ⟨_, rfl⟩
    obtain ⟨pa, ha_⟩ : ∃ x, x = da i := ⟨_, rfl⟩
    obtain ⟨pb, hb_⟩ : ∃ x, x = db i := ⟨_, rfl⟩
    obtain ⟨pm, hm_⟩ : ∃ x, x = dm i := ⟨_, rfl⟩
    obtain ⟨qa, hak⟩ : ∃ x, x = da kk := ⟨_, rfl⟩
    obtain ⟨qb, hbk⟩ : ∃ x, x = db kk := ⟨_, rfl⟩
    obtain ⟨qm, hmk⟩ : ∃ x, x = dm kk := ⟨_, rfl⟩
    have hk := HR.out.ixl i hi
    have hX := HR.out.hx i hi
    have hY := HR.out.hy i hi
    have hZ := HR.out.hz i hi
    have hD1 := HR.out.d1 i hi
    have hD2 := HR.out.d2 i hi
    rw [← ha_, ← hb_, ← hm_] at hX
    rw [← hkk, ← hak, ← hbk, ← hmk] at hY
    rw [← ha_, ← hb_, ← hm_] at hZ
    rw [← ha_] at hD1
    rw [← hb_] at hD2
    rw [← hkk] at hk
    have HPM := Aside0.mk hm_
    have HX := Aside0.mk hX
    have HY := Aside0.mk hY
    have HZ := Aside0.mk hZ
    have A6 := Aside0.mk hD1
    have A7 := Aside0.mk hD2
    have HC : Aside0 (∀ W, Below w.heap.size w W → W.cell? (ad.add (i * 3)) = some (.int .u64 pa) ∧ W.cell? ⟨(ad.add (i * 3)).block, (ad.add (i * 3)).off + 1, none⟩ = some (.int .u64 pb) ∧ W.cell? ⟨(ad.add (i * 3)).block, (ad.add (i * 3)).off + 2, none⟩ = some (.bool pm) ∧ W.cell? (ad.add (kk * 3)) = some (.int .u64 qa) ∧ W.cell? ⟨(ad.add (kk * 3)).block, (ad.add (kk * 3)).off + 1, none⟩ = some (.int .u64 qb) ∧ W.cell? ⟨(ad.add (kk * 3)).block, (ad.add (kk * 3)).off + 2, none⟩ = some (.bool qm)) := ⟨fun W hW => by
     obtain ⟨l0, l1, l2⟩ := HL.out i hi
     obtain ⟨k0, k1, k2⟩ := HL.out kk hk.1
     have hc : ∀ p : Addr, p.block = ad.block → W.cell? p = w.cell? p := fun p hp => hW.cell (by rw [hp]; exact HAD.out (by omega))
     rw [ha_, hb_, hm_, hak, hbk, hmk]
     exact ⟨(hc _ (add_block _ _)).trans l0, (hc ⟨(ad.add (i * 3)).block, (ad.add (i * 3)).off + 1, none⟩ (add_block ad _)).trans l1, (hc ⟨(ad.add (i * 3)).block, (ad.add (i * 3)).off + 2, none⟩ (add_block ad _)).trans l2, (hc _ (add_block _ _)).trans k0, (hc ⟨(ad.add (kk * 3)).block, (ad.add (kk * 3)).off + 1, none⟩ (add_block ad _)).trans k1, (hc ⟨(ad.add (kk * 3)).block, (ad.add (kk * 3)).off + 2, none⟩ (add_block ad _)).trans k2⟩⟩
    clear hX hY hZ hD1 hD2 hkk ha_ hb_ hm_ hak hbk hmk
    have hat0 := HR.out.at0
    have hdiv : (at_ + i) % L < L := Nat.mod_lt _ (by omega)
    have e1 : IntKind.i64.wrap ((at_ : Int) + (i : Int)) = ((at_ + i : Nat) : Int) := by rw [wrap_small _ (by omega) (by omega)]; omega
    have e2 : Int.tmod ((at_ + i : Nat) : Int) (L : Int) = (((at_ + i) % L : Nat) : Int) := by rw [Int.tmod_eq_emod_of_nonneg (by omega)]; rfl
    clear hat0
    have HKL := Aside0.mk hk
    have HD := Aside0.mk hdiv
    clear hk hdiv
    go_upto_if 112 with (fail)
    clear e1 e2
    go_cut [20] (fun v20 wc => v20 = .int .i64 (kk : Int) ∧ wc = wr)
    case first =>
     cases back with
     | true =>
      have e3 : IntKind.i64.wrap ((L : Int) - 1) = ((L - 1 : Nat) : Int) := by rw [wrap_small _ (by omega) (by omega)]; omega
      have e4 : IntKind.i64.wrap (((L - 1 : Nat) : Int) - ((at_ : Int) + (i : Int)) % (L : Int)) = (kk : Int) := by
       have h1 := HKL.out.2
       have h2 := HD.out
       rw [if_pos rfl] at h1
       have h3 : ((at_ : Int) + (i : Int)) % (L : Int) = (((at_ + i) % L : Nat) : Int) := rfl
       rw [h3, wrap_small _ (by omega) (by omega)]
       omega
      go_wp2
      go_meet
      case rel => exact ⟨rfl, rfl⟩
     | false =>
      go_wp2
      go_meet
      case rel =>
       refine ⟨?_, rfl⟩
       have h1 := HKL.out.2
       rw [if_neg (by decide)] at h1
       rw [h1]; rfl
    case rest =>
     obtain ⟨rfl, rfl⟩ := hcut
     have hkL := HKL.out.1
     obtain ⟨q0, q1, q2, q3, q4, q5⟩ := HC.out wc HI.out.below
     go_upto_region 22 with (fail)
     clear q0 q1 q2 q3 q4 q5
     obtain ⟨T, hT⟩ : ∃ T, T = wc.heap.size := ⟨_, rfl⟩
     obtain ⟨W1, hW1⟩ : ∃ W1, W1 = wc.alloc (.cells #[.int .u64 pa, .int .u64 pb, .bool (!pm)] 36 (0, 0)) := ⟨_, rfl⟩
     have HT1 : Aside0 (W1.heap[T]? = some (.cells #[.int .u64 pa, .int .u64 pb, .bool (!pm)] 36 (0, 0)) ∧ T ≠ b1 ∧ T ≠ b2) := ⟨by rw [hW1, hT]; refine ⟨alloc_new wc _, ?_⟩; have := HI.out.lt; omega⟩
     have HI1 := Aside0.mk (HI.out.step (V := W1) (by rw [hW1]; exact below_alloc (Below.refl _ _) _))
     rw [← hW1, ← hT]
     clear hW1 hT HI
     obtain ⟨q0, q1, q2, _, _, _⟩ := HC.out W1 HI1.out.below
     go_upto_region 23 with (first
      | (go_at_call 8; (with_reducible refine (put_acc HI1.out.ax HX.out).mono ?_); rintro e W2 ⟨rfl, ha2, hc2⟩; have HI2 := Aside0.mk (HI1.out.x hc2 ha2); have HT2 := Aside0.mk (hc2.keep HT1.out.1 HT1.out.2.1); clear ha2 hc2))
     clear q0 q1 q2
     obtain ⟨_, _, _, q3, q4, q5⟩ := HC.out W2 HI2.out.below
     go_upto_region 24 with (first
      | (go_at_call 8; (with_reducible refine (put_acc HI2.out.ay HY.out).mono ?_); rintro e W3 ⟨rfl, ha3, hc3⟩; have HI3 := Aside0.mk (HI2.out.y hc3 ha3); have HT3 := Aside0.mk (hc3.keep HT2.out HT1.out.2.2); clear ha3 hc3))
     clear q3 q4 q5
     obtain ⟨t0, t1, t2, _, _, _⟩ := cl3 HT3.out
     go_upto_region 27 with (first
      | (go_at_call 8; (with_reducible refine (put_acc HI3.out.az HZ.out).mono ?_); rintro e W4 ⟨rfl, ha4, hc4⟩; have HI4 := Aside0.mk (HI3.out.z hc4 ha4); clear ha4 hc4))
     clear t0 t1 t2 HI1 HI2 HI3 HT1 HT2 HT3 HX HY HZ
     obtain ⟨q0, q1, q2, _, _, _⟩ := HC.out W4 HI4.out.below
     go_upto_region 28 with (first
      | (go_at_call 9; (with_reducible refine (vernierref06_Decode.calls kf (4 * (m : Int)) pa (ka i) (na i) (sa i) (fa i) _ A6.out).mono ?_); rintro e W5 ⟨rfl, hb5⟩; have HI5 := Aside0.mk (HI4.out.step hb5); clear hb5))
     clear q0 q1 q2
     obtain ⟨gA, hgA⟩ : ∃ gA, gA = W5.heap.size := ⟨_, rfl⟩
     obtain ⟨W6, hW6⟩ : ∃ W6, W6 = W5.alloc (.cells #[.int .i64 (ka i), .bool (na i), .int .i64 (sa i), .int .u64 (fa i)] 39 (0, 0)) := ⟨_, rfl⟩
     have HBA : Aside0 (W6.heap[gA]? = some (.cells #[.int .i64 (ka i), .bool (na i), .int .i64 (sa i), .int .u64 (fa i)] 39 (0, 0))) := ⟨by rw [hW6, hgA]; exact alloc_new W5 _⟩
     have HI6 := Aside0.mk (HI5.out.step (V := W6) (by rw [hW6]; exact below_alloc (Below.refl _ _) _))
     rw [← hW6, ← hgA]
     clear hW6 hgA HI4 HI5
     obtain ⟨q0, q1, q2, _, _, _⟩ := HC.out W6 HI6.out.below
     go_upto_region 29 with (first
      | (go_at_call 9; (with_reducible refine (vernierref06_Decode.calls kf (4 * (m : Int)) pb (kb i) (nb i) (sb i) (fb i) _ A7.out).mono ?_); rintro e W7 ⟨rfl, hb7⟩; have HI7 := Aside0.mk (HI6.out.step hb7); have HBA7 := Aside0.mk ((hb7.block gA (Array.getElem?_eq_some_iff.1 HBA.out).1).trans HBA.out); clear hb7))
     clear q0 q1 q2
     obtain ⟨gB, hgB⟩ : ∃ gB, gB = W7.heap.size := ⟨_, rfl⟩
     obtain ⟨W8, hW8⟩ : ∃ W8, W8 = W7.alloc (.cells #[.int .i64 (kb i), .bool (nb i), .int .i64 (sb i), .int .u64 (fb i)] 39 (0, 0)) := ⟨_, rfl⟩
     have HBB : Aside0 (W8.heap[gB]? = some (.cells #[.int .i64 (kb i), .bool (nb i), .int .i64 (sb i), .int .u64 (fb i)] 39 (0, 0))) := ⟨by rw [hW8, hgB]; exact alloc_new W7 _⟩
     have HBA8 : Aside0 (W8.heap[gA]? = some (.cells #[.int .i64 (ka i), .bool (na i), .int .i64 (sa i), .int .u64 (fa i)] 39 (0, 0))) := ⟨by rw [hW8, alloc_old W7 _ gA (Array.getElem?_eq_some_iff.1 HBA7.out).1]; exact HBA7.out⟩
     have HI8 := Aside0.mk (HI7.out.step (V := W8) (by rw [hW8]; exact below_alloc (Below.refl _ _) _))
     rw [← hW8, ← hgB]
     clear hW8 hgB HI6 HI7 HBA HBA7
     obtain ⟨z0, z1, z2, z3, _, _, _, _⟩ := cl4 HBA8.out
     obtain ⟨y0, y1, y2, y3, _, _, _, _⟩ := cl4 HBB.out
     go_cut [17] (fun v17 wc => v17 = .bool (nar (i + 1)) ∧ wc = W8)
     case first =>
      have HN := Aside0.mk (HR.out.nars i hi)
      cases h0 : nar i <;> cases h1 : (ka i == 2) <;> cases h2 : (kb i == 2) <;> (
       go_wp2
       go_meet
       refine ⟨?_, rfl⟩
       rw [HN.out, h0, h1, h2]
       rfl)
     case rest =>
      obtain ⟨rfl, hw⟩ := hcut
      have hw' := hw.symm
      subst hw'
      clear hw z0 z1 z2 z3 y0 y1 y2 y3
      cases hn : nar (i + 1) with
      | true =>
       have HNR := Aside0.mk hn
       clear hn
       go_wp2
       go_roundg (gk - 1)
       case measure => have := HK.out; omega
       case rel =>
        obtain ⟨e1, e2, e3⟩ := HR.out.vs i hi HNR.out
        exact ⟨i + 1, _, by rw [HNR.out], by first | rfl | (simp; done), ⟨by have := HK.out; omega⟩, ⟨by rw [e1, e2, e3]; exact HI8.out⟩⟩
      | false =>
       have HNR := Aside0.mk hn
       clear hn
       obtain ⟨p1, p2, p3, l1, l2, l3, E1, E2, E3, hv1, hv2, hv3, hv4⟩ := HR.out.vp i hi HNR.out
       have V1 := Aside0.mk hv1
       have V2 := Aside0.mk hv2
       have V3 := Aside0.mk hv3
       have V4 := Aside0.mk hv4
       clear hv1 hv2 hv3 hv4
       go_upto_region 32 with (fail)
       go_cut [27] (fun v27 wc => ∃ (t : Nat) (u1 : Value), v27 = .pointer (some ⟨t, 0, none⟩) ∧ Aside0 (BoxP W8 t p3 u1 l3 E3 wc))
       case first =>
        as_aux_lemma =>
         have HV0 : HeldV gA gB (ka i) (na i) (sa i) (fa i) (kb i) (nb i) (sb i) (fb i) W8 W8.drew := HeldV.of HBA8.out HBB.out (Below.refl _ _).drew
         have HVz : Aside0 (HeldV gA gB (ka i) (na i) (sa i) (fa i) (kb i) (nb i) (sb i) (fb i) W8 W8) := ⟨HeldV.of HBA8.out HBB.out (Below.refl _ _)⟩
         go_region_held3 (fun W => W.cell? ⟨gA, 0, none⟩ = some (.int .i64 (ka i)) ∧ W.cell? ⟨gA, 1, none⟩ = some (.bool (na i)) ∧ W.cell? ⟨gA, 2, none⟩ = some (.int .i64 (sa i)) ∧ W.cell? ⟨gA, 3, none⟩ = some (.int .u64 (fa i)) ∧ W.cell? ⟨gB, 0, none⟩ = some (.int .i64 (kb i)) ∧ W.cell? ⟨gB, 1, none⟩ = some (.bool (nb i)) ∧ W.cell? ⟨gB, 2, none⟩ = some (.int .i64 (sb i)) ∧ W.cell? ⟨gB, 3, none⟩ = some (.int .u64 (fb i)) ∧
          Aside0 (Below W8.heap.size W8 W ∧ W8.heap[gA]? = some (.cells #[.int .i64 (ka i), .bool (na i), .int .i64 (sa i), .int .u64 (fa i)] 39 (0, 0)) ∧ W8.heap[gB]? = some (.cells #[.int .i64 (kb i), .bool (nb i), .int .i64 (sb i), .int .u64 (fb i)] 39 (0, 0)))) ((first | with_reducible exact HV0 | (with_reducible refine HeldV.set (HeldV.set (HeldV.set ?_ (by with_reducible first | exact Nat.le_refl _ | exact Below.size (HeldV.b HVa.out) | exact Below.size (HeldV.b HVb.out))) (by with_reducible first | exact Nat.le_refl _ | exact Below.size (HeldV.b HVa.out) | exact Below.size (HeldV.b HVb.out))) (by with_reducible first | exact Nat.le_refl _ | exact Below.size (HeldV.b HVa.out) | exact Below.size (HeldV.b HVb.out)); with_reducible exact HVm.out) | with_reducible exact HeldV.via ‹_› ‹_› | with_reducible exact HeldV.alloc ‹_› _ | with_reducible exact HeldV.alloc HVm.out _ | with_reducible exact HeldV.drew (HeldV.alloc HVz.out _))) (first
          | (go_at_call 11; (with_reducible refine (verniertop_valOf.calls kf (ka i) (na i) (sa i) (fa i) p1 l1 E1 _ V1.out).mono ?_); rintro e wa ⟨v1, rfl, hRa, hba⟩; (with_reducible have HVa := Aside0.mk (HeldV.via hba (by assumption))); obtain ⟨A1, c1, rfl, hc1, hC1⟩ := Kd.R_reads hRa; (first | (with_reducible have n8 := newD hba; have NB := Aside0.mk n8; obtain ⟨t0, t1, t2, f0, f1, f2⟩ := cl3 n8; clear n8) | (with_reducible have n8 := HeldR.new hba; have NB := Aside0.mk n8; obtain ⟨t0, t1, t2, f0, f1, f2⟩ := cl3 n8; clear n8) | (with_reducible have n8 := keepK hba NB.out; have NB := Aside0.mk n8; obtain ⟨t0, t1, t2, f0, f1, f2⟩ := cl3 n8; clear n8) | skip))
          | (go_at_call 11; (with_reducible refine (verniertop_valOf.calls kf (kb i) (nb i) (sb i) (fb i) p2 l2 E2 _ V2.out).mono ?_); rintro e wb ⟨v2, rfl, hRb, hbb⟩; (with_reducible have HVb := Aside0.mk (HeldV.via hbb (by assumption))); obtain ⟨A2, c2, rfl, hc2, hC2⟩ := Kd.R_reads hRb; (first | (with_reducible have n8 := newD hbb; have NB := Aside0.mk n8; obtain ⟨t0, t1, t2, f0, f1, f2⟩ := cl3 n8; clear n8) | (with_reducible have n8 := HeldR.new hbb; have NB := Aside0.mk n8; obtain ⟨t0, t1, t2, f0, f1, f2⟩ := cl3 n8; clear n8) | (with_reducible have n8 := keepK hbb NB.out; have NB := Aside0.mk n8; obtain ⟨t0, t1, t2, f0, f1, f2⟩ := cl3 n8; clear n8) | skip))
          | (go_at_call 10; (with_reducible refine (verniertop_times.calls kf p1 A1 c1 l1 E1 p2 A2 c2 l2 E2 p3 l3 E3 _ (by repeat (first | with_reducible assumption | (with_reducible refine Kd.C_below ?_ (by with_reducible assumption)) | with_reducible refine Kd.C_below ?_ (below_alloc (Below.refl _ _) _))) hc1 (by repeat (first | with_reducible assumption | (with_reducible refine Kd.C_below ?_ (by with_reducible assumption)) | with_reducible refine Kd.C_below ?_ (below_alloc (Below.refl _ _) _))) hc2 V3.out).mono ?_); rintro e wm ⟨v3, rfl, hRm, hbm⟩; (with_reducible have HVm := Aside0.mk (HeldV.via hbm (by assumption))); obtain ⟨A3, c3, rfl, hc3, hC3⟩ := Kd.R_reads hRm; (first | (with_reducible have n8 := newD hbm; have NB := Aside0.mk n8; obtain ⟨t0, t1, t2, f0, f1, f2⟩ := cl3 n8; clear n8) | (with_reducible have n8 := HeldR.new hbm; have NB := Aside0.mk n8; obtain ⟨t0, t1, t2, f0, f1, f2⟩ := cl3 n8; clear n8) | (with_reducible have n8 := keepK hbm NB.out; have NB := Aside0.mk n8; obtain ⟨t0, t1, t2, f0, f1, f2⟩ := cl3 n8; clear n8) | skip)))
         all_goals (
          (try simp only [Exit.inBlock, Exit.then])
          go_step
          go_meet
          refine ⟨_, Value.slice A3 l3.length c3, rfl, ⟨?_⟩⟩
          focus
           first
           | with_reducible exact BoxP.new (HeldV.b HVm.out) (by with_reducible first | exact Below.size (HeldV.b HVb.out) | exact Below.size (HeldV.b (HeldV.alloc HVb.out _))) hRm
           | with_reducible exact BoxP.set (HeldV.b HVm.out) (by with_reducible first | exact Nat.le_refl _ | exact Below.size (HeldV.b HVa.out) | exact Below.size (HeldV.b HVb.out)) (by with_reducible first | exact Below.size (HeldV.b HVb.out) | exact Below.size (HeldV.b (HeldV.alloc HVb.out _))) hRm NB.out)
       case rest =>
        obtain ⟨t, u1, rfl, HP⟩ := hcut
        have HBw := Aside0.mk (below_step HI8.out.below HP.out.below)
        obtain ⟨_, _, q2, _, _, _⟩ := HC.out wc HBw.out
        have HRow : Aside0 (Kd.R (Kd.int .i64) 3 wc B (fun k => k < W8.heap.size) u (vl i)) := ⟨row_upto HI8.out.row HP.out.below⟩
        cases pm with
        | true =>
         as_aux_lemma =>
          obtain ⟨t0, t1, t2, f0, f1, f2⟩ := cl3 HP.out.box
          go_upto_region 34 with (fail)
          generalize hW9 : wc.setCell _ _ = W9
          have HP9 : Aside0 (BoxP W8 t (!p3) u1 l3 E3 W9) := ⟨by rw [← hW9]; exact HP.out.flip⟩
          have HRow9 : Aside0 (Kd.R (Kd.int .i64) 3 W9 B (fun k => k < W8.heap.size) u (vl i)) := ⟨row_upto HI8.out.row HP9.out.below⟩
          have HG9 : Aside0 (W9.heap[g]? = some (.cells #[.bool (vn i), u, .int .i64 (vE i)] 32 (0, 0))) := ⟨keepK HP9.out.below HI8.out.box⟩
          clear hW9 t0 t1 t2 f0 f1 f2
          obtain ⟨t0, t1, t2, f0, f1, f2⟩ := cl3 HP9.out.box
          obtain ⟨g0, g1, g2, h0, h1, h2⟩ := cl3 HG9.out
          have hv4 := V4.out
          rw [← HPM.out] at hv4
          have V5 : Aside0 (verniertop_plus.f kf (vn i) (vl i) (vE i) (!p3) l3 E3 = some (vn (i + 1), vl (i + 1), vE (i + 1))) := ⟨by cases p3 <;> exact hv4⟩
          clear hv4
          have HL8 := Aside0.mk HI8.out.lt
          go_upto_region 16 with (first
           | (go_at_call 12; (with_reducible refine (plusT kf B W8.heap.size (vn i) (!p3) u u1 (vl i) l3 (vl (i + 1)) (vE i) E3 (vE (i + 1)) (vn (i + 1)) _ HL8.out.2.2.2.2.2 HP9.out.below.size HRow9.out (Kd.R_mono HP9.out.row (fun _ _ => trivial)) V5.out).mono ?_); rintro e W10 ⟨v3, rfl, hR3, hb3⟩; obtain ⟨A3, c3, rfl, hc3, hC3⟩ := Kd.R_reads hR3; have HR3 := Aside0.mk hR3; have HB3 := Aside0.mk hb3; clear hR3 hC3 hb3; have HG10 := Aside0.mk ((HB3.out.block g HL8.out.2.2.2.2.1).trans HG9.out); obtain ⟨g0, g1, g2, h0, h1, h2⟩ := cl3 HG10.out))
          generalize hW11 : World.setCell _ _ _ = W11
          have hU11 : Upd W10 W11 g (.cells #[.bool (vn (i + 1)), .slice A3 (vl (i + 1)).length c3, .int .i64 (vE (i + 1))] 32 (0, 0)) := by rw [← hW11]; exact three_set HG10.out
          have HI11 := Aside0.mk (Inv.v HI8.out (below_then (below_lower HP9.out.below HL8.out.2.2.2.2.2) HB3.out) HR3.out hU11.chg hU11.here)
          clear hW11 hU11 t0 t1 t2 f0 f1 f2 g0 g1 g2 h0 h1 h2
          go_wp2
          go_roundg (gk - 1)
          case measure => have := HK.out; omega
          case rel => exact ⟨i + 1, _, by rw [HNR.out], by first | rfl | (simp; done), ⟨by have := HK.out; omega⟩, HI11⟩
        | false =>
         as_aux_lemma =>
          have HP9 : Aside0 (BoxP W8 t p3 u1 l3 E3 wc) := HP
          have HRow9 := HRow
          have HG9 : Aside0 (wc.heap[g]? = some (.cells #[.bool (vn i), u, .int .i64 (vE i)] 32 (0, 0))) := ⟨keepK HP9.out.below HI8.out.box⟩
          obtain ⟨t0, t1, t2, f0, f1, f2⟩ := cl3 HP9.out.box
          obtain ⟨g0, g1, g2, h0, h1, h2⟩ := cl3 HG9.out
          have hv4 := V4.out
          rw [← HPM.out] at hv4
          have V5 : Aside0 (verniertop_plus.f kf (vn i) (vl i) (vE i) p3 l3 E3 = some (vn (i + 1), vl (i + 1), vE (i + 1))) := ⟨by cases p3 <;> exact hv4⟩
          clear hv4
          have HL8 := Aside0.mk HI8.out.lt
          go_upto_region 16 with (first
           | (go_at_call 12; (with_reducible refine (plusT kf B W8.heap.size (vn i) p3 u u1 (vl i) l3 (vl (i + 1)) (vE i) E3 (vE (i + 1)) (vn (i + 1)) _ HL8.out.2.2.2.2.2 HP9.out.below.size HRow9.out (Kd.R_mono HP9.out.row (fun _ _ => trivial)) V5.out).mono ?_); rintro e W10 ⟨v3, rfl, hR3, hb3⟩; obtain ⟨A3, c3, rfl, hc3, hC3⟩ := Kd.R_reads hR3; have HR3 := Aside0.mk hR3; have HB3 := Aside0.mk hb3; clear hR3 hC3 hb3; have HG10 := Aside0.mk ((HB3.out.block g HL8.out.2.2.2.2.1).trans HG9.out); obtain ⟨g0, g1, g2, h0, h1, h2⟩ := cl3 HG10.out))
          generalize hW11 : World.setCell _ _ _ = W11
          have hU11 : Upd W10 W11 g (.cells #[.bool (vn (i + 1)), .slice A3 (vl (i + 1)).length c3, .int .i64 (vE (i + 1))] 32 (0, 0)) := by rw [← hW11]; exact three_set HG10.out
          have HI11 := Aside0.mk (Inv.v HI8.out (below_then (below_lower HP9.out.below HL8.out.2.2.2.2.2) HB3.out) HR3.out hU11.chg hU11.here)
          clear hW11 hU11 t0 t1 t2 f0 f1 f2 g0 g1 g2 h0 h1 h2
          go_wp2
          go_roundg (gk - 1)
          case measure => have := HK.out; omega
          case rel => exact ⟨i + 1, _, by rw [HNR.out], by first | rfl | (simp; done), ⟨by have := HK.out; omega⟩, HI11⟩
   ·
    have c0 : decide (i < L) = false := decide_eq_false hi
    have hiL : i = L := by have := HK.out; omega
    have HE : Aside0 (Inv w m b1 b2 b3 g B (nx L) (L : Int) (wx L) (ny L) (L : Int) (wy L) (nz L) (L : Int) (wz L) (vn L) (vl L) (vE L) u wr) := ⟨by rw [← hiL]; exact HI.out⟩
    have HNL : Aside0 (nar i = nar L) := ⟨by rw [hiL]⟩
    clear hiL HI
    have hm2 := HR.out.m2
    have hm16 := HR.out.m16
    go_upto_region 36 with (first
     | (go_at_call 13; (with_reducible refine (negate_calls b3 m (nz L) (L : Int) (wz L) _ HE.out.az (by omega) hm16 HF.out.lz.1 HF.out.lz.2).mono ?_); rintro e W1 ⟨rfl, hu1⟩; have HE1 := Aside0.mk (HE.out.z hu1.chg hu1.here); clear hu1))
    have HY1 : Aside0 (AccB W1 b2 m (nx L) (L : Int) (wy L)) := ⟨by rw [HF.out.alike.1]; exact HE1.out.ay⟩
    have HZ1 : Aside0 (AccB W1 b3 m (nx L) (L : Int) (negW m (wz L))) := ⟨by rw [HF.out.alike.2.2.1]; exact HE1.out.az⟩
    go_upto_region 38 with (first
     | (go_at_call 14; (with_reducible refine (alike_calls b1 b2 m (nx L) (L : Int) (wx L) (wy L) _ HE1.out.ax HY1.out (by omega) hm16 HF.out.lx.1 HF.out.ly HF.out.alike.2.1).mono ?_); rintro e W2 ⟨rfl, hb2⟩; have HE2 := Aside0.mk (HE1.out.step hb2); have HZ2 := Aside0.mk (HZ1.out.same (hb2.block b3 HZ1.out.lt)); clear hb2)
     | (go_at_call 14; (with_reducible refine (alike_calls b1 b3 m (nx L) (L : Int) (wx L) (negW m (wz L)) _ HE2.out.ax HZ2.out (by omega) hm16 HF.out.lx.1 HF.out.lnz HF.out.alike.2.2.2).mono ?_); rintro e W3 ⟨rfl, hb3⟩; have HE3 := Aside0.mk (HE2.out.step hb3); clear hb3))
    go_upto_if 209 with (first
     | (go_at_call 15; (with_reducible refine (HF.out.round b1 _ HE3.out.ax).mono ?_); rintro e W4 ⟨rfl, hb4⟩; have HE4 := Aside0.mk (HE3.out.step hb4); clear hb4))
    cases hn : nar i with
    | true =>
     as_aux_lemma =>
      have HNR : Aside0 (nar L = true) := ⟨HNL.out.symm.trans hn⟩
      clear hn
      go_upto_region 41 with (first
       | (go_at_call 16; (with_reducible refine (clear_calls b1 m (nx L) (L : Int) (wx L) _ HE4.out.ax HF.out.lx.1).mono ?_); rintro e W5 ⟨rfl, hu5⟩; have HA5 : Aside0 (AccB W5 b1 m false 0 (List.replicate 16 0)) := ⟨hu5.here⟩; have HB5 := Aside0.mk (hu5.chg.belowB HE4.out.below HE4.out.lt.1); clear hu5))
      have hpp : (p == p) = true := beq_self_eq_true p
      have hfd : ∀ (x0 x3 : Value) (w : World), (Instr.field 48 (.agg #[x0, .bool false, .int .i64 0, x3]) 2).run Try.prog w = .ok (.int .i64 0) w := fun _ _ _ => by kernel_rfl
      have P1 := Aside0.mk (HF.out.isnar HNR.out).1
      have P2 : Aside0 (vernierref05_Power.f kf (IntKind.i64.wrap (4 * (m : Int) - 1)) = some p) := ⟨by rw [i64_w]; exact P1.out⟩
      have P3 : Aside0 (vernierref05_Power.f kf (4 * (m : Int) - 1) = some p) := ⟨by have := P2.out; rwa [wrap_small _ (by omega) (by omega)] at this⟩
      go_wp2_with (first
       | (go_at_call 17; (with_reducible first | refine (vernierref05_Power.calls kf _ p _ P1.out).mono ?_ | refine (vernierref05_Power.calls kf _ p _ P2.out).mono ?_ | refine (vernierref05_Power.calls kf _ p _ P3.out).mono ?_); rintro e w' ⟨rfl, ⟨np, rfl⟩⟩)
       | (go_at_call 15; (with_reducible refine ((HF.out.isnar HNR.out).2 b1 _ (AccB.drewN HA5.out _)).mono ?_); rintro e W6 ⟨rfl, hb6⟩; have HA6 := Aside0.mk ((AccB.drewN HA5.out np).same (hb6.block b1 (AccB.drewN HA5.out np).lt)); have HB6 := Aside0.mk (below_step (pw_below_drewN HB5.out np) hb6); clear hb6)
       | (go_at_call 18; (with_reducible refine (state_calls b1 m false 0 (List.replicate 16 0) _ HA6.out (by omega) hm16 rfl).mono ?_); rintro e W7 ⟨gS, cS, curS, rfl, _, _, _, hb7⟩; have HB7 := Aside0.mk (below_step HB6.out hb7); clear hb7))
      go_ret
      exact ⟨rfl, HB7.out⟩
    | false =>
     as_aux_lemma =>
      have HNR : Aside0 (nar L = false) := ⟨HNL.out.symm.trans hn⟩
      clear hn
      obtain ⟨A, c, hu, hc, hC⟩ := Kd.R_reads HE4.out.row
      subst hu
      have HC4 := Aside0.mk hC
      obtain ⟨sg, hsg⟩ : ∃ sg : Int, sg = (if 9223372036854775808 ≤ (wx L).getD (m - 1) 0 then -1 else if wx L = List.replicate 16 0 then 0 else 1) := ⟨_, rfl⟩
      have HS : Aside0 (Calls Try.prog 19 #[.pointer (some ⟨b1, 0, none⟩)] W4 fun e w' => e = .returned (.int .i64 sg) ∧ ∃ k, w' = W4.drewN k) := ⟨by rw [hsg]; exact sign_calls b1 m (nx L) (L : Int) (wx L) W4 HE4.out.ax (by omega) hm16 HF.out.lx.1 HF.out.lx.2⟩
      have HSG : Aside0 (verniertop_sign.f (vn L) (vl L) (vE L) = some sg) := ⟨by rw [hsg]; exact HF.out.sign HNR.out⟩
      clear hsg hC
      obtain ⟨g0, g1, g2, h0, h1, h2⟩ := cl3 HE4.out.box
      go_upto_region 43 with (first
       | (go_at_call 19; (with_reducible refine HS.out.mono ?_); rintro e w' ⟨rfl, ⟨ns, rfl⟩⟩))
      go_upto_region 44 with (first
       | (go_at_call 20; (with_reducible refine (HF.out.near HNR.out _ A c (Kd.C_drewN HC4.out _) hc).mono ?_); rintro e W5 ⟨rfl, hb5⟩; have HE5 := Aside0.mk ((HE4.out.drewN _).step hb5); clear hb5))
      clear g0 g1 g2 h0 h1 h2
      obtain ⟨g0, g1, g2, h0, h1, h2⟩ := cl3 HE5.out.box
      have hsg : (sg == sg) = true := beq_self_eq_true sg
      go_wp2_with (first
       | (go_at_call 21; (with_reducible refine (verniertop_sign.calls (vn L) A c (vl L) (vE L) sg _ (Kd.R_reads' HE5.out.row).2.2 hc HSG.out).mono ?_); rintro e W6 ⟨rfl, hb6⟩; have HB6 := Aside0.mk (below_step HE5.out.below hb6); clear hb6))
      go_ret
      exact ⟨rfl, HB6.out⟩
end Go.Proofs.Ytgaaeehohhnocaa.F
