/- Walk of the law's code over counts; .. -/
import Derived.Test.YtgaaeehohhnocaaC4b
import Derived.Laws.MakeOwn
namespace Go.Proofs.Ytgaaeehohhnocaa.F
open RowKit YtgaaeehohhnocaaW PrintWords PrintLast PrintMore
attribute [local go_sem high] xor_u64 xor_u32
set_option linter.all false
theorem make_words {m : Nat} (hm : m = 2 ∨ m = 4 ∨ m = 8 ∨ m = 16) (W : World) : (Instr.makeSlice 46 (.int .i64 (m : Int)) (.int .i64 (m : Int))).run Try.prog W = .ok (.slice (some ⟨W.heap.size, 0, none⟩) m m) (W.alloc (.cells (Array.replicate m (.int .u64 0)) 34 (0, 0))) := by
 have hu46 : Try.prog.underlying 46 = some (.slice 34) := by kernel_rfl
 obtain ⟨i0, hi0, hz0, hz1, hz2⟩ := info_34
 rw [run_makeSlice (P := Try.prog) W 46 34 i0 _ hu46 hi0 hz0 .i64 .i64 (m : Int) (m : Int) (by omega) (Int.le_refl _) (by rw [hz1]; omega) (by rw [hz2]; omega) (by omega), hz1]
 have e : madeCells (Value.cells (.int .u64 0)) m = Array.replicate m (.int .u64 0) := by
  apply Array.ext
  ·
   simp [madeCells, Value.cells]
  ·
   intro i h1 h2
   simp [madeCells, Value.cells, Nat.mod_one]
 rw [Int.toNat_natCast, Nat.mul_one, e]
set_option maxHeartbeats 16000000 in
set_option maxRecDepth 100000 in
theorem counts_walk {kf m L : Nat} {p : Int} {c : Nat → Int} {o : Nat → Nat} {kv : Int} {nv : Bool} {sv fv : Int} {nr nr2 : Nat → Bool} {t t2_ : Nat → Int} {ws ws2 : Nat → List Nat} {er : Nat → Option Int} {vn nn : Nat → Bool} {vl nl : Nat → List Int} {vE nE : Nat → Int} {q : Int}
  (R : RunC kf m L p c o kv nv sv fv nr nr2 t t2_ ws ws2 er vn nn vl nl vE nE) (F : FinC kf m (nr L) (t L) (ws L) (vn L) (vl L) (vE L) q) (hm : m = 2 ∨ m = 4 ∨ m = 8 ∨ m = 16)
  (d1 : Int) (d2 : Bool) (d3 d4 : Int) (hd : codec_Decode.f kf (4 * (m : Int)) 0 = some (d1, d2, d3, d4, none)) (his : vernierref05_Is.f (4 * (m : Int)) = some true) (hdec : vernierref06_Decode.f kf (4 * (m : Int)) p = some (kv, nv, sv, fv))
  (short s : Int) (hs : verniertop_pick.f short 40 = some s) (hs0 : 0 ≤ s ∧ s < 40) (ht0 : t 0 = 2147483647 - s)
  (A : Option Addr) (len cap : Nat) (hL : L = min len 400) (hlen : len ≤ cap ∧ cap ≤ 9223372036854775807) (w : World)
  (hl : ∀ i, i < L → ∃ ad : Addr, A = some ad ∧ ad.block < w.heap.size ∧ w.cell? (ad.add i) = some (.int .i64 (c i))) :
  Calls Try.prog 4 #[.int .i64 (4 * (m : Int)), .int .i64 short, .slice A len cap, .int .u64 p] w fun e w' => e = .returned (.bool true) ∧ Below w.heap.size w w' := by
 have hu25 := Try.underlying25
 have hu29 := Try.underlying29
 have hu32 := Try.underlying32
 have hu39 := Try.underlying39
 have hu48 := Try.underlying48
 have hu46 : Try.prog.underlying 46 = some (.slice 34) := by kernel_rfl
 have HR := Aside0.mk R
 have HF := Aside0.mk F
 have A3 := Aside0.mk hd
 have A4 := Aside0.mk his
 have A5 := Aside0.mk hs
 have A6 := Aside0.mk hdec
 have HL := Aside0.mk hl
 have HLL := Aside0.mk hL
 have HLC := Aside0.mk hlen
 have HT0 := Aside0.mk ht0
 have HM := Aside0.mk hm
 have HB0 := Aside0.mk (Below.refl w.heap.size w)
 have h16 : m ≤ 16 := R.m16
 have e1 : IntKind.i64.wrap (2147483647 - s) = t 0 := by rw [wrap_small _ (by omega) (by omega), ht0]
 have e2 : Int.tdiv (4 * (m : Int)) 4 = (m : Int) := by rw [Int.tdiv_eq_ediv_of_nonneg (by omega)]; omega
 clear R F hd his hs hdec hl hL hlen ht0 hm
 go_enter Try.func4, Try.ntmps4
 go_upto_region 4 with (first
  | (go_at_call 6; (with_reducible refine (vernierref05_Is.calls _ true _ A4.out).mono ?_); rintro e w' ⟨rfl, ⟨nd, rfl⟩⟩))
 go_upto_region 5 with (first
  | (go_at_call 7; (with_reducible refine (verniertop_pick.calls short _ s _ A5.out).mono ?_); rintro e w' ⟨rfl, ⟨nk, rfl⟩⟩))
 have hmk := fun W => make_words HM.out W
 have ht1 : 0 < t 0 ∧ t 0 ≤ 2147483647 := by have := HT0.out; omega
 have HT1 := Aside0.mk ht1
 have HGW : Aside0 (∀ k, ((w.drewN k).alloc (.cells (Array.replicate m (.int .u64 0)) 34 (0, 0))).heap[w.heap.size]? = some (.cells (Array.replicate m (.int .u64 0)) 34 (0, 0))) := ⟨fun k => alloc_new (w.drewN k) _⟩
 clear ht1
 go_upto_region 6 with (first
  | (go_at_call 22; (with_reducible refine (load_calls kf m _ (t 0) d1 d2 d3 d4 _ HM.out A3.out (HGW.out _) HT1.out.1 HT1.out.2).mono ?_); rintro e W1 ⟨b, hb, rfl, ha, hw1⟩; have HB1 := Aside0.mk (below_step (below_alloc (pw_below_drewN HB0.out _) _) hw1); have HA1 := Aside0.mk ha; have HBG : Aside0 (w.heap.size ≤ b) := ⟨Nat.le_trans (below_alloc (pw_below_drewN HB0.out _) _).size hb⟩; clear ha hw1 hb; simp only [errW_none]))
 clear hmk
 go_upto_region 9 with (fail)
 obtain ⟨g, hg⟩ : ∃ g, g = W1.heap.size := ⟨_, rfl⟩
 obtain ⟨W2, hW2⟩ : ∃ W2, W2 = W1.alloc (.cells #[.bool false, .slice none 0 0, .int .i64 0] 32 (0, 0)) := ⟨_, rfl⟩
 have HX2 : Aside0 (W2.heap[g]? = some (.cells #[.bool false, .slice none 0 0, .int .i64 0] 32 (0, 0))) := ⟨by rw [hW2, hg]; exact alloc_new W1 _⟩
 have HB2 : Aside0 (Below W1.heap.size W1 W2) := ⟨by rw [hW2]; exact below_alloc (Below.refl _ _) _⟩
 have HGL : Aside0 (b < g) := ⟨by rw [hg]; exact HA1.out.lt⟩
 rw [← hW2, ← hg]
 clear hW2 hg
 go_upto_region 11 with (first
  | (go_at_call 9; (with_reducible refine (vernierref06_Decode.calls kf (4 * (m : Int)) p kv nv sv fv _ A6.out).mono ?_); rintro e W3 ⟨rfl, hb3⟩; have HB3 := Aside0.mk hb3; clear hb3))
 obtain ⟨gD, hgD⟩ : ∃ gD, gD = W3.heap.size := ⟨_, rfl⟩
 obtain ⟨W4, hW4⟩ : ∃ W4, W4 = W3.alloc (.cells #[.int .i64 kv, .bool nv, .int .i64 sv, .int .u64 fv] 39 (0, 0)) := ⟨_, rfl⟩
 have HI0 : Aside0 (InvC w m b g gD (gD + 1) kv nv sv fv (nr 0) (t 0) (ws 0) (vn 0) (vl 0) (vE 0) (.slice none 0 0) W4) := ⟨by
  obtain ⟨s1, s2, s3, s4, s5⟩ := HR.out.start
  rw [s1, s2, s3, s4, s5]
  have hb4 : Below W3.heap.size W3 W4 := by rw [hW4]; exact below_alloc (Below.refl _ _) _
  have hb13 : Below W1.heap.size W1 W3 := below_step HB2.out HB3.out
  have hb14 := below_step hb13 hb4
  have hgl : g < W2.heap.size := (Array.getElem?_eq_some_iff.1 HX2.out).1
  have h23 := HB3.out.size
  have h34 : W4.heap.size = W3.heap.size + 1 := by rw [hW4]; show (W3.heap.push _).size = _; rw [Array.size_push]
  refine ⟨below_step HB1.out hb14, HA1.out.same (hb14.block b HA1.out.lt), keepK hb4 (keepK HB3.out HX2.out), by rw [hW4, hgD]; exact alloc_new W3 _, Kd.R_nil _ _ _ _ _, HBG.out, HGL.out, by omega, by omega, by omega⟩⟩
 rw [← hW4, ← hgD]
 clear hW4 hgD HX2 HB2 HB3 HA1 HB1 e1 e2
 go_wp2
 go_loopg [10, 14, 16] L (fun kq v10 v14 v16 W => ∃ (i : Nat) (u : Value), v10 = .int .i64 (t i) ∧ v14 = .bool (nr i) ∧ v16 = .int .i64 (i : Int) ∧ Aside0 (kq + i = L) ∧ Aside0 (InvC w m b g gD (gD + 1) kv nv sv fv (nr i) (t i) (ws i) (vn i) (vl i) (vE i) u W))
 case atStart => exact ⟨0, _, rfl, by rw [HR.out.start.1], rfl, ⟨rfl⟩, HI0⟩
 case round =>
  obtain ⟨i, u, rfl, rfl, rfl, HK, HI⟩ := hrel
  clear HI0
  by_cases hi : i < L
  ·
   have c0 : decide (i < len) = true := decide_eq_true (by have := HLL.out; omega)
   have c1 : decide ((i : Int) < 400) = true := decide_eq_true (by have := HLL.out; omega)
   have hi4 : i < 400 := by have := HLL.out; omega
   obtain ⟨ci, hci⟩ : ∃ x, x = c i := ⟨_, rfl⟩
   obtain ⟨ti, hti⟩ : ∃ x, x = t i := ⟨_, rfl⟩
   have HCI := Aside0.mk hci
   have HTI := Aside0.mk hti
   have hop := HR.out.op i hi
   rw [← hci] at hop
   obtain ⟨ad, hA, hadw, hcell⟩ := HL.out i hi
   rw [← hci] at hcell
   subst hA
   have HCELL : Aside0 (∀ W, Below w.heap.size w W → W.cell? (ad.add i) = some (.int .i64 ci)) := ⟨fun W hW => (hW.cell (p := ad.add i) (by rw [show (ad.add i).block = ad.block from add_block _ _]; exact hadw)).trans hcell⟩
   have HTB : Aside0 (0 ≤ ti ∧ ti ≤ 2147483647) := ⟨by rw [hti]; exact HR.out.tb i (by omega)⟩
   rw [← hti]
   clear hci hti hcell hadw
   have HOP := Aside0.mk hop.1
   have ho5 := hop.2
   clear hop
   go_upto_region 15 with (first
    | (go_at_call 23; (with_reducible refine (copy_calls b m (nr i) (t i) (ws i) _ HI.out.ax (HR.out.wl i (by omega)).1).mono ?_); rintro e W5 ⟨bw, hbw, rfl, haw, hb5⟩; have HI5 := Aside0.mk (HI.out.step hb5); have HAW5 := Aside0.mk haw; have HBW : Aside0 (gD + 1 ≤ bw) := ⟨Nat.le_trans HI.out.lt.2.2.2.2 hbw⟩; clear haw hb5 hbw))
   go_upto_region 17 with (fail)
   obtain ⟨T, hT⟩ : ∃ T, T = W5.heap.size := ⟨_, rfl⟩
   obtain ⟨W6, hW6⟩ : ∃ W6, W6 = W5.alloc (.cells #[.bool false, .slice none 0 0, .int .i64 0] 32 (0, 0)) := ⟨_, rfl⟩
   have HT6 : Aside0 (W6.heap[T]? = some (.cells #[.bool false, .slice none 0 0, .int .i64 0] 32 (0, 0))) := ⟨by rw [hW6, hT]; exact alloc_new W5 _⟩
   have hb56 : Below W5.heap.size W5 W6 := by rw [hW6]; exact below_alloc (Below.refl _ _) _
   have HI6 := Aside0.mk (HI5.out.step hb56)
   have HAW6 := Aside0.mk (HAW5.out.same (hb56.block bw HAW5.out.lt))
   have HTB2 : Aside0 (bw < T ∧ T < W6.heap.size) := ⟨by rw [hT]; exact HAW5.out.lt, (Array.getElem?_eq_some_iff.1 HT6.out).1⟩
   rw [← hW6, ← hT]
   clear hW6 hT hb56 HI HI5 HAW5
   have z0 := HCELL.out W6 HI6.out.below
   have hil : i < len := by have := HLL.out; omega
   have HOPC : Aside0 (∀ W, Calls Try.prog 7 #[.int .i64 ci, .int .i64 5] W fun e w' => e = .returned (.int .i64 (o i : Int)) ∧ ∃ k, w' = W.drewN k) := ⟨fun W => by
    refine (verniertop_pick.calls ci 5 (o i : Int) W HOP.out).mono ?_
    rintro e w' ⟨h1, ⟨k, h2⟩⟩
    exact ⟨h1, k, h2⟩⟩
   have hfd : ∀ (x0 x1 x3 : Value) (x2 : Int) (W : World), (Instr.field 48 (.agg #[x0, x1, .int .i64 x2, x3]) 2).run Try.prog W = .ok (.int .i64 x2) W := fun _ _ _ _ _ => by kernel_rfl
   have HFD := Aside0.mk hfd
   clear hfd
   obtain ⟨ex, hex⟩ : ∃ x, x = er i := ⟨_, rfl⟩
   have HEX := Aside0.mk hex
   clear hex
   have hgT : gD + 1 ≤ bw ∧ bw < T := ⟨HBW.out, HTB2.out.1⟩
   have HGT := Aside0.mk hgT
   clear hgT
   rcases (show o i = 0 ∨ o i = 1 ∨ o i = 2 ∨ o i = 3 ∨ o i = 4 by omega) with ho | ho | ho | ho | ho
   case inr.inr.inr.inl =>
    as_aux_lemma =>
     have HTU := Aside0.mk (HR.out.turn i hi ho)
     rw [ho] at HOPC
     clear ho
     go_upto_region 29 with (first
      | (go_at_call 7; (with_reducible refine (HOPC.out _).mono ?_); rintro e w' ⟨rfl, ⟨nq, rfl⟩⟩))
     clear z0
     go_upto_region 30 with (first
      | (go_at_call 13; (with_reducible refine (negate_calls b m (nr i) (t i) (ws i) _ (AccB.drewN HI6.out.ax _) (by have := HR.out.m2; omega) h16 (HR.out.wl i (by omega)).1 (HR.out.wl i (by omega)).2).mono ?_); rintro e W7 ⟨rfl, hu7⟩; have HI7 := Aside0.mk ((HI6.out.drewN _).x hu7.chg hu7.here); clear hu7))
     obtain ⟨g0, g1, g2, h0, h1, h2⟩ := cl3 HI7.out.box
     go_wp2
     go_roundg (gk - 1)
     case measure => have := HK.out; omega
     case rel =>
      obtain ⟨k1, k2, k3, k4, k5, k6⟩ := HTU.out
      exact ⟨i + 1, u, by rw [k2, ← HTI.out], by rw [k1], by first | rfl | (simp; done), ⟨by have := HK.out; omega⟩, ⟨by rw [k1, k2, k3, k4, k5, k6]; exact HI7.out.flip⟩⟩
   case inr.inr.inr.inr =>
    as_aux_lemma =>
     have HO := Aside0.mk ho
     rw [ho] at HOPC
     clear ho
     by_cases hz : Int.tmod ci 3 = 0
     ·
      have cz : (Int.tmod ci 3 == 0) = true := by rw [hz]; rfl
      have HTU := Aside0.mk (HR.out.clear i hi HO.out (by rw [← HCI.out]; exact hz))
      clear hz
      go_upto_region 33 with (first
       | (go_at_call 7; (with_reducible refine (HOPC.out _).mono ?_); rintro e w' ⟨rfl, ⟨nq, rfl⟩⟩))
      clear z0
      go_upto_region 34 with (first
       | (go_at_call 16; (with_reducible refine (clear_calls b m (nr i) (t i) (ws i) _ (AccB.drewN HI6.out.ax _) (HR.out.wl i (by omega)).1).mono ?_); rintro e W7 ⟨rfl, hu7⟩; have HI7 := Aside0.mk ((HI6.out.drewN _).x hu7.chg (show AccB W7 b m false 0 (List.replicate 16 0) from hu7.here)); clear hu7))
      obtain ⟨g0, g1, g2, h0, h1, h2⟩ := cl3 HI7.out.box
      go_wp2
      go_roundg (gk - 1)
      case measure => have := HK.out; omega
      case rel =>
       obtain ⟨k1, k2, k3, k4, k5, k6⟩ := HTU.out
       exact ⟨i + 1, .slice none 0 0, by rw [k2], by rw [k1], by first | rfl | (simp; done), ⟨by have := HK.out; omega⟩, ⟨by rw [k1, k2, k3, k4, k5, k6]; exact HI7.out.zero⟩⟩
     ·
      have cz : (Int.tmod ci 3 == 0) = false := by rw [beq_eq_false_iff_ne]; exact hz
      have HTU := Aside0.mk (HR.out.stay i hi HO.out (by rw [← HCI.out]; exact hz))
      clear hz
      go_wp2_with (first
       | (go_at_call 7; (with_reducible refine (HOPC.out _).mono ?_); rintro e w' ⟨rfl, ⟨nq, rfl⟩⟩))
      go_roundg (gk - 1)
      case measure => have := HK.out; omega
      case rel =>
       obtain ⟨k1, k2, k3, k4, k5, k6⟩ := HTU.out
       exact ⟨i + 1, u, by rw [k2, ← HTI.out], by rw [k1], by first | rfl | (simp; done), ⟨by have := HK.out; omega⟩, ⟨by rw [k1, k2, k3, k4, k5, k6]; exact HI6.out.drewN _⟩⟩
   case' inl =>
    have HO := Aside0.mk ho
    rw [ho] at HOPC
    clear ho
    go_upto_region 19 with (first
     | (go_at_call 7; (with_reducible refine (HOPC.out _).mono ?_); rintro e w' ⟨rfl, ⟨nq, rfl⟩⟩))
    clear z0
    have HD0 : Aside0 (∀ W, AccB W b m (nr i) (t i) (ws i) → Calls Try.prog 24 #[.pointer (some ⟨b, 0, none⟩), .int .u64 p] W fun e w' => e = .returned (errW ex) ∧ AccB w' b m (nr2 i) (t2_ i) (ws2 i) ∧ Chg W w' b) := ⟨fun W h => by rw [HEX.out]; exact HR.out.dep0 i hi HO.out b W h⟩
    have V1 := Aside0.mk (HR.out.now0 i hi HO.out)
    go_upto_region 20 with (first
     | (go_at_call 24; (with_reducible refine (HD0.out _ (AccB.drewN HI6.out.ax _)).mono ?_); rintro e W7 ⟨rfl, ha7, hc7⟩; have HI7 := Aside0.mk ((HI6.out.drewN nq).x hc7 ha7); have HAW7 := Aside0.mk ((AccB.drewN HAW6.out nq).same (hc7.other bw (AccB.drewN HAW6.out nq).lt (by have := HI6.out.lt; have := HGT.out; omega))); have HT7 : Aside0 (W7.heap[T]? = _) := ⟨(hc7.other T HTB2.out.2 (by have := HI6.out.lt; have := HGT.out; omega)).trans HT6.out⟩; clear ha7 hc7))
    obtain ⟨y0, y1, y2, y3, _⟩ := cl4 HI7.out.dbox
    go_upto_region 37 with (first
     | (go_at_call 11; (with_reducible refine (verniertop_valOf.calls kf kv nv sv fv (nn i) (nl i) (nE i) _ V1.out).mono ?_); rintro e W8 ⟨v1, rfl, hR8, hb8⟩; obtain ⟨A1, c1, rfl, hc1, hC1⟩ := Kd.R_reads hR8; have HR8 := Aside0.mk hR8; have HB8 := Aside0.mk hb8; have HT8 := Aside0.mk (keepK hb8 HT7.out); clear hR8 hC1 hb8; obtain ⟨t0, t1, t2, f0, f1, f2⟩ := cl3 HT8.out))
    have HN0 := Aside0.mk (NowC.of (nn := nn i) (nE := nE i) HI7.out HAW7.out HT7.out ⟨by have := HGT.out; omega, by have := HGT.out; omega⟩ HB8.out (Nat.le_refl _) HR8.out)
    generalize hW9 : World.setCell (World.setCell (World.setCell W8 _ _) _ _) _ _ = W9 at *
    obtain ⟨S1, u1, HN⟩ : ∃ S1 u1, Aside0 (NowC w m b g gD (gD + 1) kv nv sv fv (nr2 i) (t2_ i) (ws2 i) (vn i) (vl i) (vE i) u bw (nr i) (t i) (ws i) T (nn i) (nl i) (nE i) u1 S1 W9) := ⟨_, _, HN0⟩
    clear hW9 HN0 y0 y1 y2 y3 t0 t1 t2 f0 f1 f2 HR8 HB8 HT8 HI7 HAW7 HT7 V1 HD0
   case' inr.inr.inl =>
    have HO := Aside0.mk ho
    rw [ho] at HOPC
    clear ho
    go_upto_region 25 with (first
     | (go_at_call 7; (with_reducible refine (HOPC.out _).mono ?_); rintro e w' ⟨rfl, ⟨nq, rfl⟩⟩))
    clear z0
    obtain ⟨one, hone, hdep⟩ := HR.out.dep2 i hi HO.out
    have P1 := Aside0.mk hone
    have P2 : Aside0 (vernierref05_Power.f kf (IntKind.i64.wrap (4 * (m : Int) - 2)) = some one) := ⟨by rw [i64_w]; exact P1.out⟩
    have P3 : Aside0 (vernierref05_Power.f kf (4 * (m : Int) - 2) = some one) := ⟨by have := P2.out; rwa [wrap_small _ (by have := HR.out.m2; omega) (by omega)] at this⟩
    have HD0 : Aside0 (∀ W, AccB W b m (nr i) (t i) (ws i) → Calls Try.prog 26 #[.pointer (some ⟨b, 0, none⟩), .int .u64 p, .int .u64 one] W fun e w' => e = .returned (errW ex) ∧ AccB w' b m (nr2 i) (t2_ i) (ws2 i) ∧ Chg W w' b) := ⟨fun W h => by rw [HEX.out]; exact hdep b W h⟩
    have V1 := Aside0.mk (HR.out.now2 i hi HO.out)
    clear hone hdep
    go_upto_region 26 with (first
     | (go_at_call 17; (with_reducible first | refine (vernierref05_Power.calls kf _ one _ P1.out).mono ?_ | refine (vernierref05_Power.calls kf _ one _ P2.out).mono ?_ | refine (vernierref05_Power.calls kf _ one _ P3.out).mono ?_); rintro e w' ⟨rfl, ⟨np, rfl⟩⟩)
     | (go_at_call 26; (with_reducible refine (HD0.out _ (AccB.drewN HI6.out.ax _)).mono ?_); rintro e W7 ⟨rfl, ha7, hc7⟩; have HI7 := Aside0.mk ((HI6.out.drewN _).x hc7 ha7); have HAW7 := Aside0.mk ((AccB.drewN HAW6.out _).same (hc7.other bw (AccB.drewN HAW6.out _).lt (by have := HI6.out.lt; have := HGT.out; omega))); have HT7 : Aside0 (W7.heap[T]? = _) := ⟨(hc7.other T HTB2.out.2 (by have := HI6.out.lt; have := HGT.out; omega)).trans HT6.out⟩; clear ha7 hc7))
    obtain ⟨y0, y1, y2, y3, _⟩ := cl4 HI7.out.dbox
    go_upto_region 27 with (first
     | (go_at_call 11; (with_reducible refine (verniertop_valOf.calls kf kv nv sv fv (!nn i) (nl i) (nE i) _ V1.out).mono ?_); rintro e W8 ⟨v1, rfl, hR8, hb8⟩; obtain ⟨A1, c1, rfl, hc1, hC1⟩ := Kd.R_reads hR8; have HR8 := Aside0.mk hR8; have HB8 := Aside0.mk hb8; have HT8 := Aside0.mk (keepK hb8 HT7.out); clear hR8 hC1 hb8; obtain ⟨t0, t1, t2, f0, f1, f2⟩ := cl3 HT8.out))
    have HN0 := Aside0.mk (NowC.of (nn := !nn i) (nE := nE i) HI7.out HAW7.out HT7.out ⟨by have := HGT.out; omega, by have := HGT.out; omega⟩ HB8.out (Nat.le_refl _) HR8.out)
    generalize hW9 : World.setCell (World.setCell (World.setCell W8 _ _) _ _) _ _ = W8b at *
    clear hW9 y0 y1 y2 y3 t0 t1 t2 f0 f1 f2 HR8 HB8 HT8
    obtain ⟨t0, t1, t2, f0, f1, f2⟩ := cl3 HN0.out.box
    go_upto_region 37 with (fail)
    have HN1 := Aside0.mk (HN0.out.flip (n' := nn i))
    generalize hW9 : World.setCell W8b _ _ = W9 at *
    obtain ⟨S1, u1, HN⟩ : ∃ S1 u1, Aside0 (NowC w m b g gD (gD + 1) kv nv sv fv (nr2 i) (t2_ i) (ws2 i) (vn i) (vl i) (vE i) u bw (nr i) (t i) (ws i) T (nn i) (nl i) (nE i) u1 S1 W9) := ⟨_, _, HN1⟩
    clear hW9 HN0 HN1 t0 t1 t2 f0 f1 f2 HI7 HAW7 HT7 V1 HD0 P1 P2 P3
   case' inr.inl =>
    have HO := Aside0.mk ho
    rw [ho] at HOPC
    clear ho
    go_upto_region 22 with (first
     | (go_at_call 7; (with_reducible refine (HOPC.out _).mono ?_); rintro e w' ⟨rfl, ⟨nq, rfl⟩⟩))
    clear z0
    have HD0 : Aside0 (∀ W, AccB W b m (nr i) (t i) (ws i) → Calls Try.prog 25 #[.pointer (some ⟨b, 0, none⟩), .int .u64 p, .int .u64 p] W fun e w' => e = .returned (errW ex) ∧ AccB w' b m (nr2 i) (t2_ i) (ws2 i) ∧ Chg W w' b) := ⟨fun W h => by rw [HEX.out]; exact HR.out.dep1 i hi HO.out b W h⟩
    obtain ⟨q1, ql, qE, hv1, hv2⟩ := HR.out.now1 i hi HO.out
    have V1 := Aside0.mk hv1
    have V3 := Aside0.mk hv2
    clear hv1 hv2
    go_upto_region 23 with (first
     | (go_at_call 25; (with_reducible refine (HD0.out _ (AccB.drewN HI6.out.ax _)).mono ?_); rintro e W7 ⟨rfl, ha7, hc7⟩; have HI7 := Aside0.mk ((HI6.out.drewN _).x hc7 ha7); have HAW7 := Aside0.mk ((AccB.drewN HAW6.out _).same (hc7.other bw (AccB.drewN HAW6.out _).lt (by have := HI6.out.lt; have := HGT.out; omega))); have HT7 : Aside0 (W7.heap[T]? = _) := ⟨(hc7.other T HTB2.out.2 (by have := HI6.out.lt; have := HGT.out; omega)).trans HT6.out⟩; clear ha7 hc7))
    have HV0 : HeldW gD kv nv sv fv T W7 W7.drew := HeldW.of (Below.chg (Below.refl _ _).drew) HI7.out.dbox (by have := HGT.out; omega)
    have NB : Aside0 (W7.drew.heap[T]? = some (.cells #[.bool false, .slice none 0 0, .int .i64 0] 32 (0, 0))) := ⟨HT7.out⟩
    go_region_held3 (fun W => W.cell? ⟨gD, 0, none⟩ = some (.int .i64 kv) ∧ W.cell? ⟨gD, 1, none⟩ = some (.bool nv) ∧ W.cell? ⟨gD, 2, none⟩ = some (.int .i64 sv) ∧ W.cell? ⟨gD, 3, none⟩ = some (.int .u64 fv) ∧
     Aside0 (Chg W7 W T ∧ W7.heap[gD]? = some (.cells #[.int .i64 kv, .bool nv, .int .i64 sv, .int .u64 fv] 39 (0, 0)) ∧ gD ≠ T)) ((first | with_reducible exact HV0 | with_reducible exact HeldW.set3 HVm.out NB.out | with_reducible exact HeldW.via ‹_› ‹_›)) (first
     | (have _ := HVa; go_at_call 11; (with_reducible refine (verniertop_valOf.calls kf kv nv sv fv q1 ql qE _ V1.out).mono ?_); rintro e wb ⟨v2, rfl, hRb, hbb⟩; (with_reducible have HVb := Aside0.mk (HeldW.via hbb (by assumption))); obtain ⟨A2, c2, rfl, hc2, hC2⟩ := Kd.R_reads hRb; (with_reducible have n8 := keepK hbb NB.out); have NB := Aside0.mk n8; clear n8)
     | (go_at_call 11; (with_reducible refine (verniertop_valOf.calls kf kv nv sv fv q1 ql qE _ V1.out).mono ?_); rintro e wa ⟨v1, rfl, hRa, hba⟩; (with_reducible have HVa := Aside0.mk (HeldW.via hba (by assumption))); obtain ⟨A1, c1, rfl, hc1, hC1⟩ := Kd.R_reads hRa; (with_reducible have n8 := keepK hba NB.out); have NB := Aside0.mk n8; clear n8)
     | (go_at_call 10; (with_reducible refine (verniertop_times.calls kf q1 A1 c1 ql qE q1 A2 c2 ql qE (nn i) (nl i) (nE i) _ (by repeat (first | with_reducible assumption | (with_reducible refine Kd.C_below ?_ (by with_reducible assumption)))) hc1 (by repeat (first | with_reducible assumption | (with_reducible refine Kd.C_below ?_ (by with_reducible assumption)))) hc2 V3.out).mono ?_); rintro e wm ⟨v3, rfl, hRm, hbm⟩; obtain ⟨A3, c3, rfl, hc3, hC3⟩ := Kd.R_reads hRm; (with_reducible have HVm := Aside0.mk (HeldW.via hbm (by assumption))); (with_reducible have n8 := keepK hbm NB.out); obtain ⟨t0, t1, t2, f0, f1, f2⟩ := cl3 n8; have NB := Aside0.mk n8; clear n8))
    all_goals (
     (try simp only [Exit.inBlock, Exit.then])
     have HB8 : Aside0 (Below W7.heap.size W7 wm) := ⟨below_step (below_step (below_step (Below.refl _ _).drew hba) hbb) hbm⟩
     have hle : W7.heap.size ≤ wb.heap.size := Nat.le_trans hba.size hbb.size
     have HN0 := Aside0.mk (NowC.of (nn := nn i) (nE := nE i) HI7.out HAW7.out HT7.out ⟨by have := HGT.out; omega, by have := HGT.out; omega⟩ HB8.out hle hRm)
     clear hRa hRb hRm hba hbb hbm hc1 hc2 hc3 hC1 hC2 hC3 HVa HVb HVm NB HV0
     generalize hW9 : World.setCell (World.setCell (World.setCell wm _ _) _ _) _ _ = W9 at *
     obtain ⟨S1, u1, HN⟩ : ∃ S1 u1, Aside0 (NowC w m b g gD (gD + 1) kv nv sv fv (nr2 i) (t2_ i) (ws2 i) (vn i) (vl i) (vE i) u bw (nr i) (t i) (ws i) T (nn i) (nl i) (nE i) u1 S1 W9) := ⟨_, _, HN0⟩
     clear hW9 HN0 t0 t1 t2 f0 f1 f2 HB8 hle HI7 HAW7 HT7 V1 V3 HD0
     go_upto_region 37 with (fail))
   all_goals (
    clear HI6 HAW6 HT6
    have HO3 : Aside0 (o i < 3) := ⟨by rw [HO.out]; decide⟩
    by_cases hfull : ti = 2147483647
    ·
     as_aux_lemma =>
      have cf : (ti == 2147483647) = true := by rw [hfull]; rfl
      have HFU := Aside0.mk hfull
      have hfl := HR.out.full i hi HO3.out (HTI.out.symm.trans hfull)
      have hx : ex = some 11 := HEX.out.trans hfl.1
      subst hx
      simp only [errW_some]
      have HX9 : Aside0 (InvC w m b g gD (gD + 1) kv nv sv fv (nr i) (t i) (ws i) (vn i) (vl i) (vE i) u W9) := ⟨by have := HN.out.inv; rw [hfl.2.1, hfl.2.2.1, hfl.2.2.2.1] at this; exact this⟩
      have HFL := Aside0.mk hfl.2.2.2.2
      have hne : ∀ W : World, (binOp BinOp.neq 25 (.iface 29 (.int .i64 11)) (.iface 29 (.int .i64 11))).run Try.prog W = .ok (.bool false) W := fun _ => by kernel_rfl
      clear hfl hfull
      go_wp2_with (first
       | (go_at_call 14; (with_reducible refine (alike_calls b bw m (nr i) (t i) (ws i) (ws i) _ HX9.out.ax HN.out.was (by have := HR.out.m2; omega) h16 (HR.out.wl i (by omega)).1 (HR.out.wl i (by omega)).1 rfl).mono ?_); rintro e W10 ⟨rfl, hb10⟩; have HX10 := Aside0.mk (HX9.out.step hb10); clear hb10))
      go_roundg (gk - 1)
      case measure => have := HK.out; omega
      case rel =>
       obtain ⟨k1, k2, k3, k4, k5, k6⟩ := HFL.out
       exact ⟨i + 1, u, by rw [k2, ← HTI.out], by rw [k1], by first | rfl | (simp; done), ⟨by have := HK.out; omega⟩, ⟨by rw [k1, k2, k3, k4, k5, k6]; exact HX10.out⟩⟩
    ·
     have cf : (ti == 2147483647) = false := by rw [beq_eq_false_iff_ne]; exact hfull
     obtain ⟨r1, r2, r3, r4, r5, r6⟩ := HR.out.room i hi HO3.out (fun h => hfull (HTI.out.trans h))
     have hx : ex = none := HEX.out.trans r1
     subst hx
     simp only [errW_none]
     obtain ⟨tj, htj⟩ : ∃ x, x = t (i + 1) := ⟨_, rfl⟩
     have e1 : IntKind.i64.wrap (ti + 1) = tj := by
      have h1 := HTB.out
      have h2 := HTI.out
      rw [wrap_small _ (by omega) (by omega), htj, r4, r2, h2]
     have HX9 : Aside0 (InvC w m b g gD (gD + 1) kv nv sv fv (nr (i + 1)) tj (ws (i + 1)) (vn i) (vl i) (vE i) u W9) := ⟨by rw [r3, htj, r4, r5]; exact HN.out.inv⟩
     have HTJ := Aside0.mk htj
     have HNJ : Aside0 (nr (i + 1) = (nr i || kv == 2)) := ⟨by rw [r3, r6]⟩
     have HTN : Aside0 (t i ≠ 2147483647) := ⟨fun h => hfull (HTI.out.trans h)⟩
     clear r1 r2 r3 r4 r5 r6 hfull htj
     obtain ⟨y0, y1, y2, y3, _⟩ := cl4 HX9.out.dbox
     go_upto_region 41 with (fail)
     go_cut [14] (fun v14 wc => v14 = .bool (nr (i + 1)) ∧ wc = W9)
     case first =>
      cases h0 : nr i <;> cases h1 : (kv == 2) <;> (
       go_wp2
       go_meet
       refine ⟨?_, rfl⟩
       rw [HNJ.out, h0, h1]
       rfl)
     case rest =>
      obtain ⟨rfl, hw⟩ := hcut
      have hw' := hw.symm
      subst hw'
      clear hw
      have hne2 : (tj != tj) = false := by simp
      by_cases hk : kv = 2
      ·
       as_aux_lemma =>
        have HSN := Aside0.mk (HR.out.sumN i hi HO3.out HTN.out hk)
        have ck : (kv != 2) = false := by rw [hk]; rfl
        clear hk
        have hfd := HFD.out
        go_wp2_with (first
         | (go_at_call 18; (with_reducible refine (state_calls b m (nr (i + 1)) tj (ws (i + 1)) _ HX9.out.ax (by have := HR.out.m2; omega) h16 (HR.out.wl (i + 1) (by omega)).1).mono ?_); rintro e W12 ⟨gS, cS, curS, rfl, _, _, _, hb12⟩; have HX12 := Aside0.mk (HX9.out.step hb12); clear hb12))
        go_roundg (gk - 1)
        case measure => have := HK.out; omega
        case rel =>
         obtain ⟨k1, k2, k3⟩ := HSN.out
         exact ⟨i + 1, u, by rw [← HTJ.out], rfl, by first | rfl | (simp; done), ⟨by have := HK.out; omega⟩, ⟨by rw [k1, k2, k3, ← HTJ.out]; exact HX12.out⟩⟩
      ·
       as_aux_lemma =>
        have V5 := Aside0.mk (HR.out.sumP i hi HO3.out HTN.out hk)
        have ck : (kv != 2) = true := by rw [bne_iff_ne]; exact hk
        clear hk y0 y1 y2 y3
        obtain ⟨y0, y1, y2, y3, _⟩ := cl4 HX9.out.dbox
        obtain ⟨t0, t1, t2, f0, f1, f2⟩ := cl3 HN.out.box
        obtain ⟨g0, g1, g2, h0, h1, h2⟩ := cl3 HX9.out.box
        go_upto_region 44 with (first
         | (go_at_call 12; (with_reducible refine (plusT kf (gD + 1) S1 (vn i) (nn i) u u1 (vl i) (nl i) (vl (i + 1)) (vE i) (nE i) (vE (i + 1)) (vn (i + 1)) _ HN.out.lt.1 HN.out.lt.2.1 HN.out.row0 HN.out.row1 V5.out).mono ?_); rintro e W10 ⟨v3, rfl, hR3, hb3⟩; obtain ⟨A3, c3, rfl, hc3, hC3⟩ := Kd.R_reads hR3; have HR3 := Aside0.mk hR3; have HB3 := Aside0.mk hb3; clear hR3 hC3 hb3; have HG10 := Aside0.mk ((HB3.out.block g (by have := HX9.out.lt; omega)).trans HX9.out.box); obtain ⟨g0, g1, g2, h0, h1, h2⟩ := cl3 HG10.out))
        have hU11 := three_set (u0 := .bool (vn (i + 1))) (u1 := .slice A3 (vl (i + 1)).length c3) (u2 := .int .i64 (vE (i + 1))) HG10.out
        have HI11 := Aside0.mk (InvC.v HX9.out HB3.out HR3.out hU11.chg hU11.here)
        generalize hW11 : World.setCell (World.setCell (World.setCell W10 _ _) _ _) _ _ = W11 at *
        clear hW11 hU11 t0 t1 t2 f0 f1 f2 g0 g1 g2 h0 h1 h2 y0 y1 y2 y3
        have hfd := HFD.out
        go_wp2_with (first
         | (go_at_call 18; (with_reducible refine (state_calls b m (nr (i + 1)) tj (ws (i + 1)) _ HI11.out.ax (by have := HR.out.m2; omega) h16 (HR.out.wl (i + 1) (by omega)).1).mono ?_); rintro e W12 ⟨gS, cS, curS, rfl, _, _, _, hb12⟩; have HX12 := Aside0.mk (HI11.out.step hb12); clear hb12))
        go_roundg (gk - 1)
        case measure => have := HK.out; omega
        case rel =>
         exact ⟨i + 1, _, by rw [← HTJ.out], rfl, by first | rfl | (simp; done), ⟨by have := HK.out; omega⟩, ⟨by rw [← HTJ.out]; exact HX12.out⟩⟩)
  ·
   have hiL : i = L := by have := HK.out; omega
   have HE : Aside0 (InvC w m b g gD (gD + 1) kv nv sv fv (nr L) (t L) (ws L) (vn L) (vl L) (vE L) u wr) := ⟨by rw [← hiL]; exact HI.out⟩
   have HNL : Aside0 (nr i = nr L) := ⟨by rw [hiL]⟩
   clear HI hiL
   by_cases hl2 : i < len
   case' pos =>
    have c0 : decide (i < len) = true := decide_eq_true hl2
    have c1 : decide ((i : Int) < 400) = false := decide_eq_false (by have := HLL.out; omega)
    clear hl2 hi
    go_upto_region 46 with (fail)
    clear c0 c1
   case' neg =>
    have c0 : decide (i < len) = false := decide_eq_false hl2
    clear hl2 hi
    go_upto_region 46 with (fail)
    clear c0
   all_goals (
    go_upto_if 154 with (first
     | (go_at_call 15; (with_reducible refine (HF.out.round b _ HE.out.ax).mono ?_); rintro e W4 ⟨rfl, hb4⟩; have HE4 := Aside0.mk (HE.out.step hb4); clear hb4))
    cases hn : nr i with
    | true =>
     as_aux_lemma =>
      have HNR : Aside0 (nr L = true) := ⟨HNL.out.symm.trans hn⟩
      clear hn
      have hqq : (q == q) = true := beq_self_eq_true q
      have P1 := Aside0.mk (HF.out.isnar HNR.out)
      have P2 : Aside0 (vernierref05_Power.f kf (IntKind.i64.wrap (4 * (m : Int) - 1)) = some q) := ⟨by rw [i64_w]; exact P1.out⟩
      have P3 : Aside0 (vernierref05_Power.f kf (4 * (m : Int) - 1) = some q) := ⟨by have := P2.out; rwa [wrap_small _ (by have := HR.out.m2; omega) (by omega)] at this⟩
      go_wp2_with (first
       | (go_at_call 17; (with_reducible first | refine (vernierref05_Power.calls kf _ q _ P1.out).mono ?_ | refine (vernierref05_Power.calls kf _ q _ P2.out).mono ?_ | refine (vernierref05_Power.calls kf _ q _ P3.out).mono ?_); rintro e w' ⟨rfl, ⟨np, rfl⟩⟩))
      go_ret
      exact ⟨rfl, pw_below_drewN HE4.out.below _⟩
    | false =>
     as_aux_lemma =>
      have HNR : Aside0 (nr L = false) := ⟨HNL.out.symm.trans hn⟩
      clear hn
      obtain ⟨A1, c1, hu, hc, hC⟩ := Kd.R_reads HE4.out.row
      subst hu
      have HC4 := Aside0.mk hC
      clear hC
      obtain ⟨g0, g1, g2, h0, h1, h2⟩ := cl3 HE4.out.box
      go_upto_region 50 with (first
       | (go_at_call 20; (with_reducible refine (HF.out.near HNR.out _ A1 c1 HC4.out hc).mono ?_); rintro e W5 ⟨rfl, hb5⟩; have HE5 := Aside0.mk (HE4.out.step hb5); clear hb5))
      clear g0 g1 g2 h0 h1 h2
      have hlen1 : (((vl L).length : Int) == ((vl L).length : Int)) = true := beq_self_eq_true _
      have HZ : HeldZ g (gD + 1) (vn L) (.slice A1 (vl L).length c1) (vE L) w W5 := HeldZ.of HE5.out.below HE5.out.box (by have := HE5.out.lt; omega)
      have HR5 : Aside0 (Kd.R (Kd.int .i64) 3 W5.drew (gD + 1) (fun _ => True) (.slice A1 (vl L).length c1) (vl L)) := ⟨Kd.R_drew HE5.out.row⟩
      have HS5 : Aside0 (gD + 1 ≤ W5.drew.heap.size) := ⟨HE5.out.lt.2.2.2.2⟩
      go_region_held3 (fun W => W.cell? ⟨g, 1, none⟩ = some (.slice A1 (vl L).length c1) ∧ Aside0 (Below w.heap.size w W ∧ W.heap[g]? = some (.cells #[.bool (vn L), .slice A1 (vl L).length c1, .int .i64 (vE L)] 32 (0, 0)) ∧ g < gD + 1 ∧ w.heap.size ≤ gD + 1)) ((first | with_reducible exact HeldZ.drew HZ | with_reducible exact HeldZ.via ‹_› (HeldZ.drew HZ))) (first
       | (go_at_call 27; (with_reducible refine (cutT kf (gD + 1) _ (vl L) (vl L) _ HS5.out HR5.out (HF.out.cut HNR.out)).mono ?_); rintro e W6 ⟨A2, c2, rfl, hb6⟩))
      all_goals (
       (try simp only [Exit.inBlock, Exit.then])
       have HZ6 := HeldZ.via hb6 (HeldZ.drew HZ)
       have HBF := Aside0.mk HZ6.2.out.1
       clear HZ6 hb6 HZ
       go_wp2
       go_ret
       exact ⟨rfl, HBF.out⟩))
set_option maxHeartbeats 4000000 in
set_option maxRecDepth 100000 in
theorem counts_bad (n short : Int) (v : Value) (p : Int) (his : vernierref05_Is.f n = some false) (w : World) :
  Calls Try.prog 4 #[.int .i64 n, .int .i64 short, v, .int .u64 p] w fun e w' => e = .returned (.bool true) ∧ Below w.heap.size w w' := by
 have A4 := Aside0.mk his
 have HB0 := Aside0.mk (Below.refl w.heap.size w)
 clear his
 go_enter Try.func4, Try.ntmps4
 go_wp2_with (first
  | (go_at_call 6; (with_reducible refine (vernierref05_Is.calls _ false _ A4.out).mono ?_); rintro e w' ⟨rfl, ⟨nd, rfl⟩⟩))
 go_ret
 exact ⟨rfl, pw_below_drewN HB0.out _⟩
end Go.Proofs.Ytgaaeehohhnocaa.F
