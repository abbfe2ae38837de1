/- All parts of the law over sums: what it does at each round, and what it finds. -/
import Derived.Test.YtgaaeehohhnocaaB5a
namespace Go.Proofs.Ytgaaeehohhnocaa.M
open Go.RowKit Go.Proofs.YtgaaeehohhnocaaW.PrintWords Go.Proofs.YtgaaeehohhnocaaW.PrintLast Go.Proofs.YtgaaeehohhnocaaW.PrintMore Go.Proofs.Ytgaaeehohhnocaa.F
set_option linter.unusedVariables false
set_option linter.unusedSimpArgs false
theorem dep_done {m n a b : Nat} (tk nar : Bool) {ws : List Nat} (hn : Wd n) (hnm : n = 4 * m) (ha : a < 18446744073709551616) (hb : b < 18446744073709551616) (hl : ws.length = 16) (hw : Ws ws) {i : Nat} (hi4 : i < 400) (B : Nat) (W : World) (h : AccB W B m nar (i : Int) ws) :
  Calls Try.prog 47 #[.pointer (some ⟨B, 0, none⟩), .int .u64 (a : Int), .int .u64 (b : Int), .bool tk] W fun e w' => e = .returned (errW none) ∧ AccB w' B m (depN nar (kindN n a) (kindN n b)) ((i + 1 : Nat) : Int) (depW nar tk (nP n a) (nP n b) (kindN n a) (kindN n b) m ws (fP n a * fP n b) (uP n a b)) ∧ Chg W w' B := by
 have g1 := hn.ge
 have g2 := hn.le
 have h4 : ((n : Nat) : Int) = 4 * (m : Int) := by omega
 have d1 := Decode_ev hn ha
 have d2 := Decode_ev hn hb
 rw [means_eq] at d1 d2
 obtain ⟨K, hK⟩ := Ev.both d1 d2
 obtain ⟨e1, e2⟩ := hK K (Nat.le_refl _)
 rw [h4] at e1 e2
 have r1 := sP_range hn ha
 have r2 := sP_range hn hb
 have f1 := fP_lt (a := a) hn
 have f2 := fP_lt (a := b) hn
 have hu := uP_range hn ha hb
 have hP : fP n a * fP n b < 18446744073709551616 * 18446744073709551616 := Nat.mul_lt_mul'' f1 f2
 have hq : fP n a * fP n b / 18446744073709551616 < 18446744073709551616 := Nat.div_lt_of_lt_mul hP
 refine (deposit_calls tk B m nar (i : Int) ws K (a : Int) (b : Int) (kindN n a) (sP n a) (fP n a : Int) (kindN n b) (sP n b) (fP n b : Int) (nP n a) (nP n b) (fP n a * fP n b) (uP n a b) W h (by omega) (by omega) hl hw (by omega) (by omega) e1 e2 (fun _ _ => ⟨?_, hq, by omega⟩) (by unfold uP; omega) (by omega) (by omega)).mono ?_
 ·
  rw [Mul64_eq f1 f2]
  unfold hi lo
  rw [Nat.mod_eq_of_lt hq]
 ·
  rintro e w' ⟨h1, h2, h3⟩
  exact ⟨h1, by rw [show ((i + 1 : Nat) : Int) = (i : Int) + 1 by omega]; exact h2, h3⟩
theorem sums_ok {m n L at_ : Nat} (back : Bool) {da db : Nat → Nat} (dm : Nat → Bool) (hn : Wd n) (hnm : n = 4 * m) (ha : ∀ i, da i < 18446744073709551616) (hb : ∀ i, db i < 18446744073709551616) (hL : L ≤ 400) (hat : at_ ≤ L) :
  ∃ (kf : Nat) (v : Nat → Bool × List Int × Int) (p : Nat), v 0 = (false, [], 0) ∧ codec_Decode.f kf (4 * (m : Int)) 0 = some (kindN n 0, nP n 0, sP n 0, (fP n 0 : Int), none) ∧
   Run kf m L at_ back (fun i => (da i : Int)) (fun i => (db i : Int)) dm (ixN L at_ back) (nrN n da db) (nrN n (fun i => da (ixN L at_ back i)) (fun i => db (ixN L at_ back i))) (nrN n da db) (wsN m n da db dm) (wsN m n (fun i => da (ixN L at_ back i)) (fun i => db (ixN L at_ back i)) (fun i => dm (ixN L at_ back i))) (wsN m n da db (fun i => !dm i)) (nrN n da db)
    (fun i => kindN n (da i)) (fun i => kindN n (db i)) (fun i => sP n (da i)) (fun i => sP n (db i)) (fun i => (fP n (da i) : Int)) (fun i => (fP n (db i) : Int)) (fun i => nP n (da i)) (fun i => nP n (db i)) (fun i => (v i).1) (fun i => (v i).2.1) (fun i => (v i).2.2) ∧
   Fin kf m L (nrN n da db L) (nrN n (fun i => da (ixN L at_ back i)) (fun i => db (ixN L at_ back i)) L) (nrN n da db L) (wsN m n da db dm L) (wsN m n (fun i => da (ixN L at_ back i)) (fun i => db (ixN L at_ back i)) (fun i => dm (ixN L at_ back i)) L) (wsN m n da db (fun i => !dm i) L) (nrN n da db L) (v L).1 (v L).2.1 (v L).2.2 (p : Int) := by
 have g1 := hn.ge
 have g2 := hn.le
 have h4 : ((n : Nat) : Int) = 4 * (m : Int) := by omega
 obtain ⟨v, v0, v1, v2, v3⟩ := val_seq dm hn ha hb L hL
 obtain ⟨Kv, hKv⟩ := ev_all L (Q := fun i k => nrN n da db (i + 1) = false → ∃ (p1 p2 p3 : Bool) (l1 l2 l3 : List Int) (E1 E2 E3 : Int), verniertop_valOf.f k (kindN n (da i)) (nP n (da i)) (sP n (da i)) (fP n (da i) : Int) = some (p1, l1, E1) ∧ verniertop_valOf.f k (kindN n (db i)) (nP n (db i)) (sP n (db i)) (fP n (db i) : Int) = some (p2, l2, E2) ∧ verniertop_times.f k p1 l1 E1 p2 l2 E2 = some (p3, l3, E3) ∧ verniertop_plus.f k (v i).1 (v i).2.1 (v i).2.2 (p3 != dm i) l3 E3 = some ((v (i + 1)).1, (v (i + 1)).2.1, (v (i + 1)).2.2)) (fun i hi => by
   by_cases c : nrN n da db (i + 1) = false
   ·
    obtain ⟨K, hK⟩ := v2 i hi c
    exact ⟨K, fun k hk _ => hK k hk⟩
   ·
    exact ⟨0, fun k _ h => absurd h c⟩)
 have hdec : ∀ x : Nat, x < 18446744073709551616 → Ev (fun k => vernierref06_Decode.f k (n : Int) (x : Int)) (kindN n x, nP n x, sP n x, (fP n x : Int)) := fun x hx => by
  have := Decodes_ev hn hx
  rw [means_eq] at this
  exact Ev.bind this (Ev.now _)
 obtain ⟨Kd, hKd⟩ := ev_all L (Q := fun i k => vernierref06_Decode.f k (n : Int) (da i : Int) = some (kindN n (da i), nP n (da i), sP n (da i), (fP n (da i) : Int)) ∧ vernierref06_Decode.f k (n : Int) (db i : Int) = some (kindN n (db i), nP n (db i), sP n (db i), (fP n (db i) : Int))) (fun i _ => Ev.both (hdec _ (ha i)) (hdec _ (hb i)))
 have hd0 := Decode_ev hn (p := 0) (by decide)
 rw [means_eq] at hd0
 obtain ⟨K0, hK0⟩ := hd0
 have hPw : Ev (fun k => vernierref05_Power.f k (wrap64 ((n : Int) - 1))) ((2 ^ (n - 1) : Nat) : Int) := by
  rw [show wrap64 ((n : Int) - 1) = ((n - 1 : Nat) : Int) by rw [w64 (by omega) (by omega)]; omega]
  exact Power_ev (by omega)
 obtain ⟨Kp, hKp⟩ := hPw
 have ix1 := ws_inv dm hn hnm ha hb
 have iy1 := ws_inv (da := fun i => da (ixN L at_ back i)) (db := fun i => db (ixN L at_ back i)) (fun i => dm (ixN L at_ back i)) hn hnm (fun i => ha _) (fun i => hb _)
 have iz1 := ws_inv (fun i => !dm i) hn hnm ha hb
 have nxy : nrN n da db L = nrN n (fun i => da (ixN L at_ back i)) (fun i => db (ixN L at_ back i)) L := by
  rw [nr_sum, nr_sum, ← sumI_ix back (fun j => inN n (da j) (db j)) hat]
 have sxy : smN n (fun i => da (ixN L at_ back i)) (fun i => db (ixN L at_ back i)) (fun i => dm (ixN L at_ back i)) L = smN n da db dm L := sumI_ix back (fun j => sgD n (da j) (db j) (dm j)) hat
 have szx : smN n da db (fun i => !dm i) L = -smN n da db dm L := by
  show sumI _ L = -sumI _ L
  rw [← sumI_neg]
  refine sumI_congr L (fun j _ => ?_)
  show sgD n (da j) (db j) (!dm j) = -sgD n (da j) (db j) (dm j)
  unfold sgD sgV
  generalize (nP n (da j) != nP n (db j)) = y
  cases y <;> cases dm j <;> simp
 have hsm := sm_small hn hnm (sm_abs dm hn ha hb hL)
 obtain ⟨p, hp⟩ : ∃ p : Nat, p = if nrN n da db L = true then 2 ^ (n - 1) else rsP n (smN n da db dm L) := ⟨_, rfl⟩
 refine ⟨Kv + Kd + K0 + Kp, v, p, v0, ?_, ?_, ?_⟩
 ·
  rw [← h4]; exact hK0 _ (by omega)
 ·
  exact {
   m2 := by omega
   m16 := by omega
   small := hL
   x0 := ⟨rfl, rfl⟩
   y0 := ⟨rfl, rfl⟩
   z0 := ⟨rfl, rfl⟩
   hx := fun i hi b W h => dep_done (dm i) _ hn hnm (ha i) (hb i) (ix1 i).1 (ix1 i).2.1 (by omega) b W h
   hy := fun i hi b W h => dep_done (dm (ixN L at_ back i)) _ hn hnm (ha _) (hb _) (iy1 i).1 (iy1 i).2.1 (by omega) b W h
   hz := fun i hi b W h => dep_done (!dm i) _ hn hnm (ha i) (hb i) (iz1 i).1 (iz1 i).2.1 (by omega) b W h
   at0 := hat
   ixl := fun i hi => ⟨ixN_lt back hi, rfl⟩
   d1 := fun i hi => by rw [← h4]; exact (hKd _ (by omega) i hi).1
   d2 := fun i hi => by rw [← h4]; exact (hKd _ (by omega) i hi).2
   nar0 := rfl
   nars := fun i hi => rfl
   v0 := by rw [v0]; exact ⟨rfl, rfl, rfl⟩
   vs := fun i hi h => by rw [v1 i hi h]; exact ⟨rfl, rfl, rfl⟩
   vp := fun i hi h => hKv _ (by omega) i hi h }
 ·
  exact {
   lx := ⟨(ix1 L).1, (ix1 L).2.1⟩
   ly := (iy1 L).1
   lz := ⟨(iz1 L).1, (iz1 L).2.1⟩
   lnz := neg_length (iz1 L).1 (by omega)
   alike := by
    refine ⟨nxy, ?_, rfl, ?_⟩
    ·
     by_cases c : nrN n da db L = true
     ·
      rw [(ix1 L).2.2.2.1 c, (iy1 L).2.2.2.1 (nxy ▸ c)]
     ·
      have c' : nrN n da db L = false := by simpa using c
      have s1 := (ix1 L).2.2.2.2 c'
      have s2 := (iy1 L).2.2.2.2 (nxy ▸ c')
      rw [sxy] at s2
      exact stands_same (ix1 L).1 (iy1 L).1 (by omega) (ix1 L).2.1 (iy1 L).2.1 s1 s2
    ·
     have hzl := neg_length (iz1 L).1 (show m ≤ 16 by omega)
     have hzw : Ws (negW m (wsN m n da db (fun i => !dm i) L)) := (turn_ws _ _).append ((iz1 L).2.1.drop _)
     by_cases c : nrN n da db L = true
     ·
      have z0 : Stands m (List.replicate 16 0) 0 := ⟨0, by rw [List.take_replicate, wN_zeros]; simp⟩
      have s2 := neg_stands (iz1 L).1 (show m ≤ 16 by omega) (iz1 L).2.1 (by rw [(iz1 L).2.2.2.1 c]; exact z0)
      rw [Int.neg_zero] at s2
      refine stands_same (ix1 L).1 hzl (by omega) (ix1 L).2.1 hzw ?_ s2
      rw [(ix1 L).2.2.2.1 c]; exact z0
     ·
      have c' : nrN n da db L = false := by simpa using c
      have s1 := (ix1 L).2.2.2.2 c'
      have s2 := neg_stands (iz1 L).1 (show m ≤ 16 by omega) (iz1 L).2.1 ((iz1 L).2.2.2.2 c')
      rw [szx, Int.neg_neg] at s2
      exact stands_same (ix1 L).1 hzl (by omega) (ix1 L).2.1 hzw s1 s2
   round := fun b W h => by
    by_cases c : nrN n da db L = true
    ·
     rw [c] at h
     rw [hp, if_pos c]
     refine (round_nar b m _ _ W h (by omega) (by omega)).mono ?_
     rintro e w' ⟨rfl, rfl⟩
     exact ⟨by rw [hnm], Below.refl _ _⟩
    ·
     have c' : nrN n da db L = false := by simpa using c
     rw [c'] at h
     rw [hp, if_neg c]
     exact round_done hn hnm (ix1 L).1 (ix1 L).2.1 ((ix1 L).2.2.2.2 c') hsm.1 b _ W h
   isnar := fun c => by
    refine ⟨?_, fun b W h => ?_⟩
    ·
     rw [hp, if_pos c, ← h4]; exact hKp _ (by omega)
    ·
     have z0 : Stands m (List.replicate 16 0) 0 := ⟨0, by rw [List.take_replicate, wN_zeros]; simp⟩
     have := round_done hn hnm List.length_replicate (Ws.zeros 16) z0 (Nat.pow_pos (by decide)) b 0 W h
     rw [show rsP n 0 = 0 from rfl] at this
     exact this
   near := fun c W A cc hC hc => by
    rw [hp, if_neg (by rw [c]; decide), ← h4]
    exact near_done hn (v3 L (Nat.le_refl _) c) hsm.2 W A cc hC hc
   sign := fun c => by
    obtain ⟨x, hx, e0, e1, hX⟩ := v3 L (Nat.le_refl _) c
    have s1 := (ix1 L).2.2.2.2 c
    have hsg := (stands_small (by omega) (by omega) (ix1 L).1 (ix1 L).2.1 s1 hsm.1).1
    have hno := none_stands (by omega) (by omega) (ix1 L).1 (ix1 L).2.1 (ix1 L).2.2.1 s1 hsm.1
    rw [hx, sign_eq]
    generalize hS : smN n da db dm L = S at *
    have hV : atU (UU n) x (v L).2.2 = S.natAbs * 2 ^ 126 := by
     have := congrArg Int.natAbs hX
     rw [sgV_abs, Int.natAbs_mul] at this
     rw [← this]; rfl
    have hx0 : x = 0 ↔ S = 0 := by
     rw [← atU_zero (UU n) x (v L).2.2, hV]
     constructor
     ·
      intro z
      rcases Nat.mul_eq_zero.mp z with z | z
      ·
       omega
      ·
       exact absurd z (by decide)
     ·
      intro z; rw [z]; rfl
    unfold sgV at hX
    by_cases z : S = 0
    ·
     rw [if_pos (hx0.mpr z), if_neg (fun g => by have := hsg.mpr g; omega), if_pos (hno.mpr z)]
    ·
     rw [if_neg (fun g => z (hx0.mp g))]
     by_cases g : S < 0
     ·
      have hvn : (v L).1 = true := by
       cases h : (v L).1 with
       | true => rfl
       | false => rw [h, if_neg (by decide)] at hX; omega
      rw [hvn, if_pos rfl, if_pos (hsg.mp g)]
     ·
      have hvn : (v L).1 = false := by
       cases h : (v L).1 with
       | false => rfl
       | true => rw [h, if_pos rfl] at hX; omega
      rw [hvn, if_neg (by decide), if_neg (fun h => g (hsg.mpr h)), if_neg (fun h => z (hno.mp h))] }
end Go.Proofs.Ytgaaeehohhnocaa.M
