/- The law over counts, whole: what its parts do .. -/
import Derived.Test.YtgaaeehohhnocaaC6b
namespace Go.Proofs.Ytgaaeehohhnocaa.M
open RowKit YtgaaeehohhnocaaW PrintWords PrintLast PrintMore F
set_option linter.all false
theorem Ev.uniq {α : Type} {g : Nat → Option α} {a b : α} (h : Ev g a) (k : Ev g b) : a = b := by
 obtain ⟨n, h1, h2⟩ := Ev.get h k
 rw [h1] at h2
 exact Option.some.inj h2
def nr2N (m n p : Nat) (c : Nat → Int) (t0 : Int) (i : Nat) : Bool := if (stC m n p c t0 i).2.1 = 2147483647 then (stC m n p c t0 i).1 else depN (stC m n p c t0 i).1 (kindN n p) (kindN n (bN n p (oN (c i))))
def t2N (m n p : Nat) (c : Nat → Int) (t0 : Int) (i : Nat) : Int := if (stC m n p c t0 i).2.1 = 2147483647 then (stC m n p c t0 i).2.1 else (stC m n p c t0 i).2.1 + 1
def ws2N (m n p : Nat) (c : Nat → Int) (t0 : Int) (i : Nat) : List Nat := if (stC m n p c t0 i).2.1 = 2147483647 then (stC m n p c t0 i).2.2.1 else depW (stC m n p c t0 i).1 (kN (oN (c i))) (nP n p) (nP n (bN n p (oN (c i)))) (kindN n p) (kindN n (bN n p (oN (c i)))) m (stC m n p c t0 i).2.2.1 (fP n p * fP n (bN n p (oN (c i)))) (uP n p (bN n p (oN (c i))))
def erN (m n p : Nat) (c : Nat → Int) (t0 : Int) (i : Nat) : Option Int := if (stC m n p c t0 i).2.1 = 2147483647 then some 11 else none
theorem dep_at {m n p : Nat} {c : Nat → Int} {t0 : Int} (hn : Wd n) (hnm : n = 4 * m) (hp : p < 18446744073709551616) (hc : ∀ i, -9223372036854775808 ≤ c i ∧ c i < 9223372036854775808) (ht0 : 0 ≤ t0 ∧ t0 ≤ 2147483647) (i : Nat) (b : Nat) (W : World) (h : AccB W b m (stC m n p c t0 i).1 (stC m n p c t0 i).2.1 (stC m n p c t0 i).2.2.1) :
  Calls Try.prog 47 #[.pointer (some ⟨b, 0, none⟩), .int .u64 (p : Int), .int .u64 ((bN n p (oN (c i)) : Nat) : Int), .bool (kN (oN (c i)))] W fun e w' => e = .returned (errW (erN m n p c t0 i)) ∧ AccB w' b m (nr2N m n p c t0 i) (t2N m n p c t0 i) (ws2N m n p c t0 i) ∧ Chg W w' b := by
 obtain ⟨h1, h2, h3, h4, h5⟩ := st_inv hn hnm hp hc ht0 i
 unfold erN nr2N t2N ws2N
 by_cases hf : (stC m n p c t0 i).2.1 = 2147483647
 ·
  rw [if_pos hf, if_pos hf, if_pos hf, if_pos hf]
  rw [hf] at h ⊢
  refine (full_calls (kN (oN (c i))) b m _ _ (p : Int) _ W h).mono ?_
  rintro e w' ⟨e1, hb⟩
  exact ⟨e1, h.same (hb.block b h.lt), Go.Proofs.Ytgaaeehohhnocaa.F.Below.chg hb⟩
 ·
  rw [if_neg hf, if_neg hf, if_neg hf, if_neg hf]
  exact dep_doneT (kN (oN (c i))) _ hn hnm hp (bN_lt hn hp _) h1 h2 ⟨h4.1, by omega⟩ b W h
theorem counts_ok {m n p L : Nat} {c : Nat → Int} {t0 : Int} (hn : Wd n) (hnm : n = 4 * m) (hp : p < 18446744073709551616) (hc : ∀ i, -9223372036854775808 ≤ c i ∧ c i < 9223372036854775808) (ht0 : 0 ≤ t0 ∧ t0 ≤ 2147483647) (hL : L ≤ 400) :
  ∃ (kf : Nat) (v nw : Nat → Bool × List Int × Int) (q : Nat), codec_Decode.f kf (4 * (m : Int)) 0 = some (kindN n 0, nP n 0, sP n 0, (fP n 0 : Int), none) ∧ vernierref06_Decode.f kf (4 * (m : Int)) (p : Int) = some (kindN n p, nP n p, sP n p, (fP n p : Int)) ∧
   RunC kf m L (p : Int) c (fun i => oN (c i)) (kindN n p) (nP n p) (sP n p) (fP n p : Int) (fun i => (stC m n p c t0 i).1) (nr2N m n p c t0) (fun i => (stC m n p c t0 i).2.1) (t2N m n p c t0) (fun i => (stC m n p c t0 i).2.2.1) (ws2N m n p c t0) (erN m n p c t0) (fun i => (v i).1) (fun i => (nw i).1) (fun i => (v i).2.1) (fun i => (nw i).2.1) (fun i => (v i).2.2) (fun i => (nw i).2.2) ∧
   FinC kf m (stC m n p c t0 L).1 (stC m n p c t0 L).2.1 (stC m n p c t0 L).2.2.1 (v L).1 (v L).2.1 (v L).2.2 (q : Int) := by
 have g1 := hn.ge
 have g2 := hn.le
 have h4 : ((n : Nat) : Int) = 4 * (m : Int) := by omega
 obtain ⟨o1, o2, o3, o4, o5⟩ := one_pat hn
 have inv := st_inv (m := m) (c := c) (t0 := t0) hn hnm hp hc ht0
 obtain ⟨EA, hA1, hA2⟩ := one_vr hn hp false
 obtain ⟨EB, hB1, hB2⟩ := one_vr hn hp true
 obtain ⟨E1, E2, p1, p2, p3, p4⟩ := prod_ev hn hp hp
 have e12 : E1 = E2 := by have := Ev.uniq p1 p2; simpa using this
 subst e12
 have eAB : EA = EB := by have := Ev.uniq hA1 hB1; simpa using this
 subst eAB
 obtain ⟨nw, hnw⟩ : ∃ nw : Nat → Bool × List Int × Int, nw = fun i => if oN (c i) = 1 then (nP n p != nP n p, digs (fP n p * fP n p), E1 + E1) else if oN (c i) = 2 then (nP n p != true, digs (fP n p), EA) else (nP n p != false, digs (fP n p), EA) := ⟨_, rfl⟩
 have hnwv : ∀ i, oN (c i) < 3 → VR (UU n) (nw i).1 (nw i).2.1 (nw i).2.2 (sgD n p (bN n p (oN (c i))) (kN (oN (c i))) * 2 ^ 126) := fun i hi => by
  rw [hnw]
  rcases (show oN (c i) = 0 ∨ oN (c i) = 1 ∨ oN (c i) = 2 by omega) with k | k | k
  ·
   simp only [k]
   exact hA2
  ·
   simp only [k]
   have := p4 false
   have e : ((nP n p != nP n p) != false) = (nP n p != nP n p) := by cases (nP n p != nP n p) <;> rfl
   rw [e] at this
   exact this
  ·
   simp only [k]
   exact hB2
 have sm : ∀ i, i ≤ 400 → (stC m n p c t0 i).2.2.2.natAbs ≤ 400 * 2 ^ (16 * n - 30) := fun i hi => Nat.le_trans (inv i).2.2.2.2 (Nat.mul_le_mul_right _ hi)
 have e80 : 16777216 ^ 60 ≤ 16777216 ^ 80 := Nat.pow_le_pow_right (by decide) (by decide)
 have na126 : ∀ x : Int, (x * 2 ^ 126).natAbs = x.natAbs * 2 ^ 126 := fun x => by rw [Int.natAbs_mul]; rfl
 obtain ⟨v, v0, v1, v2⟩ := chain (fun i a => VR (UU n) a.1 a.2.1 a.2.2 ((stC m n p c t0 i).2.2.2 * 2 ^ 126))
  (fun i a b => (oN (c i) < 3 → (stC m n p c t0 i).2.1 = 2147483647 → b = a) ∧ (oN (c i) < 3 → (stC m n p c t0 i).2.1 ≠ 2147483647 → kindN n p = 2 → b = a) ∧ (oN (c i) < 3 → (stC m n p c t0 i).2.1 ≠ 2147483647 → kindN n p ≠ 2 → ∃ K, ∀ k, K ≤ k → verniertop_plus.f k a.1 a.2.1 a.2.2 (nw i).1 (nw i).2.1 (nw i).2.2 = some (b.1, b.2.1, b.2.2)) ∧ (oN (c i) = 3 → b = (!a.1, a.2.1, a.2.2)) ∧ (oN (c i) = 4 → Int.tmod (c i) 3 = 0 → b = (false, [], 0)) ∧ (oN (c i) = 4 → Int.tmod (c i) 3 ≠ 0 → b = a))
  ((false, [], 0) : Bool × List Int × Int) (by show VR (UU n) false [] 0 (0 * 2 ^ 126); rw [Int.zero_mul]; exact VR.zero (by unfold UU; omega)) L (fun i hi a ha => by
   have ho := (oN_eq (hc i).1 (hc i).2).2
   by_cases k3 : oN (c i) = 3
   ·
    refine ⟨(!a.1, a.2.1, a.2.2), ⟨fun h => by omega, fun h => by omega, fun h => by omega, fun _ => rfl, fun h => by omega, fun h => by omega⟩, ?_⟩
    rw [st_turn k3]
    show VR (UU n) (!a.1) a.2.1 a.2.2 (-(stC m n p c t0 i).2.2.2 * 2 ^ 126)
    rw [Int.neg_mul]
    exact ha.neg
   ·
    by_cases k4 : oN (c i) = 4
    ·
     by_cases hz : Int.tmod (c i) 3 = 0
     ·
      refine ⟨(false, [], 0), ⟨fun h => by omega, fun h => by omega, fun h => by omega, fun h => by omega, fun _ _ => rfl, fun _ h => absurd hz h⟩, ?_⟩
      rw [st_clear k4 hz]
      show VR (UU n) false [] 0 (0 * 2 ^ 126)
      rw [Int.zero_mul]
      exact VR.zero (by unfold UU; omega)
     ·
      refine ⟨a, ⟨fun h => by omega, fun h => by omega, fun h => by omega, fun h => by omega, fun _ h => absurd h hz, fun _ _ => rfl⟩, ?_⟩
      rw [st_stay k4 hz]; exact ha
    ·
     by_cases hf : (stC m n p c t0 i).2.1 = 2147483647
     ·
      refine ⟨a, ⟨fun _ _ => rfl, fun _ h => absurd hf h, fun _ h => absurd hf h, fun h => absurd h k3, fun h => absurd h k4, fun h => absurd h k4⟩, ?_⟩
      rw [st_full (by omega) hf]; exact ha
     ·
      by_cases hk : kindN n p = 2
      ·
       refine ⟨a, ⟨fun _ h => absurd h hf, fun _ _ _ => rfl, fun _ _ h => absurd hk h, fun h => absurd h k3, fun h => absurd h k4, fun h => absurd h k4⟩, ?_⟩
       rw [st_room (by omega) hf]
       have hz : sgD n p (bN n p (oN (c i))) (kN (oN (c i))) = 0 := by
        unfold sgD
        rw [units_none (fun h => by rw [hk] at h; exact absurd h.1 (by decide))]
        unfold sgV
        split <;> rfl
       show VR (UU n) a.1 a.2.1 a.2.2 (((stC m n p c t0 i).2.2.2 + sgD n p (bN n p (oN (c i))) (kN (oN (c i)))) * 2 ^ 126)
       rw [hz, Int.add_zero]; exact ha
      ·
       have b1 := (sm_small hn hnm (sm i (by omega))).2
       have b2 : (sgD n p (bN n p (oN (c i))) (kN (oN (c i)))).natAbs * 2 ^ 126 < 16777216 ^ 60 := by
        refine (sm_small hn hnm (S := sgD n p (bN n p (oN (c i))) (kN (oN (c i)))) ?_).2
        unfold sgD
        rw [sgV_abs]
        exact Nat.le_trans (Nat.le_of_lt (units_lt hn hp (bN_lt hn hp _))) (Nat.le_mul_of_pos_left _ (by decide))
       obtain ⟨pn, pl, pE, pe, pv⟩ := plus_ev (by unfold UU; omega) ha (hnwv i (by omega)) (by rw [na126]; exact Nat.lt_of_lt_of_le b1 e80) (by rw [na126]; exact Nat.lt_of_lt_of_le b2 e80)
       obtain ⟨K, hK⟩ := pe
       refine ⟨(pn, pl, pE), ⟨fun _ h => absurd h hf, fun _ _ h => absurd h hk, fun _ _ _ => ⟨K, hK⟩, fun h => absurd h k3, fun h => absurd h k4, fun h => absurd h k4⟩, ?_⟩
       rw [st_room (by omega) hf]
       show VR (UU n) pn pl pE (((stC m n p c t0 i).2.2.2 + sgD n p (bN n p (oN (c i))) (kN (oN (c i)))) * 2 ^ 126)
       rw [Int.add_mul]
       exact pv)
 obtain ⟨Kv, hKv⟩ := ev_all L (Q := fun i k => oN (c i) < 3 → (stC m n p c t0 i).2.1 ≠ 2147483647 → kindN n p ≠ 2 → verniertop_plus.f k (v i).1 (v i).2.1 (v i).2.2 (nw i).1 (nw i).2.1 (nw i).2.2 = some ((v (i + 1)).1, (v (i + 1)).2.1, (v (i + 1)).2.2)) (fun i hi => by
   by_cases c1 : oN (c i) < 3 ∧ (stC m n p c t0 i).2.1 ≠ 2147483647 ∧ kindN n p ≠ 2
   ·
    obtain ⟨K, hK⟩ := (v1 i hi).2.2.1 c1.1 c1.2.1 c1.2.2
    exact ⟨K, fun k hk _ _ _ => hK k hk⟩
   ·
    exact ⟨0, fun k _ a b d => absurd ⟨a, b, d⟩ c1⟩)
 have hd1 := Decode_ev hn (p := 0) (by decide)
 rw [means_eq] at hd1
 have hd2 : Ev (fun k => vernierref06_Decode.f k (n : Int) (p : Int)) (kindN n p, nP n p, sP n p, (fP n p : Int)) := by
  have := Decodes_ev hn hp
  rw [means_eq] at this
  exact Ev.bind this (Ev.now _)
 have hPw1 : Ev (fun k => vernierref05_Power.f k (wrap64 ((n : Int) - 1))) ((2 ^ (n - 1) : Nat) : Int) := by
  rw [show wrap64 ((n : Int) - 1) = ((n - 1 : Nat) : Int) by rw [w64 (by omega) (by omega)]; omega]
  exact Power_ev (by omega)
 have hPw2 : Ev (fun k => vernierref05_Power.f k (wrap64 ((n : Int) - 2))) ((2 ^ (n - 2) : Nat) : Int) := by
  rw [show wrap64 ((n : Int) - 2) = ((n - 2 : Nat) : Int) by rw [w64 (by omega) (by omega)]; omega]
  exact Power_ev (by omega)
 obtain ⟨xv, hxv, _, _, hX⟩ := v2 L (Nat.le_refl _)
 have hXs := (sm_small hn hnm (sm L hL)).2
 have hxl : (digs xv).length < 1000 := by
  refine sm_len (Nat.lt_of_le_of_lt (atU_ge (UU n) xv (v L).2.2) ?_)
  have := congrArg Int.natAbs hX
  rw [sgV_abs, na126] at this
  rw [← this]
  exact Nat.lt_of_lt_of_le hXs e80
 have hCut : Ev (fun k => vernierref04_Cut.f k (v L).2.1) (v L).2.1 := by
  rw [hxv]
  have := Cut_ev (digs_dg xv) (show (digs xv).length < 4611686018427387904 by omega)
  rw [nv_digs] at this
  exact this
 obtain ⟨K1, hK1⟩ := hd1
 obtain ⟨K2, hK2⟩ := hd2
 obtain ⟨K3, hK3⟩ := hA1
 obtain ⟨K4, hK4⟩ := p1
 obtain ⟨K5, hK5⟩ := p3
 obtain ⟨K6, hK6⟩ := hPw1
 obtain ⟨K7, hK7⟩ := hPw2
 obtain ⟨K8, hK8⟩ := hCut
 obtain ⟨kf, hkf⟩ : ∃ kf, kf = Kv + K1 + K2 + K3 + K4 + K5 + K6 + K7 + K8 := ⟨_, rfl⟩
 obtain ⟨q, hq⟩ : ∃ q : Nat, q = if (stC m n p c t0 L).1 = true then 2 ^ (n - 1) else rsP n (stC m n p c t0 L).2.2.2 := ⟨_, rfl⟩
 have hone : ∀ i, oN (c i) = 0 ∨ oN (c i) = 2 → bN n p (oN (c i)) = 2 ^ (4 * m - 2) := fun i h => by
  unfold bN
  rw [if_neg (by omega), hnm]
 refine ⟨kf, v, nw, q, by rw [← h4]; exact hK1 kf (by omega), by rw [← h4]; exact hK2 kf (by omega), ?_, ?_⟩
 ·
  exact {
   m2 := by omega
   m16 := by omega
   wl := fun i _ => ⟨(inv i).1, (inv i).2.1⟩
   wl2 := fun i _ => by
    unfold ws2N
    split
    ·
     exact (inv i).1
    ·
     exact (dep_step hn hnm hp (bN_lt hn hp _) (inv i).1 (inv i).2.1 (inv i).2.2.1).1
   tb := fun i _ => (inv i).2.2.2.1
   op := fun i _ => oN_eq (hc i).1 (hc i).2
   dep0 := fun i _ ho b W h => by
    have ho' : oN (c i) = 0 := ho
    have := dep_at hn hnm hp hc ht0 i b W h
    rw [hone i (Or.inl ho'), show kN (oN (c i)) = false by rw [ho']; rfl] at this
    exact add_any b m _ _ _ (p : Int) _ W (fun w' => AccB w' b m (nr2N m n p c t0 i) (t2N m n p c t0 i) (ws2N m n p c t0 i) ∧ Chg W w' b) h (by omega) (by omega) this
   dep1 := fun i _ ho b W h => by
    have ho' : oN (c i) = 1 := ho
    have := dep_at hn hnm hp hc ht0 i b W h
    rw [show bN n p (oN (c i)) = p by rw [ho']; rfl, show kN (oN (c i)) = false by rw [ho']; rfl] at this
    exact put_any b (p : Int) (p : Int) _ W (fun w' => AccB w' b m (nr2N m n p c t0 i) (t2N m n p c t0 i) (ws2N m n p c t0 i) ∧ Chg W w' b) this
   dep2 := fun i _ ho => by
    have ho' : oN (c i) = 2 := ho
    refine ⟨((2 ^ (n - 2) : Nat) : Int), by rw [← h4]; exact hK7 kf (by omega), fun b W h => ?_⟩
    have := dep_at hn hnm hp hc ht0 i b W h
    rw [show bN n p (oN (c i)) = 2 ^ (n - 2) by rw [ho']; rfl, show kN (oN (c i)) = true by rw [ho']; rfl] at this
    exact take_any b (p : Int) _ _ W (fun w' => AccB w' b m (nr2N m n p c t0 i) (t2N m n p c t0 i) (ws2N m n p c t0 i) ∧ Chg W w' b) this
   now0 := fun i _ ho => by
    have ho' : oN (c i) = 0 := ho
    rw [hnw]
    simp only [ho']
    rw [if_neg (by decide), if_neg (by decide)]
    have e : (nP n p != false) = nP n p := by cases nP n p <;> rfl
    rw [e]
    exact hK3 kf (by omega)
   now1 := fun i _ ho => by
    have ho' : oN (c i) = 1 := ho
    refine ⟨nP n p, digs (fP n p), E1, hK4 kf (by omega), ?_⟩
    rw [hnw]
    simp only [ho']
    rw [if_pos trivial]
    exact hK5 kf (by omega)
   now2 := fun i _ ho => by
    have ho' : oN (c i) = 2 := ho
    rw [hnw]
    simp only [ho']
    rw [if_neg (by decide), if_pos trivial]
    have e : (!(nP n p != true)) = nP n p := by cases nP n p <;> rfl
    rw [e]
    exact hK3 kf (by omega)
   full := fun i hi ho hf => by
    have hf' : (stC m n p c t0 i).2.1 = 2147483647 := hf
    have hv := (v1 i hi).1 ho hf'
    simp only [hv, st_full (m := m) (n := n) (p := p) (t0 := t0) (show oN (c i) < 3 from ho) hf']
    unfold erN nr2N t2N ws2N
    rw [if_pos hf', if_pos hf', if_pos hf', if_pos hf']
    exact ⟨(by first | rfl | exact trivial), (by first | rfl | exact trivial), (by first | rfl | exact trivial), (by first | rfl | exact trivial), (by first | rfl | exact trivial), (by first | rfl | exact trivial), (by first | rfl | exact trivial), (by first | rfl | exact trivial), (by first | rfl | exact trivial), (by first | rfl | exact trivial)⟩
   room := fun i hi ho hf => by
    have hf' : (stC m n p c t0 i).2.1 ≠ 2147483647 := hf
    simp only [st_room (m := m) (n := n) (p := p) (t0 := t0) (show oN (c i) < 3 from ho) hf']
    unfold erN nr2N t2N ws2N
    rw [if_neg hf', if_neg hf', if_neg hf', if_neg hf']
    refine ⟨rfl, rfl, rfl, rfl, rfl, ?_⟩
    unfold depN
    have e : (kindN n (bN n p (oN (c i))) == 2) = true → (kindN n p == 2) = true := fun h => by
     unfold bN at h
     split at h
     ·
      exact h
     ·
      rw [o1] at h; exact absurd h (by decide)
    generalize (kindN n (bN n p (oN (c i))) == 2) = x at *
    generalize (kindN n p == 2) = y at *
    cases x <;> cases y <;> simp_all
   sumN := fun i hi ho hf hk => by rw [(v1 i hi).2.1 ho hf hk]; exact ⟨rfl, rfl, rfl⟩
   sumP := fun i hi ho hf hk => hKv kf (by omega) i hi ho hf hk
   turn := fun i hi ho => by
    have ho' : oN (c i) = 3 := ho
    have hv := (v1 i hi).2.2.2.1 ho'
    simp only [hv, st_turn (m := m) (n := n) (p := p) (t0 := t0) ho']
    exact ⟨(by first | rfl | exact trivial), (by first | rfl | exact trivial), (by first | rfl | exact trivial), (by first | rfl | exact trivial), (by first | rfl | exact trivial), (by first | rfl | exact trivial)⟩
   clear := fun i hi ho hz => by
    have ho' : oN (c i) = 4 := ho
    have hv := (v1 i hi).2.2.2.2.1 ho' hz
    simp only [hv, st_clear (m := m) (n := n) (p := p) (t0 := t0) ho' hz]
    exact ⟨(by first | rfl | exact trivial), (by first | rfl | exact trivial), (by first | rfl | exact trivial), (by first | rfl | exact trivial), (by first | rfl | exact trivial), (by first | rfl | exact trivial)⟩
   stay := fun i hi ho hz => by
    have ho' : oN (c i) = 4 := ho
    have hv := (v1 i hi).2.2.2.2.2 ho' hz
    simp only [hv, st_stay (m := m) (n := n) (p := p) (t0 := t0) ho' hz]
    exact ⟨(by first | rfl | exact trivial), (by first | rfl | exact trivial), (by first | rfl | exact trivial), (by first | rfl | exact trivial), (by first | rfl | exact trivial), (by first | rfl | exact trivial)⟩
   start := by rw [v0]; exact ⟨rfl, rfl, rfl, rfl, rfl⟩ }
 ·
  exact {
   round := fun b W h => by
    by_cases cn : (stC m n p c t0 L).1 = true
    ·
     rw [cn] at h
     rw [hq, if_pos cn]
     refine (round_nar b m _ _ W h (by omega) (by omega)).mono ?_
     rintro e w' ⟨rfl, rfl⟩
     exact ⟨by rw [hnm], Below.refl _ _⟩
    ·
     have cn' : (stC m n p c t0 L).1 = false := by simpa using cn
     rw [cn'] at h
     rw [hq, if_neg cn]
     exact round_done hn hnm (inv L).1 (inv L).2.1 ((inv L).2.2.1 cn') (sm_small hn hnm (sm L hL)).1 b _ W h
   isnar := fun cn => by rw [hq, if_pos cn, ← h4]; exact hK6 kf (by omega)
   near := fun cn W A cc hC hcc => by
    rw [hq, if_neg (by rw [cn]; decide), ← h4]
    exact near_done hn (v2 L (Nat.le_refl _)) hXs W A cc hC hcc
   cut := fun _ => hK8 kf (by omega) }
end Go.Proofs.Ytgaaeehohhnocaa.M
