/- All parts of the law over two lists: what Dot .. -/
import Derived.Test.YtjlaijaadclghaaB5Q
import Derived.Test.YtjlaijaadclghaaD2Q
import Derived.Test.YtjlaijaadclghaaA15Q
import Derived.Test.YtjlaijaadclghaaD7Q
namespace Go.Proofs.Ytjlaijaadclghaa.M
open RowKit YtjlaijaadclghaaW PrintWords PrintLast PrintMore F
set_option linter.all false
theorem dep_done {m n a b : Nat} (tk nar : Bool) {ws : List Nat} (hn : Wd n) (hnm : n = 4 * m) (ha : a < 18446744073709551616) (hb : b < 18446744073709551616) (hl : ws.length = 16) (hw : Ws ws) {i : Nat} (hi4 : i < 1048576) (B : Nat) (W : World) (h : AccB W B m nar (i : Int) ws) :
  Calls Try.prog 48 #[.pointer (some ⟨B, 0, none⟩), .int .u64 (a : Int), .int .u64 (b : Int), .bool tk] W fun e w' => e = .returned (errW none) ∧ AccB w' B m (depN nar (kindN n a) (kindN n b)) ((i + 1 : Nat) : Int) (depW nar tk (nP n a) (nP n b) (kindN n a) (kindN n b) m ws (fP n a * fP n b) (uP n a b)) ∧ Chg W w' B := by
 have g1 := hn.ge
 have g2 := hn.le
 have h4 : ((n : Nat) : Int) = 4 * (m : Int) := by omega
 have d1 := Decode_ev hn ha
 have d2 := Decode_ev hn hb
 rw [means_eq] at d1 d2
 obtain ⟨K, hK⟩ := Ev.both d1 d2
 obtain ⟨e1, e2⟩ := hK K (Nat.le_refl _)
 rw [h4] at e1 e2
 have r1 := sP_range hn ha
 have r2 := sP_range hn hb
 have f1 := fP_lt (a := a) hn
 have f2 := fP_lt (a := b) hn
 have hu := uP_range hn ha hb
 have hP : fP n a * fP n b < 18446744073709551616 * 18446744073709551616 := Nat.mul_lt_mul'' f1 f2
 have hq : fP n a * fP n b / 18446744073709551616 < 18446744073709551616 := Nat.div_lt_of_lt_mul hP
 refine (deposit_calls tk B m nar (i : Int) ws K (a : Int) (b : Int) (kindN n a) (sP n a) (fP n a : Int) (kindN n b) (sP n b) (fP n b : Int) (nP n a) (nP n b) (fP n a * fP n b) (uP n a b) W h (by omega) (by omega) hl hw (by omega) (by omega) e1 e2 (fun _ _ => ⟨?_, hq, by omega⟩) (by unfold uP; omega) (by omega) (by omega)).mono ?_
 ·
  rw [Mul64_eq f1 f2]
  unfold hi lo
  rw [Nat.mod_eq_of_lt hq]
 ·
  rintro e w' ⟨h1, h2, h3⟩
  exact ⟨h1, by rw [show ((i + 1 : Nat) : Int) = (i : Int) + 1 by omega]; exact h2, h3⟩
theorem nr_congr {n : Nat} {da db da' db' : Nat → Nat} : ∀ i : Nat, (∀ j, j < i → da j = da' j ∧ db j = db' j) → nrN n da db i = nrN n da' db' i
 | 0, _ => rfl
 | i + 1, h => by rw [nrN, nrN, nr_congr i (fun j hj => h j (by omega)), (h i (by omega)).1, (h i (by omega)).2]
theorem ws_congr {m n : Nat} {da db da' db' : Nat → Nat} {dm : Nat → Bool} : ∀ i : Nat, (∀ j, j < i → da j = da' j ∧ db j = db' j) → wsN m n da db dm i = wsN m n da' db' dm i
 | 0, _ => rfl
 | i + 1, h => by rw [wsN, wsN, nr_congr i (fun j hj => h j (by omega)), ws_congr i (fun j hj => h j (by omega)), (h i (by omega)).1, (h i (by omega)).2]
def nrL (n : Nat) (da db : Nat → Nat) (pre : List Nat) : Bool := nrN n (fun i => da (pre.getD i 0)) (fun i => db (pre.getD i 0)) pre.length
def wsL (m n : Nat) (da db : Nat → Nat) (pre : List Nat) : List Nat := wsN m n (fun i => da (pre.getD i 0)) (fun i => db (pre.getD i 0)) (fun _ => false) pre.length
theorem getD_left {pre : List Nat} {x i : Nat} (h : i < pre.length) : (pre ++ [x]).getD i 0 = pre.getD i 0 := by
 rw [List.getD_eq_getElem?_getD, List.getD_eq_getElem?_getD, List.getElem?_append_left h]
theorem getD_last (pre : List Nat) (x : Nat) : (pre ++ [x]).getD pre.length 0 = x := by
 rw [List.getD_eq_getElem?_getD, List.getElem?_append_right (Nat.le_refl _), Nat.sub_self]; rfl
theorem getD_range {L i : Nat} (h : i < L) : (List.range L).getD i 0 = i := by
 rw [List.getD_eq_getElem?_getD, List.getElem?_range h]; rfl
theorem nrL_snoc (n : Nat) (da db : Nat → Nat) (pre : List Nat) (x : Nat) : nrL n da db (pre ++ [x]) = depN (nrL n da db pre) (kindN n (da x)) (kindN n (db x)) := by
 unfold nrL
 rw [List.length_append, List.length_singleton, nrN, getD_last, nr_congr pre.length (fun j hj => ⟨by rw [getD_left hj], by rw [getD_left hj]⟩)]
theorem wsL_snoc (m n : Nat) (da db : Nat → Nat) (pre : List Nat) (x : Nat) : wsL m n da db (pre ++ [x]) = depW (nrL n da db pre) false (nP n (da x)) (nP n (db x)) (kindN n (da x)) (kindN n (db x)) m (wsL m n da db pre) (fP n (da x) * fP n (db x)) (uP n (da x) (db x)) := by
 unfold nrL wsL
 rw [List.length_append, List.length_singleton, wsN, getD_last, nr_congr pre.length (fun j hj => ⟨by rw [getD_left hj], by rw [getD_left hj]⟩), ws_congr pre.length (fun j hj => ⟨by rw [getD_left hj], by rw [getD_left hj]⟩)]
theorem nrL_range (n : Nat) (da db : Nat → Nat) (L : Nat) : nrL n da db (List.range L) = nrN n da db L := by
 unfold nrL
 rw [List.length_range]
 exact nr_congr L (fun j hj => ⟨by rw [getD_range hj], by rw [getD_range hj]⟩)
theorem wsL_range (m n : Nat) (da db : Nat → Nat) (L : Nat) : wsL m n da db (List.range L) = wsN m n da db (fun _ => false) L := by
 unfold wsL
 rw [List.length_range]
 exact ws_congr L (fun j hj => ⟨by rw [getD_range hj], by rw [getD_range hj]⟩)
def pN (n : Nat) (da db : Nat → Nat) (L : Nat) : Nat := if nrN n da db L = true then 2 ^ (n - 1) else rsP n (smN n da db (fun _ => false) L)
theorem in_comm (n a b : Nat) : inN n a b = inN n b a := by unfold inN; by_cases h1 : kindN n a = 2 <;> by_cases h2 : kindN n b = 2 <;> simp [h1, h2]
theorem dU_comm (n a b : Nat) : dU n a b = dU n b a := by
 have hu : uP n a b = uP n b a := by unfold uP; omega
 unfold dU
 rw [hu, Nat.mul_comm (fP n a)]
theorem sg_comm (n a b : Nat) (mi : Bool) : sgD n a b mi = sgD n b a mi := by
 unfold sgD
 rw [dU_comm n a b]
 cases nP n a <;> cases nP n b <;> rfl
theorem p_turn {n L at_ : Nat} (da db : Nat → Nat) (h : at_ ≤ L) : pN n (fun j => db ((at_ + j) % L)) (fun j => da ((at_ + j) % L)) L = pN n da db L := by
 have h1 : nrN n (fun j => db ((at_ + j) % L)) (fun j => da ((at_ + j) % L)) L = nrN n da db L := by
  rw [nr_sum, nr_sum, ← sumI_turn (fun j => inN n (da j) (db j)) h]
  rw [sumI_congr L (fun j _ => in_comm n (db ((at_ + j) % L)) (da ((at_ + j) % L)))]
 have h2 : smN n (fun j => db ((at_ + j) % L)) (fun j => da ((at_ + j) % L)) (fun _ => false) L = smN n da db (fun _ => false) L := by
  show sumI _ L = sumI _ L
  rw [← sumI_turn (fun j => sgD n (da j) (db j) false) h]
  exact sumI_congr L (fun j _ => sg_comm n (db ((at_ + j) % L)) (da ((at_ + j) % L)) false)
 unfold pN
 rw [h1, h2]
theorem dot_done {m n L : Nat} {da db : Nat → Nat} (hn : Wd n) (hnm : n = 4 * m) (ha : ∀ i, da i < 18446744073709551616) (hb : ∀ i, db i < 18446744073709551616) (hL : L ≤ 1048576) (A B : Option Addr) (ca cb : Nat) (w : World) (hA : LstW w A L (fun i => (da i : Int))) (hB : LstW w B L (fun i => (db i : Int))) :
  Calls Try.prog 4 #[.int .i64 (4 * (m : Int)), .slice A L ca, .slice B L cb] w fun e w' => e = .returned (.tuple #[.int .u64 (pN n da db L : Int), errW none]) ∧ Below w.heap.size w w' := by
 have g1 := hn.ge
 have g2 := hn.le
 have h4 : ((n : Nat) : Int) = 4 * (m : Int) := by omega
 obtain ⟨K, hK⟩ := Decode_ev hn (p := 0) (by decide)
 have hd := hK K (Nat.le_refl _)
 rw [means_eq, h4] at hd
 have ix := ws_inv (da := da) (db := db) (fun _ => false) hn hnm ha hb L
 have hsm := sm_small hn hnm (sm_abs (fun _ => false) hn ha hb hL)
 refine dot_calls K m _ _ _ _ hd _ _ w (nrN n da db L) (L : Int) (wsN m n da db (fun _ => false) L) (pN n da db L : Int) (fun b W hbb hbw hacc => ?_) (fun b W h => ?_)
 ·
  have hat : ∀ {D : Option Addr} {dd : Nat → Int}, LstW w D L dd → LstAt W.heap.size b W D L dd := fun h h0 => by
   obtain ⟨ba, oa, e, hlt, hc⟩ := h h0
   have := hbw.size
   exact ⟨ba, oa, e, ⟨by omega, by omega⟩, fun j hj => (hbw.cell (p := ⟨ba, oa + j, none⟩) hlt).trans (hc j hj)⟩
  have := into_calls (m := m) (L := L) (da := fun i => (da i : Int)) (db := fun i => (db i : Int)) (nx := nrL n da db) (wx := wsL m n da db) (by omega) (by omega) hL ⟨rfl, rfl⟩ (fun pre x hlen b W h => by
   have iw := ws_inv (m := m) (da := fun i => da (pre.getD i 0)) (db := fun i => db (pre.getD i 0)) (fun _ => false) hn hnm (fun _ => ha _) (fun _ => hb _) pre.length
   rw [nrL_snoc, wsL_snoc]
   exact dep_done false _ hn hnm (ha x) (hb x) iw.1 iw.2.1 (by omega) b W h) b ca cb A B W hacc (hat hA) (hat hB)
  rw [nrL_range, wsL_range] at this
  exact this
 ·
  unfold pN
  by_cases c : nrN n da db L = true
  ·
   rw [c] at h
   rw [if_pos c]
   refine (round_nar b m _ _ W h (by omega) (by omega)).mono ?_
   rintro e w' ⟨rfl, rfl⟩
   exact ⟨by rw [hnm], Below.refl _ _⟩
  ·
   have c' : nrN n da db L = false := by simpa using c
   rw [c'] at h
   rw [if_neg c]
   exact round_done hn hnm ix.1 ix.2.1 (ix.2.2.2.2 c') hsm.1 b _ W h
theorem val_seqD {n : Nat} {da db : Nat → Nat} (hn : Wd n) (ha : ∀ i, da i < 18446744073709551616) (hb : ∀ i, db i < 18446744073709551616) : ∀ L : Nat, L ≤ 400 → ∃ v : Nat → Bool × List Int × Int, v 0 = (false, [], 0) ∧ (∀ i, i < L → (kindN n (da i) == 2 || kindN n (db i) == 2) = true → v (i + 1) = v i) ∧
  (∀ i, i < L → (kindN n (da i) == 2 || kindN n (db i) == 2) = false → ∃ K, ∀ k, K ≤ k → ∃ (p1 p2 p3 : Bool) (l1 l2 l3 : List Int) (E1 E2 E3 : Int), verniertop_valOf.f k (kindN n (da i)) (nP n (da i)) (sP n (da i)) (fP n (da i) : Int) = some (p1, l1, E1) ∧ verniertop_valOf.f k (kindN n (db i)) (nP n (db i)) (sP n (db i)) (fP n (db i) : Int) = some (p2, l2, E2) ∧ verniertop_times.f k p1 l1 E1 p2 l2 E2 = some (p3, l3, E3) ∧ verniertop_plus.f k (v i).1 (v i).2.1 (v i).2.2 p3 l3 E3 = some ((v (i + 1)).1, (v (i + 1)).2.1, (v (i + 1)).2.2)) ∧
  ∀ i, i ≤ L → VR (UU n) (v i).1 (v i).2.1 (v i).2.2 (smN n da db (fun _ => false) i * 2 ^ 126)
 | 0, _ => by
  refine ⟨fun _ => (false, [], 0), rfl, fun i h => absurd h (by omega), fun i h => absurd h (by omega), fun i hi => ?_⟩
  obtain rfl : i = 0 := by omega
  show VR (UU n) false [] 0 (0 * 2 ^ 126)
  rw [Int.zero_mul]
  exact VR.zero (by unfold UU; omega)
 | L + 1, hL => by
  obtain ⟨v, v0, v1, v2, v3⟩ := val_seqD hn ha hb L (by omega)
  have hv := v3 L (Nat.le_refl _)
  by_cases hnar : (kindN n (da L) == 2 || kindN n (db L) == 2) = true
  ·
   have hz : smN n da db (fun _ => false) (L + 1) = smN n da db (fun _ => false) L := by
    have h1 : ¬ (kindN n (da L) = 1 ∧ kindN n (db L) = 1) := by
     rw [Bool.or_eq_true, beq_iff_eq, beq_iff_eq] at hnar
     omega
    show smN n da db (fun _ => false) L + sgD n (da L) (db L) false = _
    have h2 : sgD n (da L) (db L) false = 0 := by
     unfold sgD
     rw [units_none h1]
     unfold sgV
     split <;> rfl
    rw [h2, Int.add_zero]
   refine ⟨fun i => if i ≤ L then v i else v L, by simp [v0], fun i hi h => ?_, fun i hi h => ?_, fun i hi => ?_⟩
   ·
    rcases Nat.lt_or_ge i L with c | c
    ·
     simp only [if_pos (show i ≤ L by omega), if_pos (show i + 1 ≤ L by omega)]; exact v1 i c h
    ·
     obtain rfl : i = L := by omega
     simp only [if_pos (Nat.le_refl i), if_neg (show ¬ i + 1 ≤ i by omega)]
   ·
    rcases Nat.lt_or_ge i L with c | c
    ·
     simp only [if_pos (show i ≤ L by omega), if_pos (show i + 1 ≤ L by omega)]; exact v2 i c h
    ·
     obtain rfl : i = L := by omega
     rw [hnar] at h; cases h
   ·
    rcases Nat.lt_or_ge i (L + 1) with c | c
    ·
     simp only [if_pos (show i ≤ L by omega)]; exact v3 i (by omega)
    ·
     obtain rfl : i = L + 1 := by omega
     simp only [if_neg (show ¬ L + 1 ≤ L by omega)]
     rw [hz]
     exact hv
  ·
   have hnf : (kindN n (da L) == 2 || kindN n (db L) == 2) = false := by simpa using hnar
   obtain ⟨E1, E2, p1, p2, p3, p4⟩ := prod_ev hn (ha L) (hb L)
   have b1 := (sm_small (m := n / 4) hn (by unfold Wd at hn; omega) (sm_abs (fun _ => false) hn ha hb (show L ≤ 1048576 by omega))).2
   have b2 : (sgD n (da L) (db L) false).natAbs * 2 ^ 126 < 16777216 ^ 60 := by
    refine (sm_small (m := n / 4) hn (by unfold Wd at hn; omega) (S := sgD n (da L) (db L) false) ?_).2
    unfold sgD
    rw [sgV_abs]
    exact Nat.le_trans (Nat.le_of_lt (units_lt hn (ha L) (hb L))) (Nat.le_mul_of_pos_left _ (by decide))
   have e80 : 16777216 ^ 60 ≤ 16777216 ^ 80 := Nat.pow_le_pow_right (by decide) (by decide)
   have na126 : ∀ x : Int, (x * 2 ^ 126).natAbs = x.natAbs * 2 ^ 126 := fun x => by rw [Int.natAbs_mul]; rfl
   have p5 := p4 false
   rw [Bool.bne_false] at p5
   obtain ⟨pn, pl, pE, pe, pv⟩ := plus_ev (by unfold UU; have := hn.le; omega) hv p5 (by rw [na126]; exact Nat.lt_of_lt_of_le b1 e80) (by rw [na126]; exact Nat.lt_of_lt_of_le b2 e80)
   refine ⟨fun i => if i ≤ L then v i else (pn, pl, pE), by simp [v0], fun i hi h => ?_, fun i hi h => ?_, fun i hi => ?_⟩
   ·
    rcases Nat.lt_or_ge i L with c | c
    ·
     simp only [if_pos (show i ≤ L by omega), if_pos (show i + 1 ≤ L by omega)]; exact v1 i c h
    ·
     obtain rfl : i = L := by omega
     rw [hnf] at h; cases h
   ·
    rcases Nat.lt_or_ge i L with c | c
    ·
     simp only [if_pos (show i ≤ L by omega), if_pos (show i + 1 ≤ L by omega)]; exact v2 i c h
    ·
     obtain rfl : i = L := by omega
     simp only [if_pos (Nat.le_refl i), if_neg (show ¬ i + 1 ≤ i by omega)]
     obtain ⟨K1, hK1⟩ := Ev.both p1 p2
     obtain ⟨K2, hK2⟩ := Ev.both p3 pe
     exact ⟨K1 + K2, fun k hk => ⟨_, _, _, _, _, _, _, _, _, (hK1 k (by omega)).1, (hK1 k (by omega)).2, (hK2 k (by omega)).1, (hK2 k (by omega)).2⟩⟩
   ·
    rcases Nat.lt_or_ge i (L + 1) with c | c
    ·
     simp only [if_pos (show i ≤ L by omega)]; exact v3 i (by omega)
    ·
     obtain rfl : i = L + 1 := by omega
     simp only [if_neg (show ¬ L + 1 ≤ L by omega)]
     have e : smN n da db (fun _ => false) (L + 1) * 2 ^ 126 = smN n da db (fun _ => false) L * 2 ^ 126 + sgD n (da L) (db L) false * 2 ^ 126 := by
      rw [← Int.add_mul]; rfl
     rw [e]
     exact pv
theorem dots_ok {m n L at_ : Nat} {da db : Nat → Nat} (hn : Wd n) (hnm : n = 4 * m) (ha : ∀ i, da i < 18446744073709551616) (hb : ∀ i, db i < 18446744073709551616) (hL : L ≤ 400) (hat : at_ ≤ L) :
  ∃ (kf : Nat) (v : Nat → Bool × List Int × Int),
   RunD kf m L at_ (fun i => (da i : Int)) (fun i => (db i : Int)) (nrN n da db) (fun i => kindN n (da i)) (fun i => kindN n (db i)) (fun i => sP n (da i)) (fun i => sP n (db i)) (fun i => (fP n (da i) : Int)) (fun i => (fP n (db i) : Int)) (fun i => nP n (da i)) (fun i => nP n (db i)) (fun i => (v i).1) (fun i => (v i).2.1) (fun i => (v i).2.2) (pN n da db L : Int) := by
 have g1 := hn.ge
 have g2 := hn.le
 have h4 : ((n : Nat) : Int) = 4 * (m : Int) := by omega
 obtain ⟨v, v0, v1, v2, v3⟩ := val_seqD hn ha hb L hL
 obtain ⟨Kv, hKv⟩ := ev_all L (Q := fun i k => (kindN n (da i) == 2 || kindN n (db i) == 2) = false → ∃ (p1 p2 p3 : Bool) (l1 l2 l3 : List Int) (E1 E2 E3 : Int), verniertop_valOf.f k (kindN n (da i)) (nP n (da i)) (sP n (da i)) (fP n (da i) : Int) = some (p1, l1, E1) ∧ verniertop_valOf.f k (kindN n (db i)) (nP n (db i)) (sP n (db i)) (fP n (db i) : Int) = some (p2, l2, E2) ∧ verniertop_times.f k p1 l1 E1 p2 l2 E2 = some (p3, l3, E3) ∧ verniertop_plus.f k (v i).1 (v i).2.1 (v i).2.2 p3 l3 E3 = some ((v (i + 1)).1, (v (i + 1)).2.1, (v (i + 1)).2.2)) (fun i hi => by
   by_cases c : (kindN n (da i) == 2 || kindN n (db i) == 2) = false
   ·
    obtain ⟨K, hK⟩ := v2 i hi c
    exact ⟨K, fun k hk _ => hK k hk⟩
   ·
    exact ⟨0, fun k _ h => absurd h c⟩)
 have hdec : ∀ x : Nat, x < 18446744073709551616 → Ev (fun k => vernierref06_Decode.f k (n : Int) (x : Int)) (kindN n x, nP n x, sP n x, (fP n x : Int)) := fun x hx => by
  have := Decodes_ev hn hx
  rw [means_eq] at this
  exact Ev.bind this (Ev.now _)
 obtain ⟨Kd, hKd⟩ := ev_all L (Q := fun i k => vernierref06_Decode.f k (n : Int) (da i : Int) = some (kindN n (da i), nP n (da i), sP n (da i), (fP n (da i) : Int)) ∧ vernierref06_Decode.f k (n : Int) (db i : Int) = some (kindN n (db i), nP n (db i), sP n (db i), (fP n (db i) : Int))) (fun i _ => Ev.both (hdec _ (ha i)) (hdec _ (hb i)))
 have hPw : Ev (fun k => vernierref05_Power.f k (wrap64 ((n : Int) - 1))) ((2 ^ (n - 1) : Nat) : Int) := by
  rw [show wrap64 ((n : Int) - 1) = ((n - 1 : Nat) : Int) by rw [w64 (by omega) (by omega)]; omega]
  exact Power_ev (by omega)
 obtain ⟨Kp, hKp⟩ := hPw
 have hsm := sm_small hn hnm (sm_abs (fun _ => false) hn ha hb (show L ≤ 1048576 by omega))
 refine ⟨Kv + Kd + Kp, v, {
   m2 := by omega
   m16 := by omega
   small := hL
   at0 := hat
   d1 := fun i hi => by rw [← h4]; exact (hKd _ (by omega) i hi).1
   d2 := fun i hi => by rw [← h4]; exact (hKd _ (by omega) i hi).2
   nar0 := rfl
   nars := fun i hi => rfl
   v0 := by rw [v0]; exact ⟨rfl, rfl, rfl⟩
   vs := fun i hi h => by rw [v1 i hi h]; exact ⟨rfl, rfl, rfl⟩
   vp := fun i hi h => hKv _ (by omega) i hi h
   isnar := fun c => by
    unfold pN
    rw [if_pos c, ← h4]; exact hKp _ (by omega)
   near := fun c W A cc hC hc => by
    unfold pN
    rw [if_neg (by rw [c]; decide), ← h4]
    exact near_done hn (v3 L (Nat.le_refl _)) hsm.2 W A cc hC hc }⟩
end Go.Proofs.Ytjlaijaadclghaa.M
