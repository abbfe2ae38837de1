/- What the reference's naturals compute, third part: quotient and rest. -/
import Derived.Test.YtcnpnnodgfpheaaF6
import Derived.Test.YtcnpnnodgfpheaaR00b
namespace Go.Proofs.Ytcnpnnodgfpheaa.M
open Go.RowKit Go.Proofs.YtcnpnnodgfpheaaW.PrintWords Go.Proofs.YtcnpnnodgfpheaaW.PrintLast Go.Proofs.YtcnpnnodgfpheaaW.PrintMore Go.Proofs.Ytcnpnnodgfpheaa.F
set_option linter.unusedVariables false
set_option linter.unusedSimpArgs false

theorem digs_len_mono {a b : Nat} (h : a ≤ b) : (digs a).length ≤ (digs b).length := digs_length_le (Nat.lt_of_le_of_lt h (digs_lt b))
theorem cmp_le0 (x y : Nat) : (cmp x y ≤ 0) ↔ x ≤ y := by unfold cmp; split <;> (try split) <;> omega
theorem DivMod_l1 {y R : Nat} (X Q : List Int) {j : Nat} (hj : j < Q.length) (hj2 : j < 1000000000) (hly : ∀ m, m ≤ 16777216 → (digs (y * m)).length < 1000000000) (hR : (digs R).length < 1000000000) {res : List Int × List Int}
    (hnext : Ev (fun k => vernierref00_DivMod.l0 k X (digs y) (Q.set j ((R / y : Nat) : Int)) (digs (R % y)) ((j : Int) - 1)) res) :
    ∀ d lo hi : Nat, hi - lo ≤ d → lo < hi → hi ≤ 16777216 → lo * y ≤ R → R < hi * y → Ev (fun k => vernierref00_DivMod.l1 k X (digs y) Q (digs R) (j : Int) (lo : Int) (hi : Int)) res
  | 0, lo, hi, hd, hlt, _, _, _ => by omega
  | d + 1, lo, hi, hd, hlt, hm, h1, h2 => by
    have hy : (digs y).length < 1000000000 := by have := hly 1 (by decide); rw [Nat.mul_one] at this; exact this
    have A1 := Aside0.mk h1
    have A2 := Aside0.mk h2
    have A3 := Aside0.mk hR
    have A4 := Aside0.mk hy
    have A5 := Aside0.mk hnext
    have A6 := Aside0.mk hly
    clear h1 h2 hR hy hnext hly
    by_cases g : hi - lo > 1
    · obtain ⟨m, hm0⟩ : ∃ m, m = (lo + hi) / 2 := ⟨_, rfl⟩
      have e : wrap64 (Int.tdiv (wrap64 ((lo : Int) + hi)) 2) = (m : Int) := by rw [w64 (x := (lo : Int) + hi) (by omega) (by omega), tdiv_nn (by omega), w64 (by omega) (by omega)]; omega
      have hml : m ≤ 16777216 := by omega
      have hd1 : hi - m ≤ d := by omega
      have hd2 : m < hi := by omega
      have hd3 : m - lo ≤ d := by omega
      have hd4 : lo < m := by omega
      have hd5 : m < 16777216 := by omega
      refine Ev.step (f := fun k => (vernierref00_times.f k (digs y) (m : Int)).bind fun t570 => ((vernierref00_Cmp.f k t570 (digs R)).bind fun t573 => (if t573 ≤ 0 then (vernierref00_DivMod.l1 k X (digs y) Q (digs R) (j : Int) (m : Int) (hi : Int)) else (vernierref00_DivMod.l1 k X (digs y) Q (digs R) (j : Int) (lo : Int) (m : Int))))) (fun k => ?_) ?_
      · simp only [vernierref00_DivMod.l1]
        rw [if_pos (by rw [w64 (by omega) (by omega)]; omega), e]
      · refine Ev.bind (times_ev hd5 A4.out) (Ev.bind (Cmp_ev (Nat.lt_trans (A6.out m hml) (by decide)) (Nat.lt_trans A3.out (by decide))) ?_)
        by_cases hc : y * m ≤ R
        · exact Ev.congr (fun k => if_pos ((cmp_le0 _ _).mpr hc)) (DivMod_l1 X Q hj hj2 A6.out A3.out A5.out d m hi hd1 hd2 hm (by rw [Nat.mul_comm]; exact hc) A2.out)
        · exact Ev.congr (fun k => if_neg (fun g2 => hc ((cmp_le0 _ _).mp g2))) (DivMod_l1 X Q hj hj2 A6.out A3.out A5.out d lo m hd3 hd4 hml A1.out (by rw [Nat.mul_comm m y]; exact Nat.lt_of_not_le hc))
    · have eh : hi = lo + 1 := by omega
      subst eh
      have hq : R / y = lo := Nat.div_eq_of_lt_le A1.out A2.out
      have hr : R % y = R - y * lo := by
        have h_ := Nat.div_add_mod R y
        rw [hq] at h_
        exact (Nat.sub_eq_of_eq_add (h_.symm.trans (Nat.add_comm _ _))).symm
      have hnext := A5.out
      rw [hq, hr] at hnext
      have A7 := Aside0.mk hnext
      have A8 := Aside0.mk hq
      have A9 := Aside0.mk hr
      clear hnext hq hr
      have hml : lo ≤ 16777216 := by omega
      refine Ev.step (f := fun k => (vernierref00_times.f k (digs y) (lo : Int)).bind fun t564 => ((vernierref00_Sub.f k (digs R) t564).bind fun t567 => (vernierref00_DivMod.l0 k X (digs y) (Q.set j (lo : Int)) t567 ((j : Int) - 1)))) (fun k => ?_) ?_
      · simp only [vernierref00_DivMod.l1]
        rw [if_neg (by rw [w64 (by omega) (by omega)]; omega), if_pos (by omega), if_pos (by omega), w64 (x := (j : Int) - 1) (by omega) (by omega), Int.toNat_natCast]
      · exact Ev.bind (times_ev (by omega) A4.out) (Ev.bind (Sub_ev (by rw [Nat.mul_comm]; exact A1.out) A3.out) A7.out)
theorem dm_num {y : Nat} (c a : Nat) (hy : 0 < y) : (c + 16777216 * a) / y = (c + 16777216 * (a % y)) / y + 16777216 * (a / y) ∧ (c + 16777216 * a) % y = (c + 16777216 * (a % y)) % y := by
  have hdv : c + 16777216 * a = (c + 16777216 * (a % y)) + y * (16777216 * (a / y)) := by
    have h1 := Nat.div_add_mod a y
    have h2 : y * (16777216 * (a / y)) = 16777216 * (y * (a / y)) := Nat.mul_left_comm _ _ _
    rw [h2]
    generalize y * (a / y) = u at h1
    generalize a % y = r at h1
    omega
  constructor
  · conv => lhs; rw [hdv, Nat.add_mul_div_left _ _ hy]
  · conv => lhs; rw [hdv, Nat.add_mul_mod_self_left]
theorem dm_lt {y c r : Nat} (hc : c < 16777216) (hr : r < y) : c + 16777216 * r < 16777216 * y := by omega
theorem DivMod_step {y : Nat} (hy : 0 < y) (hly : ∀ m, m ≤ 16777216 → (digs (y * m)).length < 1000000000) (X Q : List Int) {j c r : Nat} (hX : X.length < 1000000) (hjX : j < X.length) (hj : j < Q.length) (hc : c < 16777216) (hrd : X.getD j 0 = (c : Int)) (hr : r < y) {res : List Int × List Int}
    (hnext : Ev (fun k => vernierref00_DivMod.l0 k X (digs y) (Q.set j (((c + 16777216 * r) / y : Nat) : Int)) (digs ((c + 16777216 * r) % y)) ((j : Int) - 1)) res) :
    Ev (fun k => vernierref00_DivMod.l0 k X (digs y) Q (digs r) (((j + 1 : Nat) : Int) - 1)) res := by
  have hR := dm_lt hc hr
  have hdg : Dg ((c : Int) :: digs r) := Dg.cons ⟨by omega, by omega⟩ (digs_dg r)
  have hlr : (digs r).length < 1000000000 := by
    have := hly 1 (by decide)
    rw [Nat.mul_one] at this
    exact Nat.lt_of_le_of_lt (digs_len_mono (Nat.le_of_lt hr)) this
  have hnv : nv ((c : Int) :: digs r) = c + 16777216 * r := by simp only [nv, nv_digs, Int.toNat_natCast]
  have hcut := Cut_ev hdg (by simp only [List.length_cons]; clear hnv hR hly; omega)
  rw [hnv] at hcut
  generalize c + 16777216 * r = R at hcut hnext hR
  have hlR : (digs R).length < 1000000000 := Nat.lt_of_le_of_lt (digs_len_mono (by rw [Nat.mul_comm]; exact Nat.le_of_lt hR)) (hly 16777216 (Nat.le_refl _))
  refine Ev.step (f := fun k => (vernierref00_Cut.f k ((c : Int) :: digs r)).bind fun t560 => (vernierref00_DivMod.l1 k X (digs y) Q t560 (j : Int) ((0 : Nat) : Int) ((16777216 : Nat) : Int))) (fun k => ?_) ?_
  · simp only [vernierref00_DivMod.l0]
    have e1 : (((j + 1 : Nat) : Int) - 1) = (j : Int) := by clear hR; omega
    rw [e1, if_pos (by clear hR; omega), if_pos (by clear hR; omega), if_pos (by clear hR; omega), rd_nat, hrd]
    simp only [Option.bind_some, List.length_cons, List.length_nil, List.cons_append, List.nil_append]
    rw [if_pos (by clear hR; omega)]
    rfl
  · refine Ev.bind hcut (DivMod_l1 X Q hj (by clear hR; omega) hly hlR hnext 16777216 0 16777216 (Nat.le_refl _) (by decide) (Nat.le_refl _) ?_ hR)
    rw [Nat.zero_mul]; exact Nat.zero_le _
theorem DivMod_l0 {x y : Nat} (hy : 0 < y) (hly : ∀ m, m ≤ 16777216 → (digs (y * m)).length < 1000000000) (hx : (digs x).length < 1000000) : ∀ i : Nat, i ≤ (digs x).length → ∀ Q : List Int, Dg Q → Q.length = (digs x).length → nv Q = 16777216 ^ i * (x / 16777216 ^ i / y) →
    Ev (fun k => vernierref00_DivMod.l0 k (digs x) (digs y) Q (digs (x / 16777216 ^ i % y)) ((i : Int) - 1)) (digs (x / y), digs (x % y))
  | 0, hi, Q, hQ, hl, hv => by
    have hv' : nv Q = x / y := by rw [hv]; simp
    refine Ev.step (f := fun k => (vernierref00_Cut.f k Q).bind fun t550 => some (t550, digs (x % y))) (fun k => ?_) ?_
    · simp only [vernierref00_DivMod.l0]
      rw [if_neg (by decide), Nat.pow_zero, Nat.div_one]
    · have := Cut_ev hQ (by rw [hl]; exact Nat.lt_trans hx (by decide))
      rw [hv'] at this
      exact Ev.bind this (Ev.now _)
  | j + 1, hi, Q, hQ, hl, hv => by
    have hc : x / 16777216 ^ j % 16777216 < 16777216 := Nat.mod_lt _ (by decide)
    have hxj : x / 16777216 ^ j = x / 16777216 ^ j % 16777216 + 16777216 * (x / 16777216 ^ (j + 1)) := by rw [div_succ, Nat.mod_add_div]
    have hrd := digs_getD j x
    have hry : x / 16777216 ^ (j + 1) % y < y := Nat.mod_lt _ hy
    obtain ⟨hq, hm⟩ := dm_num (x / 16777216 ^ j % 16777216) (x / 16777216 ^ (j + 1)) hy
    rw [← hxj] at hq hm
    have hqs : (x / 16777216 ^ j % 16777216 + 16777216 * (x / 16777216 ^ (j + 1) % y)) / y < 16777216 := by rw [Nat.div_lt_iff_lt_mul hy]; exact dm_lt hc hry
    have hd : (0 : Int) ≤ (((x / 16777216 ^ j % 16777216 + 16777216 * (x / 16777216 ^ (j + 1) % y)) / y : Nat) : Int) ∧ (((x / 16777216 ^ j % 16777216 + 16777216 * (x / 16777216 ^ (j + 1) % y)) / y : Nat) : Int) < 16777216 := ⟨Int.natCast_nonneg _, Int.ofNat_lt.mpr hqs⟩
    have hjQ : j < Q.length := by rw [hl]; exact hi
    have hset := nv_set hQ hjQ hd
    have hz : Q.getD j 0 = 0 := by
      rw [nv_getD hQ, hv, Nat.pow_succ, Nat.mul_assoc, Nat.mul_div_cancel_left _ (pw_pos j), Nat.mul_mod_right]; rfl
    have e3 : (0 : Int).toNat = 0 := rfl
    have e2 : 16777216 ^ (j + 1) * (x / 16777216 ^ (j + 1) / y) = 16777216 ^ j * (16777216 * (x / 16777216 ^ (j + 1) / y)) := by rw [Nat.pow_succ 16777216 j, Nat.mul_assoc]
    rw [hz, hv, e3, Nat.mul_zero, Nat.add_zero, e2, Int.toNat_natCast, ← Nat.mul_add, Nat.add_comm (16777216 * (x / 16777216 ^ (j + 1) / y)), ← hq] at hset
    have hnext := DivMod_l0 hy hly hx j (Nat.le_of_lt hi) _ (hQ.set j hd) (by rw [List.length_set]; exact hl) hset
    rw [hm] at hnext
    exact DivMod_step hy hly (digs x) Q hx hi hjQ hc hrd hry hnext
theorem DivMod_ev {x y : Nat} (hy : 0 < y) (hly : ∀ m, m ≤ 16777216 → (digs (y * m)).length < 1000000000) (hx : (digs x).length < 1000000) : Ev (fun k => vernierref00_DivMod.f k (digs x) (digs y)) (digs (x / y), digs (x % y)) := by
  have h := DivMod_l0 hy hly hx (digs x).length (Nat.le_refl _) (List.replicate (digs x).length 0) (Dg.replicate _) (by simp) (by rw [nv_replicate, Nat.div_eq_of_lt (digs_lt x), Nat.zero_div, Nat.mul_zero])
  rw [Nat.div_eq_of_lt (digs_lt x), Nat.zero_mod, digs_zero] at h
  unfold vernierref00_DivMod.f
  refine Ev.congr (fun k => if_pos (by omega)) (Ev.congr (fun k => if_pos (by omega)) ?_)
  rw [w64 (by omega) (by omega), Int.toNat_natCast]
  exact h
end Go.Proofs.Ytcnpnnodgfpheaa.M
