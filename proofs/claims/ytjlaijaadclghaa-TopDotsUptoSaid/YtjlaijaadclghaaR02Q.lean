/- What the reference's naturals compute, second .. -/
import Derived.Test.YtjlaijaadclghaaF16Q
import Derived.Test.YtjlaijaadclghaaR04aQ
import Derived.Test.YtjlaijaadclghaaB1Q
import Derived.Test.YtjlaijaadclghaaF0Q
namespace Go.Proofs.Ytjlaijaadclghaa.M
open RowKit YtjlaijaadclghaaW PrintWords PrintLast PrintMore F
set_option linter.all false
theorem nv_zero_above {l : List Int} (h : Dg l) {n j : Nat} (hv : nv l < 16777216 ^ n) (hj : n ≤ j) : l.getD j 0 = 0 := by
 rw [nv_getD h]
 have : 16777216 ^ n ≤ 16777216 ^ j := Nat.pow_le_pow_right (by decide) hj
 rw [Nat.div_eq_of_lt (by omega)]
 rfl
theorem getD_set_ne {l : List Int} {i j : Nat} {d : Int} (h : i ≠ j) : (l.set i d).getD j 0 = l.getD j 0 := by
 rw [List.getD_eq_getElem?_getD, List.getD_eq_getElem?_getD, List.getElem?_set_ne h]
theorem Mul_l1 {x y : Nat} (hlx : (digs x).length < 100000000) (hly : (digs y).length < 100000000) {r : List Int} {i : Nat} (hi : i < (digs x).length)
  (next : ∀ out : List Int, Dg out → out.length = (digs x).length + (digs y).length → nv out = (x % 16777216 ^ (i + 1)) * y → Ev (fun k => vernierref04_Mul.l0 k (digs x) (digs y) out ((i + 1 : Nat) : Int)) r) :
  ∀ (d j c : Nat) (out : List Int), (digs y).length - j ≤ d → j ≤ (digs y).length → c < 16777216 → Dg out → out.length = (digs x).length + (digs y).length →
   (∀ m, i + (digs y).length ≤ m → out.getD m 0 = 0) →
   nv out + 16777216 ^ (i + j) * c = (x % 16777216 ^ i) * y + 16777216 ^ i * (x / 16777216 ^ i % 16777216) * (y % 16777216 ^ j) →
   (∀ m, j ≤ m → m < (digs y).length → True) →
   Ev (fun k => vernierref04_Mul.l1 k (digs x) (digs y) out (i : Int) (c : Int) (j : Int)) r := by
 intro d
 have ba : x / 16777216 ^ i % 16777216 < 16777216 := Nat.mod_lt _ (by decide)
 have hax := digs_getD i x
 have hmx := mod_succ x i
 generalize x / 16777216 ^ i % 16777216 = a at *
 induction d with
 | zero =>
  intro j c out hd hj hc hdg hlen hz hv _
  obtain rfl : j = (digs y).length := by omega
  have hyl := digs_lt y
  rw [Nat.mod_eq_of_lt hyl] at hv
  refine Ev.step (f := fun k => vernierref04_Mul.l0 k (digs x) (digs y) (out.set (i + (digs y).length) (c : Int)) ((i + 1 : Nat) : Int)) (fun k => ?_) (next _ (hdg.set _ (by omega)) (by simp [hlen]) ?_)
  ·
   simp only [vernierref04_Mul.l1]
   rw [if_neg (by omega), w64 (x := (i : Int) + ((digs y).length : Int)) (by omega) (by omega), if_pos (by omega), if_pos (by omega), w64 (by omega) (by omega)]
   rfl
  ·
   have h1 := nv_set hdg (i := i + (digs y).length) (d := (c : Int)) (by omega) (by omega)
   rw [hz _ (Nat.le_refl _)] at h1
   have e0 : (0 : Int).toNat = 0 := rfl
   rw [Int.toNat_natCast, e0, Nat.mul_zero, Nat.add_zero] at h1
   rw [h1, hv, hmx, Nat.add_mul]
 | succ d ih =>
  intro j c out hd hj hc hdg hlen hz hv _
  by_cases hgo : j < (digs y).length
  ·
   have hby := digs_getD j y
   have bb : y / 16777216 ^ j % 16777216 < 16777216 := Nat.mod_lt _ (by decide)
   have hmy := mod_succ y j
   have hg := hdg.getD (i + j)
   have hns := fun d hd => nv_set hdg (i := i + j) (d := d) (by omega) hd
   generalize y / 16777216 ^ j % 16777216 = b at *
   obtain ⟨o, ho⟩ := Int.eq_ofNat_of_zero_le hg.1
   rw [ho] at hns hg
   have hab : a * b ≤ 16777215 * 16777215 := Nat.mul_le_mul (by omega) (by omega)
   refine Ev.step (f := fun k => vernierref04_Mul.l1 k (digs x) (digs y) (out.set (i + j) (((o + a * b + c) % 16777216 : Nat) : Int)) (i : Int) (((o + a * b + c) / 16777216 : Nat) : Int) ((j + 1 : Nat) : Int)) (fun k => ?_) ?_
   ·
    simp only [vernierref04_Mul.l1]
    have em : (a : Int) * (b : Int) = ((a * b : Nat) : Int) := by simp
    have ei : (i : Int) + (j : Int) = ((i + j : Nat) : Int) := by simp
    rw [if_pos (by omega), ei, w64 (x := ((i + j : Nat) : Int)) (by omega) (by omega), if_pos (by omega), if_pos (by omega), if_pos (by omega), if_pos (by omega), if_pos (by omega)]
    simp only [rd_nat, hax, hby, ho, em]
    rw [w64 (x := ((a * b : Nat) : Int)) (by omega) (by omega), w64 (x := (o : Int) + ((a * b : Nat) : Int)) (by omega) (by omega), w64 (x := (o : Int) + ((a * b : Nat) : Int) + (c : Int)) (by omega) (by omega), tmod_nn (by omega), tdiv_nn (by omega), w64 (by omega) (by omega), w64 (by omega) (by omega)]
    rfl
   ·
    refine ih (j + 1) ((o + a * b + c) / 16777216) _ (by omega) (by omega) (by omega) (hdg.set _ (by omega)) (by simp [hlen]) (fun m hm => ?_) ?_ (fun _ _ _ => trivial)
    ·
     rw [getD_set_ne (by omega)]; exact hz m hm
    ·
     have h1 := hns (((o + a * b + c) % 16777216 : Nat) : Int) (by omega)
     rw [Int.toNat_natCast, Int.toNat_natCast] at h1
     rw [hmy]
     have e2 : 16777216 ^ (i + j) * ((o + a * b + c) % 16777216) + 16777216 ^ (i + (j + 1)) * ((o + a * b + c) / 16777216) = 16777216 ^ (i + j) * (o + a * b + c) := by
      rw [← Nat.add_assoc i j 1, Nat.pow_succ, Nat.mul_assoc, ← Nat.mul_add, Nat.mod_add_div]
     have e3 : 16777216 ^ (i + j) = 16777216 ^ i * 16777216 ^ j := Nat.pow_add ..
     generalize (o + a * b + c) % 16777216 = u at *
     generalize (o + a * b + c) / 16777216 = v at *
     generalize 16777216 ^ (i + (j + 1)) = q at *
     rw [e3] at e2 hv h1
     generalize 16777216 ^ i = p at *
     generalize 16777216 ^ j = p2 at *
     generalize nv out = n0 at *
     generalize nv (out.set _ _) = n1 at *
     grind
  ·
   exact ih j c out (by omega) hj hc hdg hlen hz hv (fun _ _ _ => trivial)
theorem Mul_l0 {x y : Nat} (hlx : (digs x).length < 100000000) (hly : (digs y).length < 100000000) (hy0 : 0 < y) : ∀ (d i : Nat) (out : List Int), (digs x).length - i ≤ d → i ≤ (digs x).length → Dg out → out.length = (digs x).length + (digs y).length →
  nv out = (x % 16777216 ^ i) * y → Ev (fun k => vernierref04_Mul.l0 k (digs x) (digs y) out (i : Int)) (digs (x * y)) := by
 intro d
 induction d with
 | zero =>
  intro i out hd hi hdg hlen hv
  have h1 := lt_pow_of_len (x := x) (i := i) (by omega)
  rw [Nat.mod_eq_of_lt h1] at hv
  refine Ev.step (f := fun k => (vernierref04_Cut.f k out).bind fun t => some t) (fun k => ?_) ?_
  ·
   simp only [vernierref04_Mul.l0]; rw [if_neg (by omega)]
  ·
   rw [← hv]; exact Ev.bind (Cut_ev hdg (by omega)) (Ev.now _)
 | succ d ih =>
  intro i out hd hi hdg hlen hv
  by_cases hgo : i < (digs x).length
  ·
   refine Ev.step (f := fun k => vernierref04_Mul.l1 k (digs x) (digs y) out (i : Int) ((0 : Nat) : Int) ((0 : Nat) : Int)) (fun k => ?_) (Mul_l1 hlx hly hgo (fun out' h1 h2 h3 => ih (i + 1) out' (by omega) (by omega) h1 h2 h3) _ 0 0 out (Nat.le_refl _) (by omega) (by omega) hdg hlen (fun m hm => ?_) ?_ (fun _ _ _ => trivial))
   ·
    simp only [vernierref04_Mul.l0]; rw [if_pos (by omega)]; rfl
   ·
    refine nv_zero_above hdg (n := i + (digs y).length) ?_ hm
    rw [hv, Nat.pow_add]
    have h1 : x % 16777216 ^ i < 16777216 ^ i := Nat.mod_lt _ (pw_pos i)
    have h2 := digs_lt y
    exact Nat.mul_lt_mul'' h1 h2
   ·
    simp [hv, Nat.mod_one]
  ·
   exact ih i out (by omega) hi hdg hlen hv
theorem Mul_ev {x y : Nat} (hlx : (digs x).length < 100000000) (hly : (digs y).length < 100000000) : Ev (fun k => vernierref04_Mul.f k (digs x) (digs y)) (digs (x * y)) := by
 unfold vernierref04_Mul.f
 by_cases hx : x = 0
 ·
  subst hx
  refine Ev.congr (f := fun k => vernierref04_Mul.j0 k (digs 0) (digs y) true) (fun k => ?_) (Ev.step (f := fun _ => some []) (fun k => ?_) ?_)
  ·
   rw [if_pos (by simp [digs_zero])]
  ·
   simp [vernierref04_Mul.j0]
  ·
   rw [Nat.zero_mul]; exact Ev.now _
 ·
  have lx : 0 < (digs x).length := digs_length_pos.mpr (by omega)
  by_cases hy : y = 0
  ·
   subst hy
   refine Ev.congr (f := fun k => vernierref04_Mul.j0 k (digs x) (digs 0) true) (fun k => ?_) (Ev.step (f := fun _ => some []) (fun k => ?_) ?_)
   ·
    rw [if_neg (by omega)]; simp [digs_zero]
   ·
    simp [vernierref04_Mul.j0]
   ·
    rw [Nat.mul_zero]; exact Ev.now _
  ·
   have ly : 0 < (digs y).length := digs_length_pos.mpr (by omega)
   refine Ev.congr (f := fun k => vernierref04_Mul.j0 k (digs x) (digs y) false) (fun k => ?_) (Ev.step (f := fun k => vernierref04_Mul.l0 k (digs x) (digs y) (List.replicate ((digs x).length + (digs y).length) 0) ((0 : Nat) : Int)) (fun k => ?_) ?_)
   ·
    rw [if_neg (by omega)]
    have : ((((digs y).length : Int)) == 0) = false := by rw [beq_eq_false_iff_ne]; omega
    rw [this]
   ·
    simp only [vernierref04_Mul.j0]
    have e : ((digs x).length : Int) + ((digs y).length : Int) = (((digs x).length + (digs y).length : Nat) : Int) := by simp
    rw [if_neg (by simp), e, w64 (by omega) (by omega), if_pos (by omega), if_pos (by omega), Int.toNat_natCast]
    rfl
   ·
    exact Mul_l0 hlx hly (by omega) _ 0 _ (Nat.le_refl _) (by omega) (Dg.replicate _) (by simp) (by rw [nv_replicate]; simp [Nat.mod_one])
theorem pow24 (n : Nat) : 2 ^ (24 * n) = 16777216 ^ n := by rw [Nat.pow_mul]
theorem pow_split (k : Nat) : 2 ^ k = 16777216 ^ (k / 24) * 2 ^ (k % 24) := by rw [← pow24, ← Nat.pow_add, Nat.div_add_mod]
theorem two_lt (k : Nat) : 2 ^ (k % 24) < 16777216 := Nat.lt_of_lt_of_le (Nat.pow_lt_pow_right (by decide) (Nat.mod_lt k (show 0 < 24 by decide))) (by decide)
theorem digs_shift {x : Nat} (h : 0 < x) (n : Nat) : List.replicate n 0 ++ digs x = digs (x * 16777216 ^ n) := by
 refine eq_digs' ((Dg.replicate n).append (digs_dg x)) ?_ (Or.inr ?_)
 ·
  rw [nv_append, nv_replicate, List.length_replicate, nv_digs, Nat.zero_add, Nat.mul_comm]
 ·
  have h1 : 0 < (digs x).length := digs_length_pos.mpr h
  have h2 := digs_length_iff.mp (show (digs x).length - 1 < (digs x).length by omega)
  rw [List.length_append, List.length_replicate, show n + (digs x).length - 1 = n + ((digs x).length - 1) by omega, Nat.pow_add, Nat.mul_comm x]
  exact Nat.mul_le_mul_left _ h2
theorem Shl_ev {x k : Nat} (hlx : (digs x).length < 100000000) (hk : k < 1000000000) : Ev (fun n => vernierref04_Shl.f n (digs x) (k : Int)) (digs (x * 2 ^ k)) := by
 unfold vernierref04_Shl.f
 by_cases hx : x = 0
 ·
  subst hx
  refine Ev.congr (f := fun _ => some []) (fun n => ?_) ?_
  ·
   rw [if_pos (by simp [digs_zero])]
  ·
   rw [Nat.zero_mul]; exact Ev.now _
 ·
  have lx : 0 < (digs x).length := digs_length_pos.mpr (by omega)
  have e1 : wrap64 (Int.tdiv (k : Int) 24) = ((k / 24 : Nat) : Int) := by rw [tdiv_nn (by omega), w64 (by omega) (by omega)]; rfl
  have e2 : Int.tmod (k : Int) 24 = ((k % 24 : Nat) : Int) := by rw [tmod_nn (by omega)]; rfl
  have hb : (digs (x * 2 ^ (k % 24))).length ≤ (digs x).length + 1 := by
   refine digs_length_le ?_
   rw [Nat.pow_succ]
   exact Nat.mul_lt_mul'' (digs_lt x) (two_lt k)
  refine Ev.congr (f := fun n => (vernierref04_two.f n ((k % 24 : Nat) : Int)).bind fun t => (vernierref04_times.f n (digs x) t).bind fun u => if (List.replicate (k / 24) (0 : Int)).length + u.length < 17592186044416 then some (List.replicate (k / 24) (0 : Int) ++ u) else none) (fun n => ?_) ?_
  ·
   rw [if_neg (by omega), e1, e2, if_pos (by omega), if_pos (by omega), Int.toNat_natCast]
   rfl
  ·
   refine Ev.bind (two_ev (by omega)) (Ev.bind (times_ev (two_lt k) (by omega)) ?_)
   refine Ev.congr (f := fun _ => some _) (fun n => if_pos (by simp; omega)) ?_
   rw [digs_shift (Nat.mul_pos (by omega) (Nat.pow_pos (by decide)))]
   have : x * 2 ^ (k % 24) * 16777216 ^ (k / 24) = x * 2 ^ k := by rw [pow_split k, Nat.mul_assoc, Nat.mul_comm (2 ^ (k % 24))]
   rw [this]
   exact Ev.now _
end Go.Proofs.Ytjlaijaadclghaa.M

namespace Go.Proofs.Ytjlaijaadclghaa.M
open RowKit YtjlaijaadclghaaW PrintWords PrintLast PrintMore F
set_option linter.all false
def hi (s : Nat) : Int := ((s / 18446744073709551616 % 18446744073709551616 : Nat) : Int)
def lo (s : Nat) : Int := ((s % 18446744073709551616 : Nat) : Int)
def tw (h l : Nat) : Nat := h * 18446744073709551616 + l
theorem tw_lt {h l : Nat} (hh : h < 18446744073709551616) (hl : l < 18446744073709551616) : tw h l < 340282366920938463463374607431768211456 := by unfold tw; omega
theorem tw_eq {s : Nat} (h : s < 340282366920938463463374607431768211456) : tw (s / 18446744073709551616 % 18446744073709551616) (s % 18446744073709551616) = s := by unfold tw; omega
theorem p64 : (2 : Nat) ^ 64 = 18446744073709551616 := by decide
theorem p128 : (2 : Nat) ^ 128 = 340282366920938463463374607431768211456 := by decide
theorem len_le {x n : Nat} (h : x < 16777216 ^ n) (m : Nat) (hm : n < m) : (digs x).length < m := Nat.lt_of_le_of_lt (digs_length_le h) hm
theorem blen128 {ah al : Nat} (h0 : ah < 18446744073709551616) (h1 : al < 18446744073709551616) : blen (tw ah al) ≤ 128 := by
 have ha := tw_lt h0 h1
 rw [← p128] at ha
 rcases Nat.eq_zero_or_pos (tw ah al) with h | h
 ·
  rw [h]; decide
 ·
  have := blen_le h
  rcases Nat.lt_or_ge 128 (blen (tw ah al)) with h6 | h6
  ·
   have : 2 ^ 128 ≤ 2 ^ (blen (tw ah al) - 1) := Nat.pow_le_pow_right (by decide) (by omega)
   omega
  ·
   exact h6
end Go.Proofs.Ytjlaijaadclghaa.M
