/- The seventh layer: what the program cuts off .. -/
import Derived.Test.YtjlaijaadclghaaF9Q
import Derived.Test.YtjlaijaadclghaaF10Q
import Derived.Test.YtjlaijaadclghaaRndQ
import Derived.Test.YtjlaijaadclghaaTwinPQ
import Derived.Test.YtjlaijaadclghaaF11Q
import Derived.Test.YtjlaijaadclghaaF15Q
import Derived.Test.YtjlaijaadclghaaCod5Q
namespace Go.Proofs.Ytjlaijaadclghaa.M
open RowKit YtjlaijaadclghaaW PrintWords PrintLast PrintMore F
set_option linter.all false
theorem or_add' {a b n : Nat} (ha : a < 18446744073709551616) (hn : n ≤ 64) (hm : a % 2 ^ n = 0) (hb : b < 2 ^ n) : Go.bits .or .u64 (b : Int) (a : Int) = ((a + b : Nat) : Int) := by
 have h1 : 2 ^ n ≤ 2 ^ 64 := Nat.pow_le_pow_right (by decide) hn
 have h2 : (2 : Nat) ^ 64 = 18446744073709551616 := by decide
 rw [← or_add ha hn hm hb, or_nat ha (by omega), or_nat (by omega) ha, Nat.or_comm]
theorem under_eq {w b m : Nat} (hw : w < 340282366920938463463374607431768211456) (h1 : 1 ≤ m) (h2 : m ≤ 64) (hb : b < 2 ^ m) (rest : Bool) :
  round_under.f (hi w) (lo w) (b : Int) (m : Int) rest = some (hi (b * 2 ^ (128 - m) + w / 2 ^ m), lo (b * 2 ^ (128 - m) + w / 2 ^ m), rest || decide (w % 2 ^ m ≠ 0)) := by
 have hs := Shr_eq (ah := w / 18446744073709551616 % 18446744073709551616) (al := w % 18446744073709551616) (by omega) (by omega) m
 rw [tw_eq hw, Nat.min_eq_left (by omega)] at hs
 have e2 : twin_Shr.f (hi w) (lo w) (m : Int) = some (hi (w / 2 ^ m), lo (w / 2 ^ m), decide (w % 2 ^ m ≠ 0), none) := hs
 have e64 : (18446744073709551616 : Nat) = 2 ^ m * 2 ^ (64 - m) := by rw [← Nat.pow_add, show m + (64 - m) = 64 by omega]
 have e128 : (340282366920938463463374607431768211456 : Nat) = 2 ^ m * (2 ^ (64 - m) * 18446744073709551616) := by rw [← Nat.mul_assoc, ← e64]
 have es : 2 ^ (128 - m) = 2 ^ (64 - m) * 18446744073709551616 := by rw [show 128 - m = (64 - m) + 64 by omega, Nat.pow_add, p64']
 have pm : 0 < 2 ^ m := Nat.pow_pos (by decide)
 have pk : 0 < 2 ^ (64 - m) := Nat.pow_pos (by decide)
 have hq : w / 2 ^ m < 2 ^ (64 - m) * 18446744073709551616 := by
  rw [Nat.div_lt_iff_lt_mul pm, Nat.mul_comm, ← e128]; exact hw
 have hh : w / 2 ^ m / 18446744073709551616 < 2 ^ (64 - m) := by
  rw [Nat.div_lt_iff_lt_mul (by decide)]; exact hq
 have hbb : b * 2 ^ (64 - m) < 18446744073709551616 := by
  have : b * 2 ^ (64 - m) < 2 ^ m * 2 ^ (64 - m) := (Nat.mul_lt_mul_right pk).mpr hb
  omega
 have hw2 : wrap64 (64 - (m : Int)) = ((64 - m : Nat) : Int) := by rw [w64 (by omega) (by omega)]; omega
 have eh : hi (w / 2 ^ m) = ((w / 2 ^ m / 18446744073709551616 : Nat) : Int) := by
  unfold hi; rw [Nat.mod_eq_of_lt (Nat.lt_of_lt_of_le hh (pow_le64 (by omega)))]
 have eo : Go.bits .or .u64 (hi (w / 2 ^ m)) (shl .u64 (b : Int) ((64 - m : Nat) : Int)) = hi (b * 2 ^ (128 - m) + w / 2 ^ m) := by
  rw [shl_nat, Nat.mod_eq_of_lt hbb, eh, or_add' hbb (by omega) (Nat.mul_mod_left ..) hh]
  unfold hi
  rw [es, ← Nat.mul_assoc, Nat.add_comm, Nat.add_comm (b * 2 ^ (64 - m) * 18446744073709551616), Nat.add_mul_div_right _ _ (by decide)]
  congr 1
  have : b * 2 ^ (64 - m) + 2 ^ (64 - m) ≤ 18446744073709551616 := by
   have : b * 2 ^ (64 - m) + 2 ^ (64 - m) ≤ 2 ^ m * 2 ^ (64 - m) := by rw [← Nat.succ_mul]; exact Nat.mul_le_mul_right _ hb
   omega
  rw [Nat.mod_eq_of_lt (by omega)]
 have el : lo (w / 2 ^ m) = lo (b * 2 ^ (128 - m) + w / 2 ^ m) := by
  unfold lo; rw [es, ← Nat.mul_assoc, Nat.add_comm, Nat.add_mul_mod_self_right]
 unfold round_under.f
 rw [e2]
 simp only [Option.bind_some, hw2]
 rw [if_pos (by omega), eo, el]
 cases rest
 ·
  simp
 ·
  simp
def heW (V len : Nat) : Nat := V / 2 ^ (len - 128)
def moB (rest : Bool) (V len : Nat) : Bool := rest || decide (V % 2 ^ (len - 128) ≠ 0)
theorem he_lt {V len : Nat} (hV : V < 2 ^ len) (hl : 128 ≤ len) : heW V len < 340282366920938463463374607431768211456 := by
 unfold heW
 rw [Nat.div_lt_iff_lt_mul (Nat.pow_pos (by decide)), ← p128, ← Nat.pow_add, show 128 + (len - 128) = len by omega]; exact hV
theorem under_st {V len b m : Nat} (hV : V < 2 ^ len) (hl : 128 ≤ len) (h1 : 1 ≤ m) (h2 : m ≤ 64) (hb : b < 2 ^ m) (rest : Bool) :
  round_under.f (hi (heW V len)) (lo (heW V len)) (b : Int) (m : Int) (moB rest V len) = some (hi (heW (b * 2 ^ len + V) (len + m)), lo (heW (b * 2 ^ len + V) (len + m)), moB rest (b * 2 ^ len + V) (len + m)) := by
 rw [under_eq (he_lt hV hl) h1 h2 hb]
 obtain ⟨a1, a2⟩ := under_math (b := b) (m := m) hV hl (by omega) hb
 have e1 : heW (b * 2 ^ len + V) (len + m) = b * 2 ^ (128 - m) + heW V len / 2 ^ m := a1
 have e2 : moB rest (b * 2 ^ len + V) (len + m) = (moB rest V len || decide (heW V len % 2 ^ m ≠ 0)) := by
  unfold moB heW
  rw [Bool.or_assoc]
  congr 1
  rw [Bool.eq_iff_iff, Bool.or_eq_true, decide_eq_true_eq, decide_eq_true_eq, decide_eq_true_eq]
  exact a2
 rw [e1, e2]
theorem st_lt {V len b m : Nat} (hV : V < 2 ^ len) (hb : b < 2 ^ m) : b * 2 ^ len + V < 2 ^ (len + m) := by
 rw [Nat.add_comm len m, Nat.pow_add]
 have : b * 2 ^ len + 2 ^ len ≤ 2 ^ m * 2 ^ len := by rw [← Nat.succ_mul]; exact Nat.mul_le_mul_right _ hb
 omega
theorem left_eq {x : Nat} (rest : Bool) : Ev (fun k => round_left.f k (x : Int) rest) ((leftN x 9223372036854775808 rest : Nat) : Int) := by
 unfold round_left.f leftN
 by_cases h1 : 9223372036854775808 < x
 ·
  rw [if_pos (Or.inl h1)]
  refine Ev.congr (fun k => if_pos (by omega)) (Ev.step (f := fun _ => some 3) (fun k => ?_) (Ev.now _))
  simp only [round_left.j0]; rw [if_pos (by rw [decide_eq_true_eq]; omega)]
 ·
  refine Ev.congr (fun k => if_neg (by omega)) ?_
  by_cases h2 : x = 9223372036854775808
  ·
   refine Ev.congr (fun k => if_pos (by omega)) ?_
   cases rest
   ·
    rw [if_neg (by rintro (a | ⟨_, a⟩); exact h1 a; cases a), if_pos h2]
    refine Ev.step (f := fun _ => some 2) (fun k => ?_) (Ev.now _)
    simp only [round_left.j0]; rw [if_neg (by decide), if_pos (by omega)]
   ·
    rw [if_pos (Or.inr ⟨h2, rfl⟩)]
    refine Ev.step (f := fun _ => some 3) (fun k => ?_) (Ev.now _)
    simp only [round_left.j0]; rw [if_pos trivial]
  ·
   refine Ev.congr (fun k => if_neg (by omega)) ?_
   rw [if_neg (by rintro (a | ⟨a, _⟩); exact h1 a; exact h2 a), if_neg h2]
   by_cases h3 : 0 < x
   ·
    rw [if_pos (Or.inl h3)]
    refine Ev.step (f := fun _ => some 1) (fun k => ?_) (Ev.now _)
    simp only [round_left.j0]; rw [if_neg (by decide), if_neg (by omega), if_pos (by omega)]
   ·
    cases rest
    ·
     rw [if_neg (by rintro (a | a); exact h3 a; cases a)]
     refine Ev.step (f := fun _ => some 0) (fun k => ?_) (Ev.now _)
     simp only [round_left.j0]; rw [if_neg (by decide), if_neg (by omega), if_neg (by omega), if_neg (by decide)]
    ·
     rw [if_pos (Or.inr rfl)]
     refine Ev.step (f := fun _ => some 1) (fun k => ?_) (Ev.now _)
     simp only [round_left.j0]; rw [if_neg (by decide), if_neg (by omega), if_neg (by omega), if_pos trivial]
theorem left_low {u v h g : Nat} (hu : u < g) (rest : Bool) : leftN (g * v + u) (g * h) rest = leftN v h (rest || decide (u ≠ 0)) := by
 have key : ∀ a b : Nat, a < b → g * a + g ≤ g * b := fun a b hab => by rw [← Nat.mul_succ]; exact Nat.mul_le_mul_left _ hab
 have p1 : 0 < g := by omega
 unfold leftN
 rcases Nat.lt_trichotomy v h with hv | hv | hv
 ·
  have k := key v h hv
  have n1 : ¬ (h < v ∨ (v = h ∧ (rest || decide (u ≠ 0)) = true)) := by omega
  have n2 : ¬ (g * h < g * v + u ∨ (g * v + u = g * h ∧ rest = true)) := by omega
  rw [if_neg n1, if_neg n2, if_neg (show ¬ v = h by omega), if_neg (show ¬ g * v + u = g * h by omega)]
  rcases Nat.eq_zero_or_pos u with hu0 | hu0
  ·
   subst hu0
   rcases Nat.eq_zero_or_pos v with hv0 | hv0
   ·
    subst hv0; simp
   ·
    have : 0 < g * v := Nat.mul_pos p1 hv0
    rw [if_pos (Or.inl (by omega)), if_pos (Or.inl hv0)]
  ·
   rw [if_pos (Or.inl (by omega)), if_pos (Or.inr (by simp; right; omega))]
 ·
  subst hv
  rcases Nat.eq_zero_or_pos u with hu0 | hu0
  ·
   subst hu0
   cases rest <;> simp
  ·
   rw [if_pos (Or.inl (by omega)), if_pos (Or.inr ⟨rfl, by simp; right; omega⟩)]
 ·
  have k := key h v hv
  rw [if_pos (Or.inl (by omega)), if_pos (Or.inl hv)]
theorem left_mul {x h g : Nat} (hg : 0 < g) (rest : Bool) : leftN (g * x) (g * h) rest = leftN x h rest := by
 have := left_low (u := 0) (v := x) (h := h) hg rest
 simpa using this
theorem Cut_j3 {n V len : Nat} {rest : Bool} (h : Wd n) (hV : V < 2 ^ len) (hl : 128 ≤ len) :
  Ev (fun k => round_Cut.j3 k (n : Int) (moB rest V len) (hi (heW V len)) (lo (heW V len))) (((V / 2 ^ (len - (n - 1)) : Nat) : Int), ((leftN (V % 2 ^ (len - (n - 1))) (2 ^ (len - n)) rest : Nat) : Int), none) := by
 have hn := h.ge
 have hn2 := h.le
 have hw := he_lt hV hl
 obtain ⟨a1, a2⟩ := cut_math (X := V) (L := len) (c := n - 1) hl (by omega) rest
 have e1 : wrap64 (65 - (n : Int)) = ((65 - n : Nat) : Int) := by rw [w64 (by omega) (by omega)]; omega
 have hS := Shl_eq (ah := heW V len / 18446744073709551616 % 18446744073709551616) (al := heW V len % 18446744073709551616) (by omega) (by omega) (n - 1)
 rw [tw_eq hw, Nat.min_eq_left (by omega)] at hS
 have hS2 : Ev (fun k => twin_Shl.f k (hi (heW V len)) (lo (heW V len)) ((n - 1 : Nat) : Int)) (hi (heW V len * 2 ^ (n - 1)), lo (heW V len * 2 ^ (n - 1)), _, none) := hS
 have ea : shr .u64 (hi (heW V len)) ((65 - n : Nat) : Int) = ((V / 2 ^ (len - (n - 1)) : Nat) : Int) := by
  unfold hi
  rw [shr_nat (Nat.mod_lt _ (by decide)), ← a1, Nat.mod_eq_of_lt (by omega)]
  congr 1
  show heW V len / 18446744073709551616 / 2 ^ (65 - n) = heW V len / 2 ^ (128 - (n - 1))
  rw [Nat.div_div_eq_div_mul, ← p64', ← Nat.pow_add, show 64 + (65 - n) = 128 - (n - 1) by omega]
 obtain ⟨y, hy⟩ : ∃ y, y = heW V len % 2 ^ (128 - (n - 1)) := ⟨_, rfl⟩
 have hy2 : y < 2 ^ (128 - (n - 1)) := by rw [hy]; exact Nat.mod_lt _ (Nat.pow_pos (by decide))
 have hB : heW V len * 2 ^ (n - 1) % 340282366920938463463374607431768211456 = y * 2 ^ (n - 1) := by
  rw [← p128, show (128 : Nat) = 128 - (n - 1) + (n - 1) by omega, Nat.pow_add, Nat.mul_mod_mul_right, hy]
 have hBh : hi (heW V len * 2 ^ (n - 1)) = ((y * 2 ^ (n - 1) / 18446744073709551616 : Nat) : Int) := by
  rw [← hB]; unfold hi; congr 1; omega
 have hBl : lo (heW V len * 2 ^ (n - 1)) = ((y * 2 ^ (n - 1) % 18446744073709551616 : Nat) : Int) := by
  rw [← hB]; unfold lo; congr 1; omega
 have hfin : leftN (y * 2 ^ (n - 1) / 18446744073709551616) 9223372036854775808 (moB rest V len || decide (y * 2 ^ (n - 1) % 18446744073709551616 ≠ 0)) = leftN (V % 2 ^ (len - (n - 1))) (2 ^ (len - n)) rest := by
  rw [← left_low (Nat.mod_lt _ (by decide)), Nat.div_add_mod, show 18446744073709551616 * 9223372036854775808 = 2 ^ (n - 1) * 2 ^ (127 - (n - 1)) by rw [← Nat.pow_add, show n - 1 + (127 - (n - 1)) = 127 by omega], Nat.mul_comm y, left_mul (Nat.pow_pos (by decide)), hy]
  rw [show len - n = len - (n - 1) - 1 by omega]
  exact a2
 refine Ev.step (f := fun k => (twin_Shl.f k (hi (heW V len)) (lo (heW V len)) ((n - 1 : Nat) : Int)).bind fun bt176 => if bt176.2.1 = 0 then ((round_left.f k bt176.1 (moB rest V len)).bind fun t181 => (some (((V / 2 ^ (len - (n - 1)) : Nat) : Int), t181, none))) else ((round_left.f k bt176.1 true).bind fun t182 => (some (((V / 2 ^ (len - (n - 1)) : Nat) : Int), t182, none)))) (fun k => ?_) (Ev.bind hS2 ?_)
 ·
  simp only [round_Cut.j3]
  rw [e1, if_pos (by omega), pred_w h, ea]
 ·
  simp only [hBh, hBl]
  by_cases hz : y * 2 ^ (n - 1) % 18446744073709551616 = 0
  ·
   refine Ev.congr (fun k => if_pos (by omega)) (Ev.bind (left_eq _) ?_)
   rw [← hfin, hz]
   simp only [ne_eq, not_true_eq_false, decide_false, Bool.or_false]
   exact Ev.now _
  ·
   refine Ev.congr (fun k => if_neg (by omega)) (Ev.bind (left_eq _) ?_)
   rw [← hfin, decide_eq_true hz, Bool.or_true]
   exact Ev.now _
def hsN (sc : Int) : Nat := hdN (decide (0 ≤ sc / 4)) (runS sc) * 4 + (sc % 4).toNat
def stX (sc : Int) (m : Nat) : Nat := hsN sc * 2 ^ 127 + m % 2 ^ 127
def stL (sc : Int) : Nat := runS sc + 130
def cutM (n : Nat) (sc : Int) (m : Nat) (rest : Bool) : Nat × Nat := (stX sc m / 2 ^ (stL sc - (n - 1)), leftN (stX sc m % 2 ^ (stL sc - (n - 1))) (2 ^ (stL sc - n)) rest)
theorem hd_lt (o : Bool) (r : Nat) : hdN o r < 2 ^ (r + 1) := by
 have : 0 < 2 ^ r := Nat.pow_pos (by decide)
 unfold hdN
 rw [Nat.pow_succ]
 split <;> omega
theorem hs_lt (sc : Int) : hsN sc < 2 ^ (runS sc + 3) := by
 have := hd_lt (decide (0 ≤ sc / 4)) (runS sc)
 unfold hsN
 rw [show runS sc + 3 = runS sc + 1 + 2 by omega, Nat.pow_add]
 omega
theorem st_X_lt (sc : Int) (m : Nat) : stX sc m < 2 ^ stL sc := by
 have h1 := hs_lt sc
 have h2 : m % 2 ^ 127 < 2 ^ 127 := Nat.mod_lt _ (Nat.pow_pos (by decide))
 unfold stX stL
 rw [show runS sc + 130 = 127 + (runS sc + 3) by omega]
 exact st_lt h2 h1
theorem CutP_l0 {n : Nat} {V r : Nat} {rest : Bool} {res : Int × Int × Option Int} (h : Wd n) (hr : r ≤ 1000) (hV : V < 2 ^ 131)
  (hfin : Ev (fun k => round_Cut.j3 k (n : Int) (moB rest ((2 ^ r - 1) * 2 ^ 131 + V) (131 + r)) (hi (heW ((2 ^ r - 1) * 2 ^ 131 + V) (131 + r))) (lo (heW ((2 ^ r - 1) * 2 ^ 131 + V) (131 + r)))) res) :
  ∀ d i : Nat, r - i ≤ d → i ≤ r → Ev (fun k => round_Cut.l0 k (n : Int) (moB rest ((2 ^ i - 1) * 2 ^ 131 + V) (131 + i)) (r : Int) (i : Int) (hi (heW ((2 ^ i - 1) * 2 ^ 131 + V) (131 + i))) (lo (heW ((2 ^ i - 1) * 2 ^ 131 + V) (131 + i)))) res := by
 intro d
 induction d with
 | zero =>
  intro i hd hi
  obtain rfl : i = r := by omega
  refine Ev.step (fun k => ?_) hfin
  simp only [round_Cut.l0]; rw [if_neg (by omega)]
 | succ d ih =>
  intro i hd hi
  by_cases hgo : i < r
  ·
   refine Ev.step (fun k => ?_) (ih (i + 1) (by omega) (by omega))
   have pi : 0 < 2 ^ i := Nat.pow_pos (by decide)
   have hVi : (2 ^ i - 1) * 2 ^ 131 + V < 2 ^ (131 + i) := st_lt hV (by omega)
   have hu := under_st (b := 1) (m := 1) hVi (by omega) (by decide) (by decide) (by decide) rest
   have e : 1 * 2 ^ (131 + i) + ((2 ^ i - 1) * 2 ^ 131 + V) = (2 ^ (i + 1) - 1) * 2 ^ 131 + V := by
    rw [Nat.pow_add 2 131 i, Nat.one_mul, Nat.mul_comm (2 ^ 131) (2 ^ i), ← Nat.add_assoc, ← Nat.add_mul]
    have : 2 ^ (i + 1) = 2 ^ i * 2 := Nat.pow_succ ..
    congr 2
    omega
   rw [e, Nat.add_assoc] at hu
   simp only [round_Cut.l0]
   have hu2 : round_under.f (Go.Proofs.Ytjlaijaadclghaa.M.hi (heW ((2 ^ i - 1) * 2 ^ 131 + V) (131 + i))) (lo (heW ((2 ^ i - 1) * 2 ^ 131 + V) (131 + i))) 1 1 (moB rest ((2 ^ i - 1) * 2 ^ 131 + V) (131 + i)) = _ := hu
   rw [if_pos (by omega), hu2, Option.bind_some, w64 (by omega) (by omega)]
   rfl
  ·
   exact ih i (by omega) hi
theorem CutP_l1 {n : Nat} {V r : Nat} {rest : Bool} {res : Int × Int × Option Int} (h : Wd n) (hr : r ≤ 1000) (hV : V < 2 ^ 131)
  (hfin : Ev (fun k => round_Cut.j3 k (n : Int) (moB rest V (131 + r)) (hi (heW V (131 + r))) (lo (heW V (131 + r)))) res) :
  ∀ d i : Nat, r - i ≤ d → i ≤ r → Ev (fun k => round_Cut.l1 k (n : Int) (moB rest V (131 + i)) (r : Int) (i : Int) (hi (heW V (131 + i))) (lo (heW V (131 + i)))) res := by
 intro d
 induction d with
 | zero =>
  intro i hd hi
  obtain rfl : i = r := by omega
  refine Ev.step (fun k => ?_) hfin
  simp only [round_Cut.l1]; rw [if_neg (by omega)]
 | succ d ih =>
  intro i hd hi
  by_cases hgo : i < r
  ·
   refine Ev.step (fun k => ?_) (ih (i + 1) (by omega) (by omega))
   have hVi : V < 2 ^ (131 + i) := Nat.lt_of_lt_of_le hV (Nat.pow_le_pow_right (by decide) (by omega))
   have hu := under_st (b := 0) (m := 1) hVi (by omega) (by decide) (by decide) (by decide) rest
   rw [Nat.zero_mul, Nat.zero_add, Nat.add_assoc] at hu
   simp only [round_Cut.l1]
   have hu2 : round_under.f (Go.Proofs.Ytjlaijaadclghaa.M.hi (heW V (131 + i))) (lo (heW V (131 + i))) 0 1 (moB rest V (131 + i)) = _ := hu
   rw [if_pos (by omega), hu2, Option.bind_some, w64 (by omega) (by omega)]
   rfl
  ·
   exact ih i (by omega) hi
theorem hi_mod (x : Nat) : hi (x % 340282366920938463463374607431768211456) = hi x := by unfold hi; congr 1; omega
theorem lo_mod (x : Nat) : lo (x % 340282366920938463463374607431768211456) = lo x := by unfold lo; congr 1; omega
theorem cutM_twice (n : Nat) (h : Wd n) (sc : Int) (m : Nat) (rest : Bool) : (2 * stX sc m / 2 ^ (stL sc + 1 - (n - 1)), leftN (2 * stX sc m % 2 ^ (stL sc + 1 - (n - 1))) (2 ^ (stL sc + 1 - n)) rest) = cutM n sc m rest := by
 have hn := h.ge
 have hn2 := h.le
 have e1 : 2 ^ (stL sc + 1 - (n - 1)) = 2 * 2 ^ (stL sc - (n - 1)) := by rw [← Nat.pow_succ']; congr 1; unfold stL; omega
 have e2 : 2 ^ (stL sc + 1 - n) = 2 * 2 ^ (stL sc - n) := by rw [← Nat.pow_succ']; congr 1; unfold stL; omega
 unfold cutM
 rw [e1, e2, Nat.mul_div_mul_left _ _ (by decide), Nat.mul_mod_mul_left, left_mul (by decide)]
theorem Cut_j0 {n : Nat} {kind : Int} {neg rest : Bool} {sc : Int} {h l : Nat} (hn : Wd n) (h0 : -1000 ≤ sc) (h1 : sc ≤ 1000) (hh : h < 18446744073709551616) (hl : l < 18446744073709551616) :
  Ev (fun k => round_Cut.j0 k (n : Int) kind neg sc (h : Int) (l : Int) rest) (((cutM n sc (tw h l) rest).1 : Int), ((cutM n sc (tw h l) rest).2 : Int), none) := by
 have hS := Shl_eq hh hl 1
 rw [show min 1 128 = 1 from rfl, Nat.pow_one, ← hi_mod, ← lo_mod] at hS
 obtain ⟨f, hf⟩ : ∃ f, f = tw h l % 2 ^ 127 := ⟨_, rfl⟩
 have hf2 : f < 2 ^ 127 := by rw [hf]; exact Nat.mod_lt _ (Nat.pow_pos (by decide))
 have e0 : tw h l * 2 % 340282366920938463463374607431768211456 = 2 * f := by
  rw [hf, show (340282366920938463463374607431768211456 : Nat) = 2 ^ 127 * 2 by decide, Nat.mul_mod_mul_right, Nat.mul_comm]
 rw [e0] at hS
 have hV0 : 2 * f < 2 ^ 128 := by rw [show 2 ^ 128 = 2 * 2 ^ 127 by decide]; omega
 have q0 : heW (2 * f) 128 = 2 * f := by unfold heW; rw [Nat.sub_self, Nat.pow_zero, Nat.div_one]
 have m0 : moB rest (2 * f) 128 = rest := by unfold moB; rw [Nat.sub_self, Nat.pow_zero, Nat.mod_one]; simp
 obtain ⟨e, he⟩ : ∃ e : Nat, e = (sc % 4).toNat := ⟨_, rfl⟩
 have he4 : e < 4 := by omega
 have u1 := under_st (b := e) (m := 2) hV0 (by decide) (by decide) (by decide) (by omega) rest
 rw [q0, m0] at u1
 obtain ⟨V1, hV1⟩ : ∃ V1, V1 = e * 2 ^ 128 + 2 * f := ⟨_, rfl⟩
 have hV1l : V1 < 2 ^ 130 := by rw [hV1]; exact st_lt (m := 2) hV0 (by omega)
 rw [← hV1] at u1
 have ec : IntKind.u64.wrap (Go.bits .and .i64 sc 3) = (e : Int) := by rw [and3, u64s (by omega) (by omega)]; omega
 have eR : ∀ r : Nat, stL sc + 1 = 131 + runS sc := fun r => by unfold stL; omega
 refine Ev.step (f := fun k => (twin_Shl.f k (h : Int) (l : Int) ((1 : Nat) : Int)).bind fun bt156 => ((round_under.f bt156.1 bt156.2.1 (IntKind.u64.wrap (Go.bits .and .i64 sc 3)) 2 rest).bind fun bt161 => (if (sc / 4) ≥ 0 then ((round_under.f bt161.1 bt161.2.1 0 1 bt161.2.2).bind fun bt164 => (round_Cut.l0 k (n : Int) bt164.2.2 (wrap64 ((sc / 4) + 1)) 0 bt164.1 bt164.2.1)) else ((round_under.f bt161.1 bt161.2.1 1 1 bt161.2.2).bind fun bt170 => (round_Cut.l1 k (n : Int) bt170.2.2 (wrap64 (-(sc / 4))) 0 bt170.1 bt170.2.1)))))
  (fun k => ?_) (Ev.bind hS (Ev.bindp (by rw [ec]; exact u1) ?_))
 ·
  simp only [round_Cut.j0]; rfl
 by_cases hk : 0 ≤ sc / 4
 ·
  refine Ev.congr (fun k => if_pos hk) ?_
  have u2 := under_st (b := 0) (m := 1) hV1l (by decide) (by decide) (by decide) (by decide) rest
  rw [Nat.zero_mul, Nat.zero_add] at u2
  have hr : wrap64 (sc / 4 + 1) = (runS sc : Int) := by unfold runS; rw [if_pos hk, w64 (by omega) (by omega)]; omega
  have hr2 : runS sc ≤ 1000 := by unfold runS; rw [if_pos hk]; omega
  refine Ev.bindp u2 ?_
  rw [hr]
  have hX : (2 ^ runS sc - 1) * 2 ^ 131 + V1 = 2 * stX sc (tw h l) := by
   unfold stX hsN hdN
   rw [decide_eq_true hk, if_pos rfl, ← hf, ← he, hV1]
   generalize 2 ^ runS sc - 1 = a
   omega
  have hVl : (2 ^ runS sc - 1) * 2 ^ 131 + V1 < 2 ^ (131 + runS sc) := st_lt (Nat.lt_trans hV1l (by decide)) (by have : 0 < 2 ^ runS sc := Nat.pow_pos (by decide); omega)
  have hfin := Cut_j3 (rest := rest) hn hVl (by omega)
  have hl := CutP_l0 (rest := rest) hn hr2 (Nat.lt_trans hV1l (by decide)) hfin _ 0 (Nat.le_refl _) (by omega)
  rw [Nat.pow_zero, Nat.sub_self, Nat.zero_mul, Nat.zero_add, hX, ← eR 0] at hl
  have ht := cutM_twice n hn sc (tw h l) rest
  rw [← ht]
  exact hl
 ·
  refine Ev.congr (fun k => if_neg hk) ?_
  have u2 := under_st (b := 1) (m := 1) hV1l (by decide) (by decide) (by decide) (by decide) rest
  rw [Nat.one_mul] at u2
  have hr : wrap64 (-(sc / 4)) = (runS sc : Int) := by unfold runS; rw [if_neg hk, w64 (by omega) (by omega)]; omega
  have hr2 : runS sc ≤ 1000 := by unfold runS; rw [if_neg hk]; omega
  refine Ev.bindp u2 ?_
  rw [hr]
  have hX : 2 ^ 130 + V1 = 2 * stX sc (tw h l) := by
   unfold stX hsN hdN
   rw [decide_eq_false hk, if_neg (by decide), ← hf, ← he, hV1]
   omega
  have hV2 : 2 ^ 130 + V1 < 2 ^ 131 := by rw [show 2 ^ 131 = 2 ^ 130 + 2 ^ 130 by decide]; omega
  have hVl : 2 ^ 130 + V1 < 2 ^ (131 + runS sc) := Nat.lt_of_lt_of_le hV2 (Nat.pow_le_pow_right (by decide) (by omega))
  have hfin := Cut_j3 (rest := rest) hn hVl (by omega)
  have hl := CutP_l1 (rest := rest) hn hr2 hV2 hfin _ 0 (Nat.le_refl _) (by omega)
  rw [Nat.add_zero, ← eR 0] at hl
  have ht := cutM_twice n hn sc (tw h l) rest
  rw [← ht, ← hX]
  exact hl
end Go.Proofs.Ytjlaijaadclghaa.M
