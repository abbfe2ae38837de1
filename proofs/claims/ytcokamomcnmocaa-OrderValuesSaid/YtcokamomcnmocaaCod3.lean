/- What the program's sixth layer makes of parts, and its reference: a pattern that has just these parts, where there is one. -/
import Derived.Test.YtcokamomcnmocaaF0
import Derived.Test.YtcokamomcnmocaaCod2
namespace Go.Proofs.Ytcokamomcnmocaa.M
open Go.RowKit Go.Proofs.YtcokamomcnmocaaW.PrintWords Go.Proofs.YtcokamomcnmocaaW.PrintLast Go.Proofs.YtcokamomcnmocaaW.PrintMore Go.Proofs.Ytcokamomcnmocaa.F
set_option linter.unusedVariables false
set_option linter.unusedSimpArgs false

/-- The parts are told by the lowest bits alone. -/
theorem run_congr {x y w : Nat} (h : x % 2 ^ w = y % 2 ^ w) : runN x w = runN y w := by unfold runN left; rw [h]
theorem top_congr {x y w : Nat} (h : x % 2 ^ w = y % 2 ^ w) : topB x w = topB y w := by unfold topB; rw [h]
theorem lf_congr {x y w : Nat} (h : x % 2 ^ w = y % 2 ^ w) : lfN x w = lfN y w := by unfold lfN; rw [run_congr h]
theorem eb_congr {x y w : Nat} (h : x % 2 ^ w = y % 2 ^ w) : ebN x w = ebN y w := by unfold ebN; rw [lf_congr h]
theorem fb_congr {x y w : Nat} (h : x % 2 ^ w = y % 2 ^ w) : fbN x w = fbN y w := by unfold fbN; rw [lf_congr h, eb_congr h]
theorem tail_congr {x y w : Nat} (h : x % 2 ^ w = y % 2 ^ w) : x % 2 ^ lfN x w = y % 2 ^ lfN y w := by
  have hl : lfN x w ≤ w := by unfold lfN; omega
  rw [← mod_pow_mod x hl, h, lf_congr h, mod_pow_mod y (by rw [← lf_congr h]; exact hl)]
theorem eN_tail (x w : Nat) : eN x w = x % 2 ^ lfN x w / 2 ^ fbN x w := by
  rw [tail_split, Nat.mul_comm, Nat.mul_add_div (Nat.pow_pos (by decide)), Nat.div_eq_of_lt (frN_lt x w), Nat.add_zero]
theorem frN_tail (x w : Nat) : frN x w = x % 2 ^ lfN x w % 2 ^ fbN x w := by
  rw [tail_split, Nat.mul_comm, Nat.mul_add_mod, Nat.mod_eq_of_lt (frN_lt x w)]
theorem eN_congr {x y w : Nat} (h : x % 2 ^ w = y % 2 ^ w) : eN x w = eN y w := by rw [eN_tail, eN_tail, tail_congr h, fb_congr h]
theorem frN_congr {x y w : Nat} (h : x % 2 ^ w = y % 2 ^ w) : frN x w = frN y w := by rw [frN_tail, frN_tail, tail_congr h, fb_congr h]
theorem exN_congr {x y w : Nat} (h : x % 2 ^ w = y % 2 ^ w) : exN x w = exN y w := by unfold exN; rw [eN_congr h, eb_congr h]
theorem rg_congr {x y w : Nat} (h : x % 2 ^ w = y % 2 ^ w) : rgI x w = rgI y w := by unfold rgI; rw [top_congr h, run_congr h]
theorem ab_congr {n : Nat} (h : Wd n) {p q : Nat} (hp : p < 18446744073709551616) (hq : q < 18446744073709551616) (e : p % 2 ^ n = q % 2 ^ n) : abN n p % 2 ^ (n - 1) = abN n q % 2 ^ (n - 1) := by
  unfold abN
  rw [top_congr e]
  split
  · unfold ngN
    rcases h with rfl | rfl | rfl | rfl <;> simp only [Nat.reducePow, Nat.reduceSub] at e ⊢ <;> omega
  · rcases h with rfl | rfl | rfl | rfl <;> simp only [Nat.reducePow, Nat.reduceSub] at e ⊢ <;> omega
theorem split_congr {ε : Type} {n : Nat} (h : Wd n) {p q : Nat} (hp : p < 18446744073709551616) (hq : q < 18446744073709551616) (e : p % 2 ^ n = q % 2 ^ n) (z : ε) : splitT n p z = splitT n q z := by
  have a := ab_congr h hp hq e
  unfold splitT kindN
  rw [e, top_congr e, top_congr a, run_congr a, rg_congr a, eb_congr a, exN_congr a, fb_congr a, frN_congr a]
theorem means_congr {ε : Type} {n : Nat} (h : Wd n) {p q : Nat} (hp : p < 18446744073709551616) (hq : q < 18446744073709551616) (e : p % 2 ^ n = q % 2 ^ n) (z : ε) : meansT n p z = meansT n q z := by
  have a := ab_congr h hp hq e
  unfold meansT kindN scI mtN
  rw [e, top_congr e, rg_congr a, exN_congr a, fb_congr a, frN_congr a]
theorem mod_lt64 {n : Nat} (h : Wd n) (a : Nat) : a % 2 ^ n < 18446744073709551616 := Nat.lt_of_lt_of_le (Nat.mod_lt _ (Nat.pow_pos (by decide))) (pow_le64 h.le)
/-- A size with its sign is the pattern. -/
def signN (n : Nat) (neg : Bool) (m : Nat) : Nat := if neg = true then ngN m % 2 ^ n else m
theorem sign_back {n p : Nat} (h : Wd n) (hp : p < 18446744073709551616) (hk : kindN n p = 1) : signN n (topB p n) (abN n p % 2 ^ (n - 1)) = p % 2 ^ n := by
  have h1 : p % 2 ^ n ≠ 0 := by intro g; unfold kindN at hk; rw [if_pos g] at hk; omega
  have h2 : p % 2 ^ n ≠ 2 ^ (n - 1) := by intro g; unfold kindN at hk; rw [if_neg h1, if_pos g] at hk; omega
  unfold signN abN
  by_cases ht : topB p n = true
  · rw [if_pos ht, if_pos ht]
    unfold topB at ht
    rw [decide_eq_true_eq] at ht
    unfold ngN
    rcases h with rfl | rfl | rfl | rfl <;> simp only [Nat.reducePow, Nat.reduceSub] at * <;> omega
  · rw [if_neg ht, if_neg ht]
    unfold topB at ht
    rw [decide_eq_true_eq] at ht
    rcases h with rfl | rfl | rfl | rfl <;> simp only [Nat.reducePow, Nat.reduceSub] at * <;> omega
theorem sign_lt {n : Nat} (h : Wd n) (b : Bool) {m : Nat} (hm : m < 18446744073709551616) : signN n b m < 18446744073709551616 := by unfold signN; split; exact mod_lt64 h _; exact hm
theorem ab_pos {n p : Nat} (h : Wd n) (hp : p < 18446744073709551616) (hk : kindN n p = 1) : 0 < abN n p % 2 ^ (n - 1) := by
  have h1 : p % 2 ^ n ≠ 0 := by intro g; unfold kindN at hk; rw [if_pos g] at hk; omega
  have h2 : p % 2 ^ n ≠ 2 ^ (n - 1) := by intro g; unfold kindN at hk; rw [if_neg h1, if_pos g] at hk; omega
  unfold abN
  by_cases ht : topB p n = true
  · rw [if_pos ht]
    unfold topB at ht
    rw [decide_eq_true_eq] at ht
    unfold ngN
    rcases h with rfl | rfl | rfl | rfl <;> simp only [Nat.reducePow, Nat.reduceSub] at * <;> omega
  · rw [if_neg ht]
    unfold topB at ht
    rw [decide_eq_true_eq] at ht
    rcases h with rfl | rfl | rfl | rfl <;> simp only [Nat.reducePow, Nat.reduceSub] at * <;> omega

/-- The parts of a Real. -/
abbrev F8 := Bool × Bool × Int × Int × Int × Int × Int × Int
noncomputable instance F8.dec (a b : F8) : Decidable (a = b) := Classical.propDecidable (a = b)
def partsF (n p : Nat) : F8 := (topB p n, topB (abN n p) (n - 1), (runN (abN n p) (n - 1) : Int), rgI (abN n p) (n - 1), (ebN (abN n p) (n - 1) : Int), (exN (abN n p) (n - 1) : Int), (fbN (abN n p) (n - 1) : Int), (frN (abN n p) (n - 1) : Int))
def F8.with {ε : Type} (f : F8) (e : ε) : Bool × Bool × Int × Int × Int × Int × Int × Int × ε := (f.1, f.2.1, f.2.2.1, f.2.2.2.1, f.2.2.2.2.1, f.2.2.2.2.2.1, f.2.2.2.2.2.2.1, f.2.2.2.2.2.2.2, e)
def splitF (n p : Nat) : F8 := if kindN n p = 1 then partsF n p else (false, false, 0, 0, 0, 0, 0, 0)
theorem splitT_F {ε : Type} (n p : Nat) (e : ε) : splitT n p e = (splitF n p).with e := by
  unfold splitT splitF; split <;> rfl
theorem ne8 (a1 b1 a2 b2 : Bool) (a3 b3 a4 b4 a5 b5 a6 b6 a7 b7 a8 b8 : Int) : ((!(a1 == b1) || (!(a2 == b2) || (!(a3 == b3) || (!(a4 == b4) || (!(a5 == b5) || (!(a6 == b6) || (!(a7 == b7) || (!(a8 == b8))))))))) = true) ↔ ¬ ((a1, a2, a3, a4, a5, a6, a7, a8) : F8) = (b1, b2, b3, b4, b5, b6, b7, b8) := by
  simp only [Bool.or_eq_true, Bool.not_eq_true', beq_eq_false_iff_ne, Prod.mk.injEq]
  constructor
  · rintro (h | h | h | h | h | h | h | h) ⟨e1, e2, e3, e4, e5, e6, e7, e8⟩ <;> contradiction
  · intro h
    by_cases e1 : a1 = b1
    · by_cases e2 : a2 = b2
      · by_cases e3 : a3 = b3
        · by_cases e4 : a4 = b4
          · by_cases e5 : a5 = b5
            · by_cases e6 : a6 = b6
              · by_cases e7 : a7 = b7
                · by_cases e8 : a8 = b8
                  · exact absurd ⟨e1, e2, e3, e4, e5, e6, e7, e8⟩ h
                  · simp [e8]
                · simp [e7]
              · simp [e6]
            · simp [e5]
          · simp [e4]
        · simp [e3]
      · simp [e2]
    · simp [e1]
/-- There is a pattern with these parts. -/
def Good (n : Nat) (f : F8) (p : Nat) : Prop := p < 2 ^ n ∧ kindN n p = 1 ∧ partsF n p = f
theorem good_word {n p : Nat} {f : F8} (h : Wd n) (g : Good n f p) : p < 18446744073709551616 := Nat.lt_of_lt_of_le g.1 (pow_le64 h.le)
theorem good_of {n q : Nat} {f : F8} (h : Wd n) (hq : q < 18446744073709551616) (hr : f.2.2.1 ≠ 0) (e : splitF n q = f) : Good n f (q % 2 ^ n) := by
  have hm := mod_lt64 h q
  have em : q % 2 ^ n % 2 ^ n = q % 2 ^ n := Nat.mod_mod _ _
  refine ⟨Nat.mod_lt _ (Nat.pow_pos (by decide)), ?_⟩
  have hk : kindN n (q % 2 ^ n) = kindN n q := by unfold kindN; rw [em]
  by_cases g : kindN n q = 1
  · refine ⟨by rw [hk]; exact g, ?_⟩
    have s := split_congr h hm hq em ()
    rw [splitT_F, splitT_F] at s
    have s2 : splitF n (q % 2 ^ n) = splitF n q := by
      simp only [F8.with, Prod.mk.injEq] at s
      obtain ⟨s1, s2, s3, s4, s5, s6, s7, s8, _⟩ := s
      exact Prod.ext s1 (Prod.ext s2 (Prod.ext s3 (Prod.ext s4 (Prod.ext s5 (Prod.ext s6 (Prod.ext s7 s8))))))
    rw [e] at s2
    unfold splitF at s2
    rw [if_pos (by rw [hk]; exact g)] at s2
    exact s2
  · unfold splitF at e
    rw [if_neg g] at e
    rw [← e] at hr
    exact absurd rfl hr
theorem good_split {n p : Nat} {f : F8} (g : Good n f p) : splitF n p = f := by unfold splitF; rw [if_pos g.2.1]; exact g.2.2

/-- The program's word out of parts. -/
def jbN (n : Nat) (ones : Bool) (run : Nat) : Nat := if ones = true then putN 0 (n - 1 - run) run (2 ^ (n - 1) - 1) else if run < n - 1 then 2 ^ (n - 2 - run) else 0
def jmN (n : Nat) (ones : Bool) (run eb ex fb fr : Nat) : Nat := (jbN n ones run ||| (ex / 2 ^ (2 - eb) * 2 ^ fb % 18446744073709551616 &&& (2 ^ (n - 1) - 1))) ||| (fr &&& (2 ^ (n - 1) - 1))
theorem jb_base {n x : Nat} (h : Wd n) : jbN n (topB x (n - 1)) (runN x (n - 1)) = baseN x (n - 1) := by
  have h2 := h.ge
  have hr := runN_le x (n - 1)
  unfold jbN baseN
  split
  · unfold putN
    have e : (2 ^ (n - 1) - 1) % 2 ^ runN x (n - 1) = 2 ^ runN x (n - 1) - 1 := by
      have p := pow_split hr
      have q : 0 < 2 ^ runN x (n - 1) := Nat.pow_pos (by decide)
      have q2 : 0 < 2 ^ (n - 1 - runN x (n - 1)) := Nat.pow_pos (by decide)
      rw [p]
      generalize 2 ^ runN x (n - 1) = a at *
      generalize 2 ^ (n - 1 - runN x (n - 1)) = b at *
      obtain ⟨t, rfl⟩ : ∃ t, b = t + 1 := ⟨b - 1, by omega⟩
      rw [show a * (t + 1) - 1 = a * t + (a - 1) by rw [Nat.mul_succ]; omega, Nat.mul_add_mod, Nat.mod_eq_of_lt (by omega)]
    rw [e, Nat.zero_div, Nat.zero_mul, Nat.zero_mod, Nat.zero_add, Nat.add_zero]
  · split
    · rw [show n - 2 - runN x (n - 1) = n - 1 - 1 - runN x (n - 1) by omega]
    · rfl
theorem jb_lt {n run : Nat} (h : Wd n) (hr : run ≤ n - 1) (ones : Bool) : jbN n ones run < 18446744073709551616 := by
  have h1 := h.le
  have h2 := h.ge
  unfold jbN
  split
  · unfold putN
    rw [Nat.zero_div, Nat.zero_mul, Nat.zero_mod, Nat.zero_add, Nat.add_zero]
    have q : (2 ^ (n - 1) - 1) % 2 ^ run < 2 ^ run := Nat.mod_lt _ (Nat.pow_pos (by decide))
    have p := pow_split hr
    have p64 : 2 ^ (n - 1) ≤ 18446744073709551616 := pow_le64 (by omega)
    have := Nat.mul_lt_mul_of_pos_right q (Nat.pow_pos (n := n - 1 - run) (show 0 < 2 by decide))
    omega
  · split
    · have : 2 ^ (n - 2 - run) < 2 ^ 64 := Nat.pow_lt_pow_right (by decide) (by omega)
      rw [← p64']; exact this
    · decide
theorem jm_lt {n run eb ex fb fr : Nat} (h : Wd n) (hr : run ≤ n - 1) (hf : fr < 18446744073709551616) (ones : Bool) : jmN n ones run eb ex fb fr < 18446744073709551616 := by
  unfold jmN
  rw [← p64'] at *
  refine Nat.or_lt_two_pow (Nat.or_lt_two_pow (by rw [p64']; exact jb_lt h hr ones) ?_) ?_
  · exact Nat.lt_of_le_of_lt Nat.and_le_left (Nat.mod_lt _ (Nat.pow_pos (by decide)))
  · exact Nat.lt_of_le_of_lt Nat.and_le_left hf
theorem jm_whole {n x : Nat} (h : Wd n) : jmN n (topB x (n - 1)) (runN x (n - 1)) (ebN x (n - 1)) (exN x (n - 1)) (fbN x (n - 1)) (frN x (n - 1)) = x % 2 ^ (n - 1) := by
  have h1 := h.le
  have h2 := h.ge
  have hw : 0 < n - 1 := by omega
  have he := eN_lt x (n - 1)
  have hf := frN_lt x (n - 1)
  have hs := lf_split x (n - 1)
  have hl := lfN_lt (x := x) hw
  have p1 : 2 ^ lfN x (n - 1) ≤ 2 ^ (n - 1) := Nat.pow_le_pow_right (by decide) (by omega)
  have p2 : 2 ^ fbN x (n - 1) ≤ 2 ^ (n - 1) := Nat.pow_le_pow_right (by decide) (by omega)
  have p3 := pow_le64 (show n - 1 ≤ 64 by omega)
  have hel : eN x (n - 1) * 2 ^ fbN x (n - 1) < 2 ^ lfN x (n - 1) := by
    rw [hs, Nat.pow_add, Nat.mul_comm (2 ^ fbN x (n - 1))]
    exact Nat.mul_lt_mul_of_pos_right he (Nat.pow_pos (by decide))
  have hb := base_mod (x := x) hw
  unfold jmN
  rw [jb_base h, exN_div, Nat.and_two_pow_sub_one_eq_mod, Nat.and_two_pow_sub_one_eq_mod, Nat.mod_eq_of_lt (a := eN x (n - 1) * 2 ^ fbN x (n - 1)) (by omega), Nat.mod_eq_of_lt (a := eN x (n - 1) * 2 ^ fbN x (n - 1)) (by omega), Nat.mod_eq_of_lt (a := frN x (n - 1)) (by omega), whole_split hw]
  obtain ⟨b, hb2⟩ : ∃ b, baseN x (n - 1) = 2 ^ lfN x (n - 1) * b := ⟨_, (Nat.mul_div_cancel' (Nat.dvd_of_mod_eq_zero hb)).symm⟩
  rw [hb2, ← Nat.two_pow_add_eq_or_of_lt hel, hs, Nat.pow_add]
  rw [show 2 ^ fbN x (n - 1) * 2 ^ ebN x (n - 1) * b + eN x (n - 1) * 2 ^ fbN x (n - 1) = 2 ^ fbN x (n - 1) * (2 ^ ebN x (n - 1) * b + eN x (n - 1)) by grind]
  rw [← Nat.two_pow_add_eq_or_of_lt hf]
/-- May these parts be? -/
def okF (n : Nat) (f : F8) : Prop := 1 ≤ f.2.2.1 ∧ f.2.2.1 ≤ (n : Int) - 1 ∧ 0 ≤ f.2.2.2.2.1 ∧ f.2.2.2.2.1 ≤ 2 ∧ 0 ≤ f.2.2.2.2.2.1 ∧ f.2.2.2.2.2.1 ≤ 3 ∧ 0 ≤ f.2.2.2.2.2.2.1 ∧ f.2.2.2.2.2.2.1 ≤ (n : Int)
theorem parts_ok {n p : Nat} (h : Wd n) : okF n (partsF n p) := by
  have h2 := h.ge
  have hr := runN_le (abN n p) (n - 1)
  have hr0 := runN_pos (x := abN n p) (n := n - 1) (by omega)
  have he := eb_le (abN n p) (n - 1)
  have hx := exN_lt (abN n p) (n - 1)
  have hf := fb_le (x := abN n p) (w := n - 1) (by omega)
  simp only [okF, partsF]
  omega
end Go.Proofs.Ytcokamomcnmocaa.M
