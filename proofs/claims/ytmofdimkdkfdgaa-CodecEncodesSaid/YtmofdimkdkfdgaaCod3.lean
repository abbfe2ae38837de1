/- What the program's sixth layer makes of parts, and its reference: a pattern that has just these parts, where there is one. -/
import Derived.Test.YtmofdimkdkfdgaaF7
import Derived.Test.YtmofdimkdkfdgaaCod2
namespace Go.Proofs.Ytmofdimkdkfdgaa.M
open Go.RowKit Go.Proofs.YtmofdimkdkfdgaaW.PrintWords Go.Proofs.YtmofdimkdkfdgaaW.PrintLast Go.Proofs.YtmofdimkdkfdgaaW.PrintMore Go.Proofs.Ytmofdimkdkfdgaa.F
set_option linter.unusedVariables false
set_option linter.unusedSimpArgs false

/-- The parts are told by the lowest bits alone. -/
theorem run_congr {x y w : Nat} (h : x % 2 ^ w = y % 2 ^ w) : runN x w = runN y w := by unfold runN left; rw [h]
theorem top_congr {x y w : Nat} (h : x % 2 ^ w = y % 2 ^ w) : topB x w = topB y w := by unfold topB; rw [h]
theorem lf_congr {x y w : Nat} (h : x % 2 ^ w = y % 2 ^ w) : lfN x w = lfN y w := by unfold lfN; rw [run_congr h]
theorem eb_congr {x y w : Nat} (h : x % 2 ^ w = y % 2 ^ w) : ebN x w = ebN y w := by unfold ebN; rw [lf_congr h]
theorem fb_congr {x y w : Nat} (h : x % 2 ^ w = y % 2 ^ w) : fbN x w = fbN y w := by unfold fbN; rw [lf_congr h, eb_congr h]
theorem tail_congr {x y w : Nat} (h : x % 2 ^ w = y % 2 ^ w) : x % 2 ^ lfN x w = y % 2 ^ lfN y w := by
  have hl : lfN x w ≤ w := by unfold lfN; omega
  rw [← mod_pow_mod x hl, h, lf_congr h, mod_pow_mod y (by rw [← lf_congr h]; exact hl)]
theorem eN_tail (x w : Nat) : eN x w = x % 2 ^ lfN x w / 2 ^ fbN x w := by
  rw [tail_split, Nat.mul_comm, Nat.mul_add_div (Nat.pow_pos (by decide)), Nat.div_eq_of_lt (frN_lt x w), Nat.add_zero]
theorem frN_tail (x w : Nat) : frN x w = x % 2 ^ lfN x w % 2 ^ fbN x w := by
  rw [tail_split, Nat.mul_comm, Nat.mul_add_mod, Nat.mod_eq_of_lt (frN_lt x w)]
theorem eN_congr {x y w : Nat} (h : x % 2 ^ w = y % 2 ^ w) : eN x w = eN y w := by rw [eN_tail, eN_tail, tail_congr h, fb_congr h]
theorem frN_congr {x y w : Nat} (h : x % 2 ^ w = y % 2 ^ w) : frN x w = frN y w := by rw [frN_tail, frN_tail, tail_congr h, fb_congr h]
theorem exN_congr {x y w : Nat} (h : x % 2 ^ w = y % 2 ^ w) : exN x w = exN y w := by unfold exN; rw [eN_congr h, eb_congr h]
theorem rg_congr {x y w : Nat} (h : x % 2 ^ w = y % 2 ^ w) : rgI x w = rgI y w := by unfold rgI; rw [top_congr h, run_congr h]
theorem ab_congr {n : Nat} (h : Wd n) {p q : Nat} (hp : p < 18446744073709551616) (hq : q < 18446744073709551616) (e : p % 2 ^ n = q % 2 ^ n) : abN n p % 2 ^ (n - 1) = abN n q % 2 ^ (n - 1) := by
  unfold abN
  rw [top_congr e]
  split
  · unfold ngN
    rcases h with rfl | rfl | rfl | rfl <;> simp only [Nat.reducePow, Nat.reduceSub] at e ⊢ <;> omega
  · rcases h with rfl | rfl | rfl | rfl <;> simp only [Nat.reducePow, Nat.reduceSub] at e ⊢ <;> omega
theorem split_congr {ε : Type} {n : Nat} (h : Wd n) {p q : Nat} (hp : p < 18446744073709551616) (hq : q < 18446744073709551616) (e : p % 2 ^ n = q % 2 ^ n) (z : ε) : splitT n p z = splitT n q z := by
  have a := ab_congr h hp hq e
  unfold splitT kindN
  rw [e, top_congr e, top_congr a, run_congr a, rg_congr a, eb_congr a, exN_congr a, fb_congr a, frN_congr a]
theorem means_congr {ε : Type} {n : Nat} (h : Wd n) {p q : Nat} (hp : p < 18446744073709551616) (hq : q < 18446744073709551616) (e : p % 2 ^ n = q % 2 ^ n) (z : ε) : meansT n p z = meansT n q z := by
  have a := ab_congr h hp hq e
  unfold meansT kindN scI mtN
  rw [e, top_congr e, rg_congr a, exN_congr a, fb_congr a, frN_congr a]
theorem mod_lt64 {n : Nat} (h : Wd n) (a : Nat) : a % 2 ^ n < 18446744073709551616 := Nat.lt_of_lt_of_le (Nat.mod_lt _ (Nat.pow_pos (by decide))) (pow_le64 h.le)
/-- A size with its sign is the pattern. -/
def signN (n : Nat) (neg : Bool) (m : Nat) : Nat := if neg = true then ngN m % 2 ^ n else m
theorem sign_back {n p : Nat} (h : Wd n) (hp : p < 18446744073709551616) (hk : kindN n p = 1) : signN n (topB p n) (abN n p % 2 ^ (n - 1)) = p % 2 ^ n := by
  have h1 : p % 2 ^ n ≠ 0 := by intro g; unfold kindN at hk; rw [if_pos g] at hk; omega
  have h2 : p % 2 ^ n ≠ 2 ^ (n - 1) := by intro g; unfold kindN at hk; rw [if_neg h1, if_pos g] at hk; omega
  unfold signN abN
  by_cases ht : topB p n = true
  · rw [if_pos ht, if_pos ht]
    unfold topB at ht
    rw [decide_eq_true_eq] at ht
    unfold ngN
    rcases h with rfl | rfl | rfl | rfl <;> simp only [Nat.reducePow, Nat.reduceSub] at * <;> omega
  · rw [if_neg ht, if_neg ht]
    unfold topB at ht
    rw [decide_eq_true_eq] at ht
    rcases h with rfl | rfl | rfl | rfl <;> simp only [Nat.reducePow, Nat.reduceSub] at * <;> omega
theorem sign_lt {n : Nat} (h : Wd n) (b : Bool) {m : Nat} (hm : m < 18446744073709551616) : signN n b m < 18446744073709551616 := by unfold signN; split; exact mod_lt64 h _; exact hm
theorem ab_pos {n p : Nat} (h : Wd n) (hp : p < 18446744073709551616) (hk : kindN n p = 1) : 0 < abN n p % 2 ^ (n - 1) := by
  have h1 : p % 2 ^ n ≠ 0 := by intro g; unfold kindN at hk; rw [if_pos g] at hk; omega
  have h2 : p % 2 ^ n ≠ 2 ^ (n - 1) := by intro g; unfold kindN at hk; rw [if_neg h1, if_pos g] at hk; omega
  unfold abN
  by_cases ht : topB p n = true
  · rw [if_pos ht]
    unfold topB at ht
    rw [decide_eq_true_eq] at ht
    unfold ngN
    rcases h with rfl | rfl | rfl | rfl <;> simp only [Nat.reducePow, Nat.reduceSub] at * <;> omega
  · rw [if_neg ht]
    unfold topB at ht
    rw [decide_eq_true_eq] at ht
    rcases h with rfl | rfl | rfl | rfl <;> simp only [Nat.reducePow, Nat.reduceSub] at * <;> omega

/-- The parts of a Real. -/
abbrev F8 := Bool × Bool × Int × Int × Int × Int × Int × Int
noncomputable instance F8.dec (a b : F8) : Decidable (a = b) := Classical.propDecidable (a = b)
def partsF (n p : Nat) : F8 := (topB p n, topB (abN n p) (n - 1), (runN (abN n p) (n - 1) : Int), rgI (abN n p) (n - 1), (ebN (abN n p) (n - 1) : Int), (exN (abN n p) (n - 1) : Int), (fbN (abN n p) (n - 1) : Int), (frN (abN n p) (n - 1) : Int))
def F8.with {ε : Type} (f : F8) (e : ε) : Bool × Bool × Int × Int × Int × Int × Int × Int × ε := (f.1, f.2.1, f.2.2.1, f.2.2.2.1, f.2.2.2.2.1, f.2.2.2.2.2.1, f.2.2.2.2.2.2.1, f.2.2.2.2.2.2.2, e)
def splitF (n p : Nat) : F8 := if kindN n p = 1 then partsF n p else (false, false, 0, 0, 0, 0, 0, 0)
theorem splitT_F {ε : Type} (n p : Nat) (e : ε) : splitT n p e = (splitF n p).with e := by
  unfold splitT splitF; split <;> rfl
theorem ne8 (a1 b1 a2 b2 : Bool) (a3 b3 a4 b4 a5 b5 a6 b6 a7 b7 a8 b8 : Int) : ((!(a1 == b1) || (!(a2 == b2) || (!(a3 == b3) || (!(a4 == b4) || (!(a5 == b5) || (!(a6 == b6) || (!(a7 == b7) || (!(a8 == b8))))))))) = true) ↔ ¬ ((a1, a2, a3, a4, a5, a6, a7, a8) : F8) = (b1, b2, b3, b4, b5, b6, b7, b8) := by
  simp only [Bool.or_eq_true, Bool.not_eq_true', beq_eq_false_iff_ne, Prod.mk.injEq]
  constructor
  · rintro (h | h | h | h | h | h | h | h) ⟨e1, e2, e3, e4, e5, e6, e7, e8⟩ <;> contradiction
  · intro h
    by_cases e1 : a1 = b1
    · by_cases e2 : a2 = b2
      · by_cases e3 : a3 = b3
        · by_cases e4 : a4 = b4
          · by_cases e5 : a5 = b5
            · by_cases e6 : a6 = b6
              · by_cases e7 : a7 = b7
                · by_cases e8 : a8 = b8
                  · exact absurd ⟨e1, e2, e3, e4, e5, e6, e7, e8⟩ h
                  · simp [e8]
                · simp [e7]
              · simp [e6]
            · simp [e5]
          · simp [e4]
        · simp [e3]
      · simp [e2]
    · simp [e1]
/-- There is a pattern with these parts. -/
def Good (n : Nat) (f : F8) (p : Nat) : Prop := p < 2 ^ n ∧ kindN n p = 1 ∧ partsF n p = f
theorem good_word {n p : Nat} {f : F8} (h : Wd n) (g : Good n f p) : p < 18446744073709551616 := Nat.lt_of_lt_of_le g.1 (pow_le64 h.le)
theorem good_of {n q : Nat} {f : F8} (h : Wd n) (hq : q < 18446744073709551616) (hr : f.2.2.1 ≠ 0) (e : splitF n q = f) : Good n f (q % 2 ^ n) := by
  have hm := mod_lt64 h q
  have em : q % 2 ^ n % 2 ^ n = q % 2 ^ n := Nat.mod_mod _ _
  refine ⟨Nat.mod_lt _ (Nat.pow_pos (by decide)), ?_⟩
  have hk : kindN n (q % 2 ^ n) = kindN n q := by unfold kindN; rw [em]
  by_cases g : kindN n q = 1
  · refine ⟨by rw [hk]; exact g, ?_⟩
    have s := split_congr h hm hq em ()
    rw [splitT_F, splitT_F] at s
    have s2 : splitF n (q % 2 ^ n) = splitF n q := by
      simp only [F8.with, Prod.mk.injEq] at s
      obtain ⟨s1, s2, s3, s4, s5, s6, s7, s8, _⟩ := s
      exact Prod.ext s1 (Prod.ext s2 (Prod.ext s3 (Prod.ext s4 (Prod.ext s5 (Prod.ext s6 (Prod.ext s7 s8))))))
    rw [e] at s2
    unfold splitF at s2
    rw [if_pos (by rw [hk]; exact g)] at s2
    exact s2
  · unfold splitF at e
    rw [if_neg g] at e
    rw [← e] at hr
    exact absurd rfl hr
theorem good_split {n p : Nat} {f : F8} (g : Good n f p) : splitF n p = f := by unfold splitF; rw [if_pos g.2.1]; exact g.2.2

/-- The program's word out of parts. -/
def jbN (n : Nat) (ones : Bool) (run : Nat) : Nat := if ones = true then putN 0 (n - 1 - run) run (2 ^ (n - 1) - 1) else if run < n - 1 then 2 ^ (n - 2 - run) else 0
def jmN (n : Nat) (ones : Bool) (run eb ex fb fr : Nat) : Nat := (jbN n ones run ||| (ex / 2 ^ (2 - eb) * 2 ^ fb % 18446744073709551616 &&& (2 ^ (n - 1) - 1))) ||| (fr &&& (2 ^ (n - 1) - 1))
theorem jb_base {n x : Nat} (h : Wd n) : jbN n (topB x (n - 1)) (runN x (n - 1)) = baseN x (n - 1) := by
  have h2 := h.ge
  have hr := runN_le x (n - 1)
  unfold jbN baseN
  split
  · unfold putN
    have e : (2 ^ (n - 1) - 1) % 2 ^ runN x (n - 1) = 2 ^ runN x (n - 1) - 1 := by
      have p := pow_split hr
      have q : 0 < 2 ^ runN x (n - 1) := Nat.pow_pos (by decide)
      have q2 : 0 < 2 ^ (n - 1 - runN x (n - 1)) := Nat.pow_pos (by decide)
      rw [p]
      generalize 2 ^ runN x (n - 1) = a at *
      generalize 2 ^ (n - 1 - runN x (n - 1)) = b at *
      obtain ⟨t, rfl⟩ : ∃ t, b = t + 1 := ⟨b - 1, by omega⟩
      rw [show a * (t + 1) - 1 = a * t + (a - 1) by rw [Nat.mul_succ]; omega, Nat.mul_add_mod, Nat.mod_eq_of_lt (by omega)]
    rw [e, Nat.zero_div, Nat.zero_mul, Nat.zero_mod, Nat.zero_add, Nat.add_zero]
  · split
    · rw [show n - 2 - runN x (n - 1) = n - 1 - 1 - runN x (n - 1) by omega]
    · rfl
theorem jb_lt {n run : Nat} (h : Wd n) (hr : run ≤ n - 1) (ones : Bool) : jbN n ones run < 18446744073709551616 := by
  have h1 := h.le
  have h2 := h.ge
  unfold jbN
  split
  · unfold putN
    rw [Nat.zero_div, Nat.zero_mul, Nat.zero_mod, Nat.zero_add, Nat.add_zero]
    have q : (2 ^ (n - 1) - 1) % 2 ^ run < 2 ^ run := Nat.mod_lt _ (Nat.pow_pos (by decide))
    have p := pow_split hr
    have p64 : 2 ^ (n - 1) ≤ 18446744073709551616 := pow_le64 (by omega)
    have := Nat.mul_lt_mul_of_pos_right q (Nat.pow_pos (n := n - 1 - run) (show 0 < 2 by decide))
    omega
  · split
    · have : 2 ^ (n - 2 - run) < 2 ^ 64 := Nat.pow_lt_pow_right (by decide) (by omega)
      rw [← p64']; exact this
    · decide
theorem jm_lt {n run eb ex fb fr : Nat} (h : Wd n) (hr : run ≤ n - 1) (hf : fr < 18446744073709551616) (ones : Bool) : jmN n ones run eb ex fb fr < 18446744073709551616 := by
  unfold jmN
  rw [← p64'] at *
  refine Nat.or_lt_two_pow (Nat.or_lt_two_pow (by rw [p64']; exact jb_lt h hr ones) ?_) ?_
  · exact Nat.lt_of_le_of_lt Nat.and_le_left (Nat.mod_lt _ (Nat.pow_pos (by decide)))
  · exact Nat.lt_of_le_of_lt Nat.and_le_left hf
theorem jm_whole {n x : Nat} (h : Wd n) : jmN n (topB x (n - 1)) (runN x (n - 1)) (ebN x (n - 1)) (exN x (n - 1)) (fbN x (n - 1)) (frN x (n - 1)) = x % 2 ^ (n - 1) := by
  have h1 := h.le
  have h2 := h.ge
  have hw : 0 < n - 1 := by omega
  have he := eN_lt x (n - 1)
  have hf := frN_lt x (n - 1)
  have hs := lf_split x (n - 1)
  have hl := lfN_lt (x := x) hw
  have p1 : 2 ^ lfN x (n - 1) ≤ 2 ^ (n - 1) := Nat.pow_le_pow_right (by decide) (by omega)
  have p2 : 2 ^ fbN x (n - 1) ≤ 2 ^ (n - 1) := Nat.pow_le_pow_right (by decide) (by omega)
  have p3 := pow_le64 (show n - 1 ≤ 64 by omega)
  have hel : eN x (n - 1) * 2 ^ fbN x (n - 1) < 2 ^ lfN x (n - 1) := by
    rw [hs, Nat.pow_add, Nat.mul_comm (2 ^ fbN x (n - 1))]
    exact Nat.mul_lt_mul_of_pos_right he (Nat.pow_pos (by decide))
  have hb := base_mod (x := x) hw
  unfold jmN
  rw [jb_base h, exN_div, Nat.and_two_pow_sub_one_eq_mod, Nat.and_two_pow_sub_one_eq_mod, Nat.mod_eq_of_lt (a := eN x (n - 1) * 2 ^ fbN x (n - 1)) (by omega), Nat.mod_eq_of_lt (a := eN x (n - 1) * 2 ^ fbN x (n - 1)) (by omega), Nat.mod_eq_of_lt (a := frN x (n - 1)) (by omega), whole_split hw]
  obtain ⟨b, hb2⟩ : ∃ b, baseN x (n - 1) = 2 ^ lfN x (n - 1) * b := ⟨_, (Nat.mul_div_cancel' (Nat.dvd_of_mod_eq_zero hb)).symm⟩
  rw [hb2, ← Nat.two_pow_add_eq_or_of_lt hel, hs, Nat.pow_add]
  rw [show 2 ^ fbN x (n - 1) * 2 ^ ebN x (n - 1) * b + eN x (n - 1) * 2 ^ fbN x (n - 1) = 2 ^ fbN x (n - 1) * (2 ^ ebN x (n - 1) * b + eN x (n - 1)) by grind]
  rw [← Nat.two_pow_add_eq_or_of_lt hf]
/-- May these parts be? -/
def okF (n : Nat) (f : F8) : Prop := 1 ≤ f.2.2.1 ∧ f.2.2.1 ≤ (n : Int) - 1 ∧ 0 ≤ f.2.2.2.2.1 ∧ f.2.2.2.2.1 ≤ 2 ∧ 0 ≤ f.2.2.2.2.2.1 ∧ f.2.2.2.2.2.1 ≤ 3 ∧ 0 ≤ f.2.2.2.2.2.2.1 ∧ f.2.2.2.2.2.2.1 ≤ (n : Int)
theorem parts_ok {n p : Nat} (h : Wd n) : okF n (partsF n p) := by
  have h2 := h.ge
  have hr := runN_le (abN n p) (n - 1)
  have hr0 := runN_pos (x := abN n p) (n := n - 1) (by omega)
  have he := eb_le (abN n p) (n - 1)
  have hx := exN_lt (abN n p) (n - 1)
  have hf := fb_le (x := abN n p) (w := n - 1) (by omega)
  simp only [okF, partsF]
  omega
theorem Join_j1 {n run eb ex fb fr b : Nat} {neg ones : Bool} {rg : Int} {x1 x2 x3 x4 : Int} (h : Wd n) (hr : run ≤ n - 1) (heb : eb ≤ 2) (hex : ex ≤ 3) (hfr : fr < 18446744073709551616) (hb : b = jbN n ones run) :
    Ev (fun k => codec_Join.j1 k (n : Int) (b : Int) neg ones (run : Int) rg (eb : Int) (ex : Int) (fb : Int) (fr : Int) x1 ((2 ^ (n - 1) - 1 : Nat) : Int) x2 x3 x4)
      (if splitF n (signN n neg (jmN n ones run eb ex fb fr)) = (neg, ones, (run : Int), rg, (eb : Int), (ex : Int), (fb : Int), (fr : Int)) then ((signN n neg (jmN n ones run eb ex fb fr) : Int), none) else (0, some 23)) := by
  have h1 := h.le
  have h2 := h.ge
  have hj := jb_lt h hr ones
  have hm := jm_lt (eb := eb) (ex := ex) (fb := fb) h hr hfr ones
  have p3 := pow_le64 (show n - 1 ≤ 64 by omega)
  have p0 : 0 < 2 ^ (n - 1) := Nat.pow_pos (by decide)
  have e1 : wrap64 (2 - (eb : Int)) = ((2 - eb : Nat) : Int) := by rw [w64 (by omega) (by omega)]; omega
  have e2 : Go.bits .or .u64 (Go.bits .or .u64 (b : Int) (Go.bits .and .u64 (shl .u64 (shr .u64 (IntKind.u64.wrap (ex : Int)) ((2 - eb : Nat) : Int)) (fb : Int)) ((2 ^ (n - 1) - 1 : Nat) : Int))) (Go.bits .and .u64 (fr : Int) ((2 ^ (n - 1) - 1 : Nat) : Int)) = ((jmN n ones run eb ex fb fr : Nat) : Int) := by
    have l1 : (ex / 2 ^ (2 - eb) * 2 ^ fb % 18446744073709551616 &&& (2 ^ (n - 1) - 1)) < 18446744073709551616 := Nat.lt_of_le_of_lt Nat.and_le_left (Nat.mod_lt _ (by decide))
    have l2 : (fr &&& (2 ^ (n - 1) - 1)) < 18446744073709551616 := Nat.lt_of_le_of_lt Nat.and_le_left hfr
    have l3 : (jbN n ones run ||| (ex / 2 ^ (2 - eb) * 2 ^ fb % 18446744073709551616 &&& (2 ^ (n - 1) - 1))) < 18446744073709551616 := by rw [← p64'] at *; exact Nat.or_lt_two_pow hj l1
    rw [u64s (by omega) (by omega), shr_nat (by omega), shl_nat, and_nat (Nat.mod_lt _ (by decide)) (by omega), and_nat hfr (by omega), hb, or_nat hj l1, or_nat l3 l2]
    rfl
  refine Ev.step (fun k => by simp only [codec_Join.j1]; rfl) ?_
  rw [e1, e2]
  refine Ev.congr (fun k => by rw [if_pos (by omega), if_pos (by omega)]) ?_
  cases neg with
  | true =>
    refine Ev.congr (fun k => if_pos rfl) ?_
    have hl : signN n true (jmN n ones run eb ex fb fr) < 18446744073709551616 := sign_lt h true hm
    have hs := Split_ev h hl
    rw [splitT_F] at hs
    have hF : shape_Fold.f (n : Int) (ngN (jmN n ones run eb ex fb fr) : Int) = some ((signN n true (jmN n ones run eb ex fb fr) : Int), none) := Fold_eq h (ngN_lt _)
    rw [neg_word hm]
    refine Ev.bindp hF (Ev.bind hs ?_)
    generalize splitF n (signN n true (jmN n ones run eb ex fb fr)) = g
    obtain ⟨g1, g2, g3, g4, g5, g6, g7, g8⟩ := g
    simp only [F8.with]
    by_cases hg : ((g1, g2, g3, g4, g5, g6, g7, g8) : F8) = (true, ones, (run : Int), rg, (eb : Int), (ex : Int), (fb : Int), (fr : Int))
    · rw [if_pos hg]; exact Ev.congr (fun k => if_neg (fun hh => (ne8 ..).mp hh hg)) (Ev.now _)
    · rw [if_neg hg]; exact Ev.congr (fun k => if_pos ((ne8 ..).mpr hg)) (Ev.now _)
  | false =>
    refine Ev.congr (fun k => if_neg (by decide)) ?_
    have hs := Split_ev h hm
    rw [splitT_F] at hs
    refine Ev.bind hs ?_
    have es : signN n false (jmN n ones run eb ex fb fr) = jmN n ones run eb ex fb fr := rfl
    rw [es]
    generalize splitF n (jmN n ones run eb ex fb fr) = g
    obtain ⟨g1, g2, g3, g4, g5, g6, g7, g8⟩ := g
    simp only [F8.with]
    by_cases hg : ((g1, g2, g3, g4, g5, g6, g7, g8) : F8) = (false, ones, (run : Int), rg, (eb : Int), (ex : Int), (fb : Int), (fr : Int))
    · rw [if_pos hg]; exact Ev.congr (fun k => if_neg (fun hh => (ne8 ..).mp hh hg)) (Ev.now _)
    · rw [if_neg hg]; exact Ev.congr (fun k => if_pos ((ne8 ..).mpr hg)) (Ev.now _)
theorem Join_j0 {n run eb ex fb fr : Nat} {neg ones : Bool} {rg : Int} {x1 x2 x3 x4 : Int} (h : Wd n) (hr0 : 1 ≤ run) (hr : run ≤ n - 1) (heb : eb ≤ 2) (hex : ex ≤ 3) (hfr : fr < 18446744073709551616) :
    Ev (fun k => codec_Join.j0 k (n : Int) false neg ones (run : Int) rg (eb : Int) (ex : Int) (fb : Int) (fr : Int) x1 ((2 ^ (n - 1) - 1 : Nat) : Int) x2 x3 x4)
      (if splitF n (signN n neg (jmN n ones run eb ex fb fr)) = (neg, ones, (run : Int), rg, (eb : Int), (ex : Int), (fb : Int), (fr : Int)) then ((signN n neg (jmN n ones run eb ex fb fr) : Int), none) else (0, some 23)) := by
  have h1 := h.le
  have h2 := h.ge
  have hj := jb_lt h hr ones
  have p3 := pow_le64 (show n - 1 ≤ 64 by omega)
  have p0 : 0 < 2 ^ (n - 1) := Nat.pow_pos (by decide)
  have e1 : wrap64 (((n - 1 : Nat) : Int) - (run : Int)) = ((n - 1 - run : Nat) : Int) := by rw [w64 (by omega) (by omega)]; omega
  have e2 : wrap64 (wrap64 ((n : Int) - 2) - (run : Int)) = (n : Int) - 2 - (run : Int) := by rw [w64 (x := (n : Int) - 2) (by omega) (by omega), w64 (by omega) (by omega)]
  refine Ev.step (fun k => by simp only [codec_Join.j0]; rw [if_neg (by decide)]) ?_
  rw [pred_w h, e1, e2]
  cases ones with
  | true =>
    have hP := Put_eq (x := 0) (a := n - 1 - run) (n := run) (v := 2 ^ (n - 1) - 1) (by decide) (by omega) (by omega)
    refine Ev.congr (fun k => if_pos rfl) (Ev.bindp hP ?_)
    exact Join_j1 h hr heb hex hfr rfl
  | false =>
    refine Ev.congr (fun k => if_neg (by decide)) ?_
    by_cases hlt : run < n - 1
    · refine Ev.congr (fun k => by rw [if_pos (by omega), if_pos (by omega)]) ?_
      have e3 : shl .u64 1 ((n : Int) - 2 - (run : Int)) = ((2 ^ (n - 2 - run) : Nat) : Int) := by
        rw [show (n : Int) - 2 - (run : Int) = ((n - 2 - run : Nat) : Int) by omega, shl_one (by omega)]
      rw [e3]
      exact Join_j1 h hr heb hex hfr (by unfold jbN; rw [if_neg (by decide), if_pos hlt])
    · refine Ev.congr (fun k => by rw [if_neg (by omega)]) ?_
      exact Join_j1 (b := 0) h hr heb hex hfr (by unfold jbN; rw [if_neg (by decide), if_neg hlt])
theorem Join_bad {n : Nat} {neg ones : Bool} {run rg eb ex fb fr : Int} (h : Wd n) (hb : ¬ okF n (neg, ones, run, rg, eb, ex, fb, fr)) : Ev (fun k => codec_Join.f k (n : Int) neg ones run rg eb ex fb fr) (0, some 23) := by
  have h1 := h.le
  have h2 := h.ge
  simp only [okF] at hb
  have no : ∀ {a b c d e : Int}, Ev (fun k => codec_Join.j0 k (n : Int) true neg ones run rg eb ex fb fr a b c d e) (0, some 23) := by
    intros
    exact Ev.step (f := fun k => some (0, some 23)) (fun k => by simp only [codec_Join.j0]; rfl) (Ev.now _)
  unfold codec_Join.f
  rw [Of_eq h]
  simp only [Option.bind_some, Option.isNone_none, ↓reduceIte, pred_w h]
  by_cases c1 : run < 1
  · exact Ev.congr (fun k => if_pos c1) no
  · refine Ev.congr (fun k => if_neg c1) ?_
    by_cases c2 : run > ((n - 1 : Nat) : Int)
    · exact Ev.congr (fun k => if_pos c2) no
    · refine Ev.congr (fun k => if_neg c2) ?_
      by_cases c3 : eb < 0
      · exact Ev.congr (fun k => if_pos c3) no
      · refine Ev.congr (fun k => if_neg c3) ?_
        by_cases c4 : eb > 2
        · exact Ev.congr (fun k => if_pos c4) no
        · refine Ev.congr (fun k => if_neg c4) ?_
          by_cases c5 : ex < 0
          · exact Ev.congr (fun k => if_pos c5) no
          · refine Ev.congr (fun k => if_neg c5) ?_
            by_cases c6 : ex > 3
            · exact Ev.congr (fun k => if_pos c6) no
            · refine Ev.congr (fun k => if_neg c6) ?_
              by_cases c7 : fb < 0
              · exact Ev.congr (fun k => if_pos c7) no
              · refine Ev.congr (fun k => if_neg c7) ?_
                rw [decide_eq_true (show fb > (n : Int) by omega)]
                exact no
theorem Join_ok {n run eb ex fb fr : Nat} {neg ones : Bool} {rg : Int} (h : Wd n) (hb : okF n (neg, ones, (run : Int), rg, (eb : Int), (ex : Int), (fb : Int), (fr : Int))) (hfr : fr < 18446744073709551616) :
    Ev (fun k => codec_Join.f k (n : Int) neg ones (run : Int) rg (eb : Int) (ex : Int) (fb : Int) (fr : Int)) (if splitF n (signN n neg (jmN n ones run eb ex fb fr)) = (neg, ones, (run : Int), rg, (eb : Int), (ex : Int), (fb : Int), (fr : Int)) then ((signN n neg (jmN n ones run eb ex fb fr) : Int), none) else (0, some 23)) := by
  have h1 := h.le
  have h2 := h.ge
  simp only [okF] at hb
  unfold codec_Join.f
  rw [Of_eq h]
  simp only [Option.bind_some, Option.isNone_none, ↓reduceIte, pred_w h]
  refine Ev.congr (fun k => by rw [if_neg (by omega), if_neg (by omega), if_neg (by omega), if_neg (by omega), if_neg (by omega), if_neg (by omega), if_neg (by omega), decide_eq_false (by omega)]) ?_
  exact Join_j0 h (by omega) (by omega) (by omega) (by omega) hfr
theorem Join_no {a : Int} {neg ones : Bool} {run rg eb ex fb fr : Int} (h : NoW a) : Ev (fun k => codec_Join.f k a neg ones run rg eb ex fb fr) (0, some 2) := by
  unfold codec_Join.f
  rw [Of_no h]
  simp only [Option.bind_some, Option.isNone_some, Bool.false_eq_true, ↓reduceIte, Option.getD_some]
  exact Ev.now _
/-- Where there is a pattern with these parts it is the answer; where there is none the program refuses. -/
theorem Join_good {n p : Nat} (h : Wd n) (hp : p < 2 ^ n) (hk : kindN n p = 1) : Ev (fun k => codec_Join.f k (n : Int) (partsF n p).1 (partsF n p).2.1 (partsF n p).2.2.1 (partsF n p).2.2.2.1 (partsF n p).2.2.2.2.1 (partsF n p).2.2.2.2.2.1 (partsF n p).2.2.2.2.2.2.1 (partsF n p).2.2.2.2.2.2.2) ((p : Int), none) := by
  have h1 := h.le
  have h2 := h.ge
  have hw : p < 18446744073709551616 := Nat.lt_of_lt_of_le hp (pow_le64 h.le)
  have hok := parts_ok (p := p) h
  have hf := frN_lt (abN n p) (n - 1)
  have hf2 := fb_le (x := abN n p) (w := n - 1) (by omega)
  have hf3 := pow_le64 (show fbN (abN n p) (n - 1) ≤ 64 by omega)
  have hj := Join_ok (neg := topB p n) (ones := topB (abN n p) (n - 1)) (run := runN (abN n p) (n - 1)) (rg := rgI (abN n p) (n - 1)) (eb := ebN (abN n p) (n - 1)) (ex := exN (abN n p) (n - 1)) (fb := fbN (abN n p) (n - 1)) (fr := frN (abN n p) (n - 1)) h hok (by omega)
  rw [jm_whole h, sign_back h hw hk, Nat.mod_eq_of_lt hp] at hj
  have hs : splitF n p = partsF n p := by unfold splitF; rw [if_pos hk]
  rw [hs, if_pos (show partsF n p = (topB p n, topB (abN n p) (n - 1), (runN (abN n p) (n - 1) : Int), rgI (abN n p) (n - 1), (ebN (abN n p) (n - 1) : Int), (exN (abN n p) (n - 1) : Int), (fbN (abN n p) (n - 1) : Int), (frN (abN n p) (n - 1) : Int)) from rfl)] at hj
  exact hj
theorem Join_none {n : Nat} {neg ones : Bool} {run rg eb ex fb fr : Int} (h : Wd n) (hfr : 0 ≤ fr ∧ fr < 18446744073709551616) (hno : ∀ p, ¬ Good n (neg, ones, run, rg, eb, ex, fb, fr) p) : Ev (fun k => codec_Join.f k (n : Int) neg ones run rg eb ex fb fr) (0, some 23) := by
  by_cases hok : okF n (neg, ones, run, rg, eb, ex, fb, fr)
  · have hok2 := hok
    simp only [okF] at hok2
    obtain ⟨r, rfl⟩ := Int.eq_ofNat_of_zero_le (show 0 ≤ run by omega)
    obtain ⟨e, rfl⟩ := Int.eq_ofNat_of_zero_le (show 0 ≤ eb by omega)
    obtain ⟨x, rfl⟩ := Int.eq_ofNat_of_zero_le (show 0 ≤ ex by omega)
    obtain ⟨b, rfl⟩ := Int.eq_ofNat_of_zero_le (show 0 ≤ fb by omega)
    obtain ⟨f, rfl⟩ := Int.eq_ofNat_of_zero_le (show 0 ≤ fr by omega)
    have hj := Join_ok h hok (by omega)
    have hm := jm_lt (eb := e) (ex := x) (fb := b) (fr := f) h (show r ≤ n - 1 by have := h.ge; omega) (by omega) ones
    have hn : ¬ splitF n (signN n neg (jmN n ones r e x b f)) = (neg, ones, (r : Int), rg, (e : Int), (x : Int), (b : Int), (f : Int)) := fun hh => hno _ (good_of h (sign_lt h neg hm) (by simp only; omega) hh)
    rw [if_neg hn] at hj
    exact hj
  · exact Join_bad h hok
end Go.Proofs.Ytmofdimkdkfdgaa.M
