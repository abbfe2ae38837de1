/- For any number n and every two patterns: the order of ranks is the order of values, NaR below all; Neg turns it round. No conditions. -/
import Derived.Test.YtcokamomcnmocaaF11
import Derived.Test.YtcokamomcnmocaaOrd5
namespace Go.Proofs.Ytcokamomcnmocaa.Pure
open Go.RowKit Go.Proofs.YtcokamomcnmocaaW.PrintWords Go.Proofs.YtcokamomcnmocaaW.PrintLast Go.Proofs.YtcokamomcnmocaaW.PrintMore Go.Proofs.Ytcokamomcnmocaa.F Go.Proofs.Ytcokamomcnmocaa.M
set_option linter.unusedVariables false
set_option linter.unusedSimpArgs false
theorem OrderValues : vernierlaw08_OrderValues.Pure := by
  intro a0 a1 a2 w0 w1 w2
  obtain ⟨p, rfl, hp⟩ := word w1
  obtain ⟨q, rfl, hq⟩ := word w2
  refine Ev.rounds ?_
  unfold vernierlaw08_OrderValues.f
  refine Ev.bindp up08 ?_
  rcases width_or a0 with ⟨n, rfl, h⟩ | h
  · have hp2 := mod_lt64 h (ngN p)
    have hq2 := mod_lt64 h (ngN q)
    refine Ev.bindp (oCmp_v h hp hq) (Ev.bindp (Is_w h) ?_)
    simp only [↓reduceIte]
    refine Ev.bind (Decode06_v h hp) (Ev.bind (Decode06_v h hq) (Ev.bindp (oNeg_v h hp) (Ev.bindp (oNeg_v h hq) (Ev.bindp (oCmp_v h hq2 hp2) ?_))))
    simp only [↓reduceIte, Option.isNone_none]
    have em : ∀ x, ext (x % 2 ^ n) n = ext x n := fun x => by unfold ext; rw [Nat.mod_mod]
    rw [em, em]
    have kd : ∀ x, (meansT n x ()).1 = kindN n x := fun x => by
      unfold meansT
      by_cases k : kindN n x = 1
      · rw [if_pos k, k]
      · rw [if_neg k]
    have rg := fun x => ext_range h x
    have hh : 0 < 2 ^ (n - 1) := Nat.pow_pos (by decide)
    refine Ev.step (f := fun k => if kindN n p = 2 then vernierlaw08_OrderValues.j1 k (if ext p n < ext q n then -1 else if ext p n > ext q n then 1 else 0) (if ext (ngN q) n < ext (ngN p) n then -1 else if ext (ngN q) n > ext (ngN p) n then 1 else 0) (kindN n q == 2) (meansT n p ()).1 (meansT n p ()).2.1 (meansT n p ()).2.2.1 (meansT n p ()).2.2.2.1 (meansT n q ()).1 (meansT n q ()).2.1 (meansT n q ()).2.2.1 (meansT n q ()).2.2.2.1 else vernierlaw08_OrderValues.j1 k (if ext p n < ext q n then -1 else if ext p n > ext q n then 1 else 0) (if ext (ngN q) n < ext (ngN p) n then -1 else if ext (ngN q) n > ext (ngN p) n then 1 else 0) false (meansT n p ()).1 (meansT n p ()).2.1 (meansT n p ()).2.2.1 (meansT n p ()).2.2.2.1 (meansT n q ()).1 (meansT n q ()).2.1 (meansT n q ()).2.2.1 (meansT n q ()).2.2.2.1) (fun k => by simp only [vernierlaw08_OrderValues.j0]; rw [if_neg (by decide), kd, kd]) ?_
    by_cases kp : kindN n p = 2
    · refine Ev.congr (fun k => if_pos kp) ?_
      have ep := ext_least h kp
      by_cases kq : kindN n q = 2
      · have eq := ext_least h kq
        refine Ev.step (f := fun _ => some true) (fun k => ?_) (Ev.now _)
        simp only [vernierlaw08_OrderValues.j1]
        rw [if_pos (by rw [kq]; rfl), if_neg (by omega), if_neg (by omega)]; rfl
      · have lt : ext p n < ext q n := by
          have h1 := (rg q).1
          have h2 : ext q n ≠ -((2 ^ (n - 1) : Nat) : Int) := by
            intro g
            have : q % 2 ^ n = 2 ^ (n - 1) := by
              unfold ext at g
              have hl := Nat.mod_lt q (Nat.pow_pos (n := n) (show 0 < 2 by decide))
              have e2 : 2 ^ n = 2 * 2 ^ (n - 1) := by rw [← Nat.pow_succ']; congr 1; have := h.ge; omega
              split at g <;> omega
            apply kq
            unfold kindN
            rw [if_neg (by omega), if_pos this]
          omega
        refine Ev.step (f := fun _ => some true) (fun k => ?_) (Ev.now _)
        simp only [vernierlaw08_OrderValues.j1]
        rw [if_neg (by simpa using kq), kd, if_pos kp, if_pos lt]; rfl
    · refine Ev.congr (fun k => if_neg kp) ?_
      by_cases kq : kindN n q = 2
      · have eq := ext_least h kq
        have lt : ext q n < ext p n := by
          have h1 := (rg p).1
          have h2 : ext p n ≠ -((2 ^ (n - 1) : Nat) : Int) := by
            intro g
            have : p % 2 ^ n = 2 ^ (n - 1) := by
              unfold ext at g
              have hl := Nat.mod_lt p (Nat.pow_pos (n := n) (show 0 < 2 by decide))
              have e2 : 2 ^ n = 2 * 2 ^ (n - 1) := by rw [← Nat.pow_succ']; congr 1; have := h.ge; omega
              split at g <;> omega
            apply kp
            unfold kindN
            rw [if_neg (by omega), if_pos this]
          omega
        refine Ev.step (f := fun _ => some true) (fun k => ?_) (Ev.now _)
        simp only [vernierlaw08_OrderValues.j1]
        rw [if_neg (by decide), kd, if_neg kp, kd, if_pos kq, if_neg (by omega), if_pos (by omega)]; rfl
      · have kp' : kindN n p = 0 ∨ kindN n p = 1 := by rcases kind_cases n p with ⟨a, _⟩ | ⟨a, _⟩ | a; exact Or.inl a; exact absurd a kp; exact Or.inr a
        have kq' : kindN n q = 0 ∨ kindN n q = 1 := by rcases kind_cases n q with ⟨a, _⟩ | ⟨a, _⟩ | a; exact Or.inl a; exact absurd a kq; exact Or.inr a
        have hc := Cmp07_core (cp := (meansT n p ()).2.2.1) (cq := (meansT n q ()).2.2.1) (fp := (meansT n p ()).2.2.2.1) (fq := (meansT n q ()).2.2.2.1) (sign_v kp') (sign_v kq')
        rw [cmp_vcmp kp' kq', vcmp_eq h hp hq kp' kq'] at hc
        have o1 := Of07_v (n := n) (p := p) h (kind := (meansT n p ()).1) (neg := (meansT n p ()).2.1) (sc := (meansT n p ()).2.2.1) (fr := (meansT n p ()).2.2.2.1) rfl
        have o2 := Of07_v (n := n) (p := q) h (kind := (meansT n q ()).1) (neg := (meansT n q ()).2.1) (sc := (meansT n q ()).2.2.1) (fr := (meansT n q ()).2.2.2.1) rfl
        have t1 := ext_turn h hp kp
        have t2 := ext_turn h hq kq
        refine Ev.step (fun k => by simp only [vernierlaw08_OrderValues.j1]; rw [if_neg (by decide), kd, if_neg kp, kd, if_neg kq]) ?_
        rw [← kd p, ← kd q]
        refine Ev.bindp o1 (Ev.bindp o2 (Ev.bind hc ?_))
        refine Ev.congr (fun k => if_pos rfl) ?_
        rw [t1, t2]
        generalize ext p n = x
        generalize ext q n = y
        have : ((if -y < -x then (-1 : Int) else if -y > -x then 1 else 0) == if x < y then -1 else if x > y then 1 else 0) = true := by
          rw [beq_iff_eq]
          rcases Int.lt_trichotomy x y with c | c | c
          · rw [if_pos c, if_pos (by omega)]
          · subst c; rw [if_neg (by omega), if_neg (by omega), if_neg (by omega), if_neg (by omega)]
          · rw [if_neg (by omega), if_pos (by omega), if_neg (by omega), if_pos (by omega)]
        rw [this]
        exact Ev.now _
  · refine Ev.bindp (oCmp_no h) (Ev.bindp (Is_no h) ?_)
    exact Ev.now _
end Go.Proofs.Ytcokamomcnmocaa.Pure
