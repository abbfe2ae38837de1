/- For any number n and every two patterns: one on and one back leads to the same pattern; each step is one rank; Min and Max are the two; Clamp holds between them. No conditions. -/
import Derived.Test.YtikbelfghkfnnaaF5a
import Derived.Test.YtikbelfghkfnnaaOrdera
namespace Go.Proofs.Ytikbelfghkfnnaa.Pure
open Go.RowKit Go.Proofs.YtikbelfghkfnnaaW.PrintWords Go.Proofs.YtikbelfghkfnnaaW.PrintLast Go.Proofs.YtikbelfghkfnnaaW.PrintMore Go.Proofs.Ytikbelfghkfnnaa.F Go.Proofs.Ytikbelfghkfnnaa.M
set_option linter.unusedVariables false
set_option linter.unusedSimpArgs false
theorem next_cases {n p : Nat} (h : Wd n) : (nextP n p = p % 2 ^ n ∧ ext (nextP n p) n = ext p n) ∨ (ext (nextP n p) n = ext p n + 1 ∧ prevP n (nextP n p) = p % 2 ^ n) := by
  by_cases c : p % 2 ^ n = 2 ^ (n - 1) ∨ p % 2 ^ n = 2 ^ (n - 1) - 1
  · left
    have e : nextP n p = p % 2 ^ n := by unfold nextP; rw [if_pos c]
    exact ⟨e, by rw [e, ext_mod]⟩
  · right
    have e : nextP n p = (p % 2 ^ n + 1) % 2 ^ n := by unfold nextP; rw [if_neg c]
    rw [e]
    rcases h with rfl | rfl | rfl | rfl <;> simp only [ext, prevP, Nat.reduceSub, Nat.reducePow] at c ⊢ <;> (refine ⟨?_, ?_⟩ <;> (repeat split) <;> omega)
theorem nextP_lt {n : Nat} (h : Wd n) (p : Nat) : nextP n p < 18446744073709551616 := by unfold nextP; split <;> exact mod_lt64 h _
theorem prevP_lt {n : Nat} (h : Wd n) (p : Nat) : prevP n p < 18446744073709551616 := by unfold prevP; split <;> exact mod_lt64 h _
theorem chain_j1 {n p q : Nat} (h : Wd n) (hp : p < 18446744073709551616) (hq : q < 18446744073709551616) : Ev (fun k => vernierlaw08_OrderChain.j1 k (n : Int) (p : Int) (q : Int) (nextP n p : Int) false) true := by
  have hl := minP_lt h p q
  have hh := maxP_lt h p q
  have hn := nextP_lt h p
  have e1 := ext_minP (n := n) p q
  have e2 := ext_maxP (n := n) p q
  have hle : ext (minP n p q) n ≤ ext (maxP n p q) n := by rw [e1, e2]; split <;> omega
  have hst : stepsP n (minP n p q) (maxP n p q) = stepsP n q p := by unfold stepsP; rw [e1, e2]; split <;> (repeat split) <;> omega
  refine Ev.step (fun k => by simp only [vernierlaw08_OrderChain.j1]; rw [if_neg (by decide)]) (Ev.bindp (oMin_eq h hp hq) (Ev.bindp (oMax_eq h hp hq) (Ev.bindp (oSteps_eq h hl hh) (Ev.bindp (oSteps_eq h hq hp) (Ev.bind (oClamp_ev h hn hl hh) ?_)))))
  unfold clampR
  by_cases c : narB n (nextP n p) = true ∨ narB n (minP n p q) = true ∨ narB n (maxP n p q) = true
  · rw [if_pos c]
    refine Ev.bindp (oCmp_eq h (show 0 < 18446744073709551616 by decide) hl) (Ev.bindp (oCmp_eq h hh (show 0 < 18446744073709551616 by decide)) ?_)
    simp only [Option.isNone_none, ↓reduceIte, Option.isNone_some, Bool.false_eq_true, Option.getD_some, hst]
    exact Ev.now _
  · rw [if_neg c, if_neg (by omega)]
    have hm := maxP_lt h (nextP n p) (minP n p q)
    have hr := minP_lt h (maxP n (nextP n p) (minP n p q)) (maxP n p q)
    have f1 := ext_maxP (n := n) (nextP n p) (minP n p q)
    have f2 := ext_minP (n := n) (maxP n (nextP n p) (minP n p q)) (maxP n p q)
    refine Ev.bindp (oCmp_eq h hr hl) (Ev.bindp (oCmp_eq h hh hr) ?_)
    simp only [Option.isNone_none, ↓reduceIte, hst]
    have g1 : ext (minP n p q) n ≤ ext (minP n (maxP n (nextP n p) (minP n p q)) (maxP n p q)) n := by rw [f2, f1]; split <;> (repeat split) <;> omega
    have g2 : ext (minP n (maxP n (nextP n p) (minP n p q)) (maxP n p q)) n ≤ ext (maxP n p q) n := by rw [f2, f1]; split <;> (repeat split) <;> omega
    have i1 : icmp (ext (minP n (maxP n (nextP n p) (minP n p q)) (maxP n p q)) n) (ext (minP n p q) n) ≥ 0 := by unfold icmp; split <;> (repeat split) <;> omega
    have i2 : icmp (ext (maxP n p q) n) (ext (minP n (maxP n (nextP n p) (minP n p q)) (maxP n p q)) n) ≥ 0 := by unfold icmp; split <;> (repeat split) <;> omega
    rw [decide_eq_true i2]
    exact Ev.congr (fun k => if_pos i1) (Ev.now _)
theorem OrderChain : vernierlaw08_OrderChain.Pure := by
  intro a0 a1 a2 w0 w1 w2
  obtain ⟨p, rfl, hp⟩ := word w1
  obtain ⟨q, rfl, hq⟩ := word w2
  refine Ev.rounds ?_
  unfold vernierlaw08_OrderChain.f
  refine Ev.bindp up08 ?_
  rcases width_or a0 with ⟨n, rfl, h⟩ | h
  · have hn := nextP_lt h p
    have hv := prevP_lt h (nextP n p)
    refine Ev.bindp (oNext_eq h hp) (Ev.bindp (oPrev_eq h hn) (Ev.bindp (oSteps_eq h hp hn) ?_))
    simp only [Option.isNone_none, ↓reduceIte]
    refine Ev.bindp (oCmp_eq h hp hn) ?_
    simp only [Option.isNone_none, ↓reduceIte]
    have hj := chain_j1 h hp hq
    have hc := oCmp_eq h hp hv
    rcases next_cases (p := p) h with ⟨c1, c2⟩ | ⟨c1, c2⟩
    · have s0 : stepsP n p (nextP n p) = 0 := by unfold stepsP; rw [c2]; split <;> omega
      have s1 : icmp (ext p n) (ext (nextP n p) n) = 0 := by unfold icmp; rw [c2]; split <;> (repeat split) <;> omega
      rw [s0, s1]
      refine Ev.congr (fun k => if_neg (by decide)) (Ev.congr (fun k => if_neg (by decide)) ?_)
      refine Ev.step (fun k => by simp only [vernierlaw08_OrderChain.j0]; rw [if_neg (by decide)]) (Ev.bindp hc ?_)
      exact Ev.congr (fun k => if_neg (by decide)) hj
    · have s0 : stepsP n p (nextP n p) = 1 := by unfold stepsP; rw [c1]; split <;> omega
      have s1 : icmp (ext p n) (ext (nextP n p) n) = -1 := by unfold icmp; rw [c1]; split <;> (repeat split) <;> omega
      have s2 : icmp (ext p n) (ext (prevP n (nextP n p)) n) = 0 := by rw [c2, ext_mod]; unfold icmp; split <;> (repeat split) <;> omega
      rw [s0, s1]
      rw [s2] at hc
      refine Ev.congr (fun k => if_neg (by decide)) (Ev.congr (fun k => if_neg (by decide)) ?_)
      refine Ev.step (fun k => by simp only [vernierlaw08_OrderChain.j0]; rw [if_neg (by decide)]) (Ev.bindp hc ?_)
      exact Ev.congr (fun k => if_pos (by decide)) (Ev.congr (fun k => if_pos (by decide)) hj)
  · refine Ev.bindp (oNext_no h) (Ev.bindp (oPrev_no h) (Ev.bindp (oSteps_no h) ?_))
    exact Ev.now _
end Go.Proofs.Ytikbelfghkfnnaa.Pure
