/- Of any width, pattern and mode: where ToInt or ToUint answers a number, what is rounded from it is what Whole answers, and it comes back from there; else only NaR or the range. No conditions. -/
import Derived.Test.YtlllaoihpkdpmaaF22d
import Derived.Test.YtlllaoihpkdpmaaBackd
namespace Go.Proofs.Ytlllaoihpkdpmaa.Pure
open Go.RowKit Go.Proofs.YtlllaoihpkdpmaaW.PrintWords Go.Proofs.YtlllaoihpkdpmaaW.PrintLast Go.Proofs.YtlllaoihpkdpmaaW.PrintMore Go.Proofs.Ytlllaoihpkdpmaa.F Go.Proofs.Ytlllaoihpkdpmaa.M
set_option linter.unusedVariables false
set_option linter.unusedSimpArgs false
theorem Whole_far {n p : Nat} {mode : Int} {neg : Bool} (hn : Wd n) (hp : p < 18446744073709551616) (h : Ev (fun k => ints_told.f k (n : Int) (p : Int) mode) (neg, true, 0, none)) : ∃ q : Int, Ev (fun k => ints_Whole.f k (n : Int) (p : Int) mode) (q, none) := by
  have e : wrap64 (64 - (n : Int)) = ((64 - n : Nat) : Int) := by have := hn.le; rw [w64 (by omega) (by omega)]; omega
  unfold ints_Whole.f
  refine ⟨shr .u64 (shl .u64 (p : Int) ((64 - n : Nat) : Int)) ((64 - n : Nat) : Int), Ev.bind h ?_⟩
  simp only [Option.isNone_none, ↓reduceIte, e]
  exact Ev.congr (fun k => if_pos (by omega)) (Ev.now _)
theorem Whole_err {a p mode e : Int} (h : Ev (fun k => ints_told.f k a p mode) (false, false, 0, some e)) : Ev (fun k => ints_Whole.f k a p mode) (0, some e) := by
  unfold ints_Whole.f; exact Ev.bind h (Ev.now _)
/-- What is near, told again. -/
theorem near_back {a0 a2 : Int} {n p m : Nat} {neg : Bool} {w : Nat} (hn : Wd n) (hw : w < 18446744073709551616) (hneg : neg = true → 0 < w) (hwd : Ev (fun k => vernierlaw16_width.f k a0) (n : Int)) (hpk : vernierlaw16_pick.f a2 4 = some (m : Int))
    (h1 : Ev (fun k => ints_told.f k (n : Int) (p : Int) (m : Int)) (neg, false, (w : Int), none)) (h2 : Ev (fun k => ints_told.f k (n : Int) (rdV n neg 0 w : Int) 0) (neg, false, (w : Int), none)) :
    Ev (fun k => vernierlaw16_IntsBack.f k a0 (p : Int) a2) true := by
  unfold vernierlaw16_IntsBack.f
  refine Ev.bind shown_ev (Ev.bind hwd (Ev.bindp hpk ?_))
  have eW := Whole_near hn hw h1
  have eI := ToInt_near hw h1
  have eU := ToUint_near h1
  have eB := ToInt_near hw h2
  have eF := FromUint_ev hn hw
  refine Ev.bind eW ?_
  by_cases g : 9223372036854775808 < w ∨ (w = 9223372036854775808 ∧ neg = false)
  · have ei : inT neg w (some 10) (none : Option Int) = (0, some 10) := by unfold inT; rw [if_pos g]
    rw [ei] at eI
    refine Ev.bind eI ?_
    simp only [Option.isNone_some, Bool.false_eq_true, ↓reduceIte, Option.isNone_none, Option.getD_some]
    refine Ev.bind eU ?_
    unfold unT
    cases neg
    · simp only [Bool.false_eq_true, ↓reduceIte, Option.isNone_none]
      refine Ev.bind eF ?_
      simp only [Option.isNone_none, ↓reduceIte]
      exact Ev.now _
    · simp only [↓reduceIte, Option.isNone_some]
      exact Ev.now _
  · have ei : inT neg w (some 10) (none : Option Int) = (if neg = true then -(w : Int) else (w : Int), none) := by unfold inT; rw [if_neg g]
    rw [ei] at eI eB
    have hv : (if neg = true then -(w : Int) else (w : Int)) < 0 ↔ neg = true := by
      cases neg
      · simp
      · simp only [↓reduceIte, iff_true]; have := hneg rfl; omega
    have hI : rdI n (if neg = true then -(w : Int) else (w : Int)) = rdV n neg 0 w := by
      unfold rdI
      have hs : szI (if neg = true then -(w : Int) else (w : Int)) = w := by unfold szI; split <;> omega
      rw [hs]
      congr 1
      rw [Bool.eq_iff_iff, decide_eq_true_eq]; exact hv
    have hr : -9223372036854775808 ≤ (if neg = true then -(w : Int) else (w : Int)) ∧ (if neg = true then -(w : Int) else (w : Int)) < 9223372036854775808 := by
      cases neg
      · have : ¬ (w = 9223372036854775808) := fun c => g (Or.inr ⟨c, rfl⟩)
        simp only [Bool.false_eq_true, ↓reduceIte]; omega
      · simp only [↓reduceIte]; omega
    have eG := FromInt_ev hn hr.1 hr.2
    rw [hI] at eG
    refine Ev.bind eI ?_
    simp only [Option.isNone_none, ↓reduceIte]
    refine Ev.bind eG ?_
    simp only [Option.isNone_none, ↓reduceIte, bne_self_eq_false]
    refine Ev.step (fun k => by simp only [vernierlaw16_IntsBack.j0, Bool.false_eq_true, ↓reduceIte]; rfl) (Ev.bind eB ?_)
    simp only [Option.isNone_none, ↓reduceIte]
    refine Ev.bind eU ?_
    unfold unT
    cases neg
    · simp only [Bool.false_eq_true, ↓reduceIte, Option.isNone_none]
      refine Ev.bind eF ?_
      simp only [Option.isNone_none, ↓reduceIte]
      exact Ev.now _
    · simp only [↓reduceIte, Option.isNone_some, Option.isNone_none]
      exact Ev.now _
theorem IntsBack : vernierlaw16_IntsBack.Pure := by
  intro a0 a1 a2 w0 w1 w2
  obtain ⟨ha0, ha1⟩ := wf_i64 w0
  obtain ⟨hb0, hb1⟩ := wf_i64 w2
  obtain ⟨p, rfl, hp⟩ := word w1
  obtain ⟨n, hn, hwd⟩ := width_ev a0 ha0 ha1
  obtain ⟨m, hm, hpk⟩ := pick_ev a2 hb0 hb1
  refine Ev.rounds ?_
  have hm0 : (0 : Int) ≤ (m : Int) := by omega
  have hm3 : (m : Int) ≤ 3 := by omega
  have w8 : (0 : Nat) < 18446744073709551616 := by decide
  rcases kind_cases n p with ⟨k, _⟩ | ⟨k, _⟩ | k
  · have h1 := told_zero hn hp hm0 hm3 k
    have hz : rdV n false 0 0 = 0 := by unfold rdV; rfl
    have k0 : kindN n 0 = 0 := by unfold kindN; rw [if_pos (Nat.zero_mod _)]
    have h2 := told_zero (mode := 0) hn w8 (by decide) (by decide) k0
    exact near_back (neg := false) (w := 0) hn w8 (fun h => nomatch h) hwd hpk h1 (by rw [hz]; exact h2)
  · have h1 := told_nar hn hp hm0 hm3 k
    unfold vernierlaw16_IntsBack.f
    refine Ev.bind shown_ev (Ev.bind hwd (Ev.bindp hpk ?_))
    refine Ev.bind (Whole_err h1) (Ev.bind (ToInt_err h1) ?_)
    simp only [Option.isNone_some, Bool.false_eq_true, ↓reduceIte, Option.getD_some]
    refine Ev.bind (ToUint_err h1) ?_
    exact Ev.now _
  · by_cases g : 63 < scI (abN n p) (n - 1)
    · have h1 := told_far hn hp hm0 hm3 k g
      obtain ⟨q, hq⟩ := Whole_far hn hp h1
      unfold vernierlaw16_IntsBack.f
      refine Ev.bind shown_ev (Ev.bind hwd (Ev.bindp hpk ?_))
      refine Ev.bind hq (Ev.bind (ToInt_far h1) ?_)
      simp only [Option.isNone_some, Bool.false_eq_true, ↓reduceIte, Option.getD_some, Option.isNone_none]
      refine Ev.bind (ToUint_far h1) ?_
      exact Ev.now _
    · have hs : scI (abN n p) (n - 1) ≤ 63 := by omega
      have h1 := told_real hn hp hm0 hm3 k hs
      have hw := wM_word (neg := topB p n) (mode := (m : Int)) hs (mt_word (p := p) hn)
      rcases Nat.eq_zero_or_pos (wM (topB p n) (m : Int) (scI (abN n p) (n - 1)) (mtN (abN n p) (n - 1))) with z | z
      · rw [z] at h1
        have hf : (topB p n && decide ((0 : Nat) < 0)) = false := by simp
        rw [hf] at h1
        have hz : rdV n false 0 0 = 0 := by unfold rdV; rfl
        have k0 : kindN n 0 = 0 := by unfold kindN; rw [if_pos (Nat.zero_mod _)]
        have h2 := told_zero (mode := 0) hn w8 (by decide) (by decide) k0
        exact near_back (neg := false) (w := 0) hn w8 (fun h => nomatch h) hwd hpk h1 (by rw [hz]; exact h2)
      · have hT := back_key (neg := topB p n) (mode := (m : Int)) hn hp k hs z
        rw [decide_eq_true z, Bool.and_true] at h1
        exact near_back hn hw (fun _ => z) hwd hpk h1 (told_again hn z hw hT (by decide) (by decide))
end Go.Proofs.Ytlllaoihpkdpmaa.Pure
