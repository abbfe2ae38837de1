/- The reference's comparison of what two patterns mean is the comparison of their signs, scales and fractions. (For OrderValues.) -/
import Derived.Test.YtcokamomcnmocaaF9
import Derived.Test.YtcokamomcnmocaaF10
import Derived.Test.YtcokamomcnmocaaOrd4
import Derived.Test.YtcokamomcnmocaaCod6
namespace Go.Proofs.Ytcokamomcnmocaa.M
open Go.RowKit Go.Proofs.YtcokamomcnmocaaW.PrintWords Go.Proofs.YtcokamomcnmocaaW.PrintLast Go.Proofs.YtcokamomcnmocaaW.PrintMore Go.Proofs.Ytcokamomcnmocaa.F
set_option linter.unusedVariables false
set_option linter.unusedSimpArgs false
theorem Decode06_v {n p : Nat} (h : Wd n) (hp : p < 18446744073709551616) : Ev (fun k => vernierref06_Decode.f k (n : Int) (p : Int)) ((meansT n p ()).1, (meansT n p ()).2.1, (meansT n p ()).2.2.1, (meansT n p ()).2.2.2.1) := by
  have hd := Decodes_ev h hp
  unfold vernierref06_Decode.f
  unfold meansT at hd ⊢
  by_cases hk : kindN n p = 1
  · rw [if_pos hk] at hd ⊢; exact Ev.bind hd (Ev.now _)
  · rw [if_neg hk] at hd ⊢; exact Ev.bind hd (Ev.now _)
theorem Of07_v {n p : Nat} {kind : Int} {neg : Bool} {sc fr : Int} (h : Wd n) (hm : meansT n p () = (kind, neg, sc, fr, ())) : vernierref07_Of.f kind neg sc fr = some (kind, neg, sc, fr, 0, false, 0) := by
  unfold vernierref07_Of.f
  rw [Sound06_eq, means_sound h hm]
  rfl
/-- The comparison in numbers. -/
def cmpI (gp gq cp cq fp fq : Int) : Int := if gp < gq then -1 else if gp > gq then 1 else if gp = 0 ∨ (cp = cq ∧ fp = fq) then 0 else if cp < cq ∨ (cp = cq ∧ fp < fq) then -gp else gp
theorem Cmp07_core {kp kq : Int} {np nq : Bool} {cp cq fp fq gp gq : Int} (hp : (kp = 0 ∧ gp = 0) ∨ (kp = 1 ∧ np = true ∧ gp = -1) ∨ (kp = 1 ∧ np = false ∧ gp = 1)) (hq : (kq = 0 ∧ gq = 0) ∨ (kq = 1 ∧ nq = true ∧ gq = -1) ∨ (kq = 1 ∧ nq = false ∧ gq = 1)) :
    Ev (fun k => vernierref07_Cmp.f k kp np cp fp 0 false kq nq cq fq 0 false) (cmpI gp gq cp cq fp fq) := by
  have sg : ∀ {k : Int} {n : Bool} {c f g : Int}, ((k = 0 ∧ g = 0) ∨ (k = 1 ∧ n = true ∧ g = -1) ∨ (k = 1 ∧ n = false ∧ g = 1)) → vernierref07_sign.f k n c f 0 false = some g := by
    intro k n c f g hh
    rcases hh with ⟨rfl, rfl⟩ | ⟨rfl, rfl, rfl⟩ | ⟨rfl, rfl, rfl⟩ <;> rfl
  unfold vernierref07_Cmp.f cmpI
  rw [sg hp, sg hq]
  simp only [Option.bind_some]
  by_cases c1 : gp < gq
  · rw [if_pos c1]; exact Ev.congr (fun k => if_pos c1) (Ev.now _)
  · rw [if_neg c1]
    refine Ev.congr (fun k => if_neg c1) ?_
    by_cases c2 : gp > gq
    · rw [if_pos c2]; exact Ev.congr (fun k => if_pos c2) (Ev.now _)
    · rw [if_neg c2]
      refine Ev.congr (fun k => if_neg c2) ?_
      by_cases c3 : gp = 0
      · rw [if_pos (Or.inl c3)]
        refine Ev.congr (fun k => if_pos c3) (Ev.step (f := fun _ => some 0) (fun k => by simp only [vernierref07_Cmp.j0]; rfl) (Ev.now _))
      · refine Ev.congr (fun k => if_neg c3) ?_
        have e1 : kp = kq ∧ np = nq := by
          rcases hp with ⟨a1, a2⟩ | ⟨a1, a2, a3⟩ | ⟨a1, a2, a3⟩
          · exact absurd a2 c3
          · rcases hq with ⟨b1, b2⟩ | ⟨b1, b2, b3⟩ | ⟨b1, b2, b3⟩
            · omega
            · exact ⟨by omega, by rw [a2, b2]⟩
            · omega
          · rcases hq with ⟨b1, b2⟩ | ⟨b1, b2, b3⟩ | ⟨b1, b2, b3⟩
            · omega
            · omega
            · exact ⟨by omega, by rw [a2, b2]⟩
        have e2 : wrap64 (-gp) = -gp := by
          have : gp = -1 ∨ gp = 0 ∨ gp = 1 := by rcases hp with ⟨_, a⟩ | ⟨_, _, a⟩ | ⟨_, _, a⟩ <;> omega
          exact w64 (by omega) (by omega)
        rw [e1.1, e1.2]
        simp only [beq_self_eq_true, Bool.true_and, Bool.and_true]
        by_cases c4 : cp = cq ∧ fp = fq
        · rw [if_pos (Or.inr c4)]
          refine Ev.step (f := fun _ => some 0) (fun k => ?_) (Ev.now _)
          simp only [vernierref07_Cmp.j0]
          rw [if_pos (by rw [c4.1, c4.2]; simp)]
        · rw [if_neg (by intro hh; rcases hh with hh | hh; exact c3 hh; exact c4 hh)]
          have hb : ¬ ((cp == cq && (fp == fq)) = true) := by
            rw [Bool.and_eq_true, beq_iff_eq, beq_iff_eq]; exact c4
          by_cases c5 : cp < cq ∨ (cp = cq ∧ fp < fq)
          · rw [if_pos c5]
            refine Ev.step (f := fun _ => some (-gp)) (fun k => ?_) (Ev.now _)
            simp only [vernierref07_Cmp.j0, e2]
            rw [if_neg hb]
            by_cases d1 : cp < cq
            · rw [if_pos d1]
            · rw [if_neg d1, if_pos (by omega), if_pos (by omega)]
          · rw [if_neg c5]
            refine Ev.step (f := fun _ => some gp) (fun k => ?_) (Ev.now _)
            simp only [vernierref07_Cmp.j0, e2]
            rw [if_neg hb, if_neg (by omega)]
            by_cases d2 : cp = cq
            · rw [if_pos d2, if_neg (by omega), if_neg (by omega)]
            · rw [if_neg d2]
theorem sign_v {n p : Nat} (k : kindN n p = 0 ∨ kindN n p = 1) : ((meansT n p ()).1 = 0 ∧ sgI n p = 0) ∨ ((meansT n p ()).1 = 1 ∧ (meansT n p ()).2.1 = true ∧ sgI n p = -1) ∨ ((meansT n p ()).1 = 1 ∧ (meansT n p ()).2.1 = false ∧ sgI n p = 1) := by
  rcases k with k | k
  · left; rw [means_other (by omega)]; exact ⟨k, by unfold sgI; rw [if_pos (by omega)]⟩
  · right
    rw [means_real k]
    by_cases ht : topB p n = true
    · left; exact ⟨rfl, ht, by unfold sgI; rw [if_neg (by omega), if_pos ht]⟩
    · right; exact ⟨rfl, by simpa using ht, by unfold sgI; rw [if_neg (by omega), if_neg ht]⟩
theorem cmp_vcmp {n p q : Nat} (kp : kindN n p = 0 ∨ kindN n p = 1) (kq : kindN n q = 0 ∨ kindN n q = 1) : cmpI (sgI n p) (sgI n q) (meansT n p ()).2.2.1 (meansT n q ()).2.2.1 (meansT n p ()).2.2.2.1 (meansT n q ()).2.2.2.1 = vcmp n p q := by
  unfold cmpI vcmp
  by_cases c1 : sgI n p < sgI n q
  · rw [if_pos c1, if_pos c1]
  · rw [if_neg c1, if_neg c1]
    by_cases c2 : sgI n p > sgI n q
    · rw [if_pos c2, if_pos c2]
    · rw [if_neg c2, if_neg c2]
      by_cases c3 : sgI n p = 0
      · rw [if_pos (Or.inl c3), if_pos (Or.inl c3)]
      · have k1 : kindN n p = 1 := by
          rcases kp with k | k
          · exact absurd (show sgI n p = 0 by unfold sgI; rw [if_pos (by omega)]) c3
          · exact k
        have k2 : kindN n q = 1 := by
          rcases kq with k | k
          · have : sgI n q = 0 := by unfold sgI; rw [if_pos (by omega)]
            omega
          · exact k
        rw [means_real k1, means_real k2]
        simp only [Int.ofNat_inj, Int.ofNat_lt]
end Go.Proofs.Ytcokamomcnmocaa.M
