/- For every word: how many places it needs and how many noughts stand at its end, told by the program as the reference tells it. No conditions. -/
import Derived.Test.YtogldofffdiflaaDoorF5a
import Derived.Test.YtogldofffdiflaaDoorLead2a
import Derived.Test.YtogldofffdiflaaDoorTzsa
namespace Go.Proofs.YtogldofffdiflaaDoor.Pure
open Go.RowKit Go.Proofs.YtogldofffdiflaaDoorW.PrintWords Go.Proofs.YtogldofffdiflaaDoorW.PrintLast Go.Proofs.YtogldofffdiflaaDoorW.PrintMore Go.Proofs.YtogldofffdiflaaDoor.F Go.Proofs.YtogldofffdiflaaDoor.M
set_option linter.unusedVariables false
set_option linter.unusedSimpArgs false
theorem Len01_l0 {x : Nat} (hx : x < 18446744073709551616) : ∀ d i : Nat, 64 - blen x - i ≤ d → i ≤ 64 - blen x → Ev (fun k => vernierref01_Len.l0 k (txt x 64) (i : Int)) ((blen x : Nat) : Int) := by
  have hb : blen x ≤ 64 := blen_le_of (by rw [p64']; exact hx)
  intro d
  induction d with
  | zero =>
    intro i hd hi
    obtain rfl : i = 64 - blen x := by omega
    refine Ev.step (f := fun k => some ((blen x : Nat) : Int)) (fun k => ?_) (Ev.now _)
    simp only [vernierref01_Len.l0, txt_size]
    by_cases h0 : blen x = 0
    · rw [if_neg (by omega), h0]; rfl
    · have h1 : x / 2 ^ (64 - 1 - (64 - blen x)) % 2 = 1 := by
        rw [show 64 - 1 - (64 - blen x) = blen x - 1 by omega]
        have hp : 0 < 2 ^ (blen x - 1) := Nat.pow_pos (by decide)
        have hl : 2 ^ (blen x - 1) ≤ x := by
          rcases Nat.lt_or_ge x (2 ^ (blen x - 1)) with c | c
          · have := blen_le_of c; omega
          · exact c
        have hu := lt_blen x
        have hu2 : x < 2 ^ (blen x - 1) * 2 := by rw [← Nat.pow_succ, show (blen x - 1).succ = blen x by omega]; exact hu
        have q1 : 1 ≤ x / 2 ^ (blen x - 1) := (Nat.le_div_iff_mul_le hp).2 (by omega)
        have q2 : x / 2 ^ (blen x - 1) < 2 := Nat.div_lt_of_lt_mul (by omega)
        omega
      rw [if_pos (by omega), if_pos (by omega), if_pos (by omega), txt_bt (show 64 - blen x < 64 by omega), h1, if_pos (by decide), w64 (by omega) (by omega)]
      congr 1; omega
  | succ d ih =>
    intro i hd hi
    by_cases hgo : i < 64 - blen x
    · refine Ev.step (f := fun k => vernierref01_Len.l0 k (txt x 64) ((i + 1 : Nat) : Int)) (fun k => ?_) (ih (i + 1) (by omega) (by omega))
      have h1 : x / 2 ^ (64 - 1 - i) = 0 := Nat.div_eq_of_lt (Nat.lt_of_lt_of_le (lt_blen x) (Nat.pow_le_pow_right (by decide) (by omega)))
      simp only [vernierref01_Len.l0, txt_size]
      rw [if_pos (by omega), if_pos (by omega), if_pos (by omega), txt_bt (show i < 64 by omega), h1, if_neg (by decide), w64 (by omega) (by omega)]
      rfl
    · exact ih i (by omega) hi
theorem Trail01_l0 {x t : Nat} (ht : t ≤ 64) (hlow : ∀ i, i < t → x / 2 ^ i % 2 = 0) (htop : t < 64 → x / 2 ^ t % 2 = 1) : ∀ d i : Nat, t - i ≤ d → i ≤ t → Ev (fun k => vernierref01_Trail.l0 k (txt x 64) (i : Int)) (t : Int) := by
  intro d
  induction d with
  | zero =>
    intro i hd hi
    obtain rfl : i = t := by omega
    refine Ev.step (f := fun k => some (i : Int)) (fun k => ?_) (Ev.now _)
    simp only [vernierref01_Trail.l0, txt_size]
    by_cases h0 : i < 64
    · have e : (63 : Int) - (i : Int) = ((63 - i : Nat) : Int) := by omega
      rw [if_pos (by omega), w64 (by omega) (by omega), if_pos (by omega), if_pos (by omega), e, txt_bt (show 63 - i < 64 by omega), show 64 - 1 - (63 - i) = i by omega, htop h0, if_neg (by decide)]
    · rw [if_neg (by omega)]
  | succ d ih =>
    intro i hd hi
    by_cases hgo : i < t
    · refine Ev.step (f := fun k => vernierref01_Trail.l0 k (txt x 64) ((i + 1 : Nat) : Int)) (fun k => ?_) (ih (i + 1) (by omega) (by omega))
      have e : (63 : Int) - (i : Int) = ((63 - i : Nat) : Int) := by omega
      simp only [vernierref01_Trail.l0, txt_size]
      rw [if_pos (by omega), w64 (x := 63 - (i : Int)) (by omega) (by omega), if_pos (by omega), if_pos (by omega), e, txt_bt (show 63 - i < 64 by omega), show 64 - 1 - (63 - i) = i by omega, hlow i hgo, if_pos (by decide), w64 (by omega) (by omega)]
      rfl
    · exact ih i (by omega) hi
theorem LeadCounts : vernierlaw01_LeadCounts.Pure := by
  intro a0 w0
  obtain ⟨x, rfl, hx⟩ := word w0
  have hL : Ev (fun k => lead_Len.f k (x : Int)) ((blen x : Nat) : Int) := by
    unfold lead_Len.f
    exact Ev.bind (Len64_ev hx) (Ev.now _)
  have hl : Ev (fun k => vernierref01_Len.f k (x : Int)) ((blen x : Nat) : Int) := by
    unfold vernierref01_Len.f
    exact Ev.bind (Text_ev (n := 64) hx (by omega)) (Len01_l0 hx _ 0 (Nat.le_refl _) (by omega))
  have hT : ∃ t : Nat, lead_Trail.f (x : Int) = some (t : Int) ∧ Ev (fun k => vernierref01_Trail.f k (x : Int)) (t : Int) := by
    rcases Nat.eq_zero_or_pos x with h0 | h0
    · subst h0
      refine ⟨64, by unfold lead_Trail.f; rfl, ?_⟩
      unfold vernierref01_Trail.f
      exact Ev.bind (Text_ev (n := 64) hx (by omega)) (Trail01_l0 (Nat.le_refl _) (fun i _ => by simp) (fun h => absurd h (by decide)) _ 0 (Nat.le_refl _) (by omega))
    · obtain ⟨k, hk, ht⟩ := tz_split 64 x h0 (by rw [p64']; exact hx)
      refine ⟨tzN 64 x, by unfold lead_Trail.f; rw [Trail64 h0 hx]; rfl, ?_⟩
      unfold vernierref01_Trail.f
      refine Ev.bind (Text_ev (n := 64) hx (by omega)) (Trail01_l0 (Nat.le_of_lt ht) (fun i hi => ?_) (fun h => ?_) _ 0 (Nat.le_refl _) (by omega))
      · have h2 := (tz_dvd h0 hx).1 (show i + 1 ≤ tzN 64 x by omega)
        rw [Nat.pow_succ, Nat.mod_mul] at h2
        have hp : 0 < 2 ^ i := Nat.pow_pos (by decide)
        have : 2 ^ i * (x / 2 ^ i % 2) = 0 := by omega
        rcases Nat.mul_eq_zero.mp this with h | h
        · omega
        · exact h
      · generalize tzN 64 x = t at hk ht ⊢
        rw [hk, Nat.mul_div_cancel _ (Nat.pow_pos (by decide))]
        omega
  obtain ⟨t, ht, hr⟩ := hT
  refine Ev.rounds ?_
  unfold vernierlaw01_LeadCounts.f
  refine Ev.bind up01 ?_
  simp only [↓reduceIte, ht, Option.bind_some]
  refine Ev.bind hL (Ev.bind hl ?_)
  simp only [↓reduceIte]
  refine Ev.bind hr ?_
  simp only [beq_self_eq_true]
  exact Ev.now _
end Go.Proofs.YtogldofffdiflaaDoor.Pure
