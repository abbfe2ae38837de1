/- For any number n and every pattern: what it means is encoded back to it, its parts are joined back to it; of no width each call answers its error. No conditions. -/
import Derived.Test.YtmofdimkdkfdgaaF22
import Derived.Test.YtmofdimkdkfdgaaCod6
namespace Go.Proofs.Ytmofdimkdkfdgaa.Pure
open Go.RowKit Go.Proofs.YtmofdimkdkfdgaaW.PrintWords Go.Proofs.YtmofdimkdkfdgaaW.PrintLast Go.Proofs.YtmofdimkdkfdgaaW.PrintMore Go.Proofs.Ytmofdimkdkfdgaa.F Go.Proofs.Ytmofdimkdkfdgaa.M
set_option linter.unusedVariables false
set_option linter.unusedSimpArgs false
theorem CodecBack : vernierlaw06_CodecBack.Pure := by
  intro a0 a1 w0 w1
  obtain ⟨p, rfl, hp⟩ := word w1
  refine Ev.rounds ?_
  unfold vernierlaw06_CodecBack.f
  refine Ev.bind up06 ?_
  rcases width_or a0 with ⟨n, rfl, h⟩ | h
  · have hn := h.ge
    have hl := h.le
    have hq := mod_lt64 h p
    have hq2 : p % 2 ^ n < 2 ^ n := Nat.mod_lt _ (Nat.pow_pos (by decide))
    have em : p % 2 ^ n % 2 ^ n = p % 2 ^ n := Nat.mod_mod _ _
    have d1 := Decode_ev h hp
    have s1 := Split_ev h hp
    rw [means_congr h hp hq em.symm] at d1
    rw [split_congr h hp hq em.symm] at s1
    have f1 := Fold06b_ev h hp
    have i1 : vernierref05_Is.f (n : Int) = some true := Is_w h
    generalize p % 2 ^ n = q at *
    by_cases hk : kindN n q = 1
    · have g : GoodX n (topB q n) (scI (abN n q) (n - 1)) (mtN (abN n q) (n - 1) : Int) q := ⟨hq2, hk, rfl, rfl, rfl⟩
      have e1 := Encode_good h (mt_word h) g
      have j1 := Join_good h hq2 hk
      rw [means_real hk] at d1
      unfold splitT at s1
      rw [if_pos hk] at s1
      have hb := sc_bound (x := abN n q) (w := n - 1) (by omega)
      have hx := exN_lt (abN n q) (n - 1)
      have e2 : wrap64 (wrap64 (4 * rgI (abN n q) (n - 1)) + (exN (abN n q) (n - 1) : Int)) = scI (abN n q) (n - 1) := by
        rw [w64 (x := 4 * rgI (abN n q) (n - 1)) (by omega) (by omega), w64 (by omega) (by omega)]; rfl
      refine Ev.bind d1 (Ev.bind e1 (Ev.bind s1 (Ev.bindp i1 ?_)))
      simp only [↓reduceIte, Option.isNone_none]
      refine Ev.bind f1 ?_
      refine Ev.step (fun k => by simp only [vernierlaw06_CodecBack.j0]; rw [if_neg (by simp)]) ?_
      refine Ev.bind j1 ?_
      simp only [↓reduceIte, Option.isNone_none, e2, beq_self_eq_true]
      exact Ev.now _
    · have z : kindN n q = 0 ∧ (q : Int) = 0 ∨ kindN n q = 2 ∧ (q : Int) = ((2 ^ (n - 1) : Nat) : Int) := by
        rcases kind_cases n q with ⟨a, b⟩ | ⟨a, b⟩ | a
        · rw [em] at b; exact Or.inl ⟨a, by rw [b]; rfl⟩
        · rw [em] at b; exact Or.inr ⟨a, by rw [b]⟩
        · exact absurd a hk
      have e1 : Ev (fun k => codec_Encode.f k (n : Int) (kindN n q) false 0 0) ((q : Int), none) := by
        rcases z with ⟨a, b⟩ | ⟨a, b⟩
        · rw [a, b]; exact Encode_zero (fr := 0) h (by decide) rfl
        · rw [a, b]; exact Encode_nar (fr := 0) h (by decide) rfl
      have j1 := Join_bad (neg := false) (ones := false) (run := 0) (rg := 0) (eb := 0) (ex := 0) (fb := 0) (fr := 0) h (by simp [okF])
      rw [means_other hk] at d1
      unfold splitT at s1
      rw [if_neg hk] at s1
      refine Ev.bind d1 (Ev.bind e1 (Ev.bind s1 (Ev.bindp i1 ?_)))
      simp only [↓reduceIte, Option.isNone_none]
      refine Ev.bind f1 ?_
      refine Ev.step (fun k => by simp only [vernierlaw06_CodecBack.j0]; rw [if_neg (by simp)]) ?_
      refine Ev.bind j1 ?_
      refine Ev.congr (fun k => if_neg hk) ?_
      exact Ev.now _
  · refine Ev.bind (Decode_no h) (Ev.bind (Encode_no h) (Ev.bind (Split_no h) (Ev.bindp (Is_no h) ?_)))
    exact Ev.now _
end Go.Proofs.Ytmofdimkdkfdgaa.Pure
