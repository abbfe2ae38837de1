/- For any number n, any Num and any pattern near: what Encode takes Decode tells again; what it refuses that pattern doesn't mean. No conditions. -/
import Derived.Test.YtmofdimkdkfdgaaF23
import Derived.Test.YtmofdimkdkfdgaaCod6
namespace Go.Proofs.Ytmofdimkdkfdgaa.Pure
open Go.RowKit Go.Proofs.YtmofdimkdkfdgaaW.PrintWords Go.Proofs.YtmofdimkdkfdgaaW.PrintLast Go.Proofs.YtmofdimkdkfdgaaW.PrintMore Go.Proofs.Ytmofdimkdkfdgaa.F Go.Proofs.Ytmofdimkdkfdgaa.M
set_option linter.unusedVariables false
set_option linter.unusedSimpArgs false
theorem CodecOnly : vernierlaw06_CodecOnly.Pure := by
  intro a0 kind neg sc a4 a5 w0 w1 w2 w3 w4
  obtain ⟨fr, rfl, hf⟩ := word w3
  obtain ⟨p, rfl, hp⟩ := word w4
  refine Ev.rounds ?_
  unfold vernierlaw06_CodecOnly.f
  refine Ev.bind up06 ?_
  simp only [↓reduceIte]
  rcases width_or a0 with ⟨n, rfl, h⟩ | h
  · have hh := half_lt h
    have back : ∀ q : Nat, q < 18446744073709551616 → Ev (fun k => codec_Encode.f k (n : Int) kind neg sc (fr : Int)) ((q : Int), none) → meansT n q (none : Option Int) = (kind, neg, sc, (fr : Int), none) → Ev (fun k => (codec_Encode.f k (n : Int) kind neg sc (fr : Int)).bind fun a => if a.2.isNone = true then ((codec_Decode.f k (n : Int) a.1).bind fun b => if b.2.2.2.2.isNone = true then some (b.1 == kind && (b.2.1 == neg && (b.2.2.1 == sc && (b.2.2.2.1 == (fr : Int))))) else some false) else ((codec_Decode.f k (n : Int) (p : Int)).bind fun b => if a.1 = 0 then (if b.2.2.2.2.isNone = true then some (!(b.1 == kind) || (!(b.2.1 == neg) || (!(b.2.2.1 == sc) || (!(b.2.2.2.1 == (fr : Int)))))) else some true) else some false)) true := by
      intro q hq he hm
      have d1 := Decode_ev h hq
      rw [hm] at d1
      refine Ev.bind he (Ev.congr (fun k => if_pos rfl) (Ev.bind d1 ?_))
      simp only [Option.isNone_none, ↓reduceIte, beq_self_eq_true, Bool.and_self]
      exact Ev.now _
    have off : ∀ e : Int, Ev (fun k => codec_Encode.f k (n : Int) kind neg sc (fr : Int)) (0, some e) → meansT n p (none : Option Int) ≠ (kind, neg, sc, (fr : Int), none) → Ev (fun k => (codec_Encode.f k (n : Int) kind neg sc (fr : Int)).bind fun a => if a.2.isNone = true then ((codec_Decode.f k (n : Int) a.1).bind fun b => if b.2.2.2.2.isNone = true then some (b.1 == kind && (b.2.1 == neg && (b.2.2.1 == sc && (b.2.2.2.1 == (fr : Int))))) else some false) else ((codec_Decode.f k (n : Int) (p : Int)).bind fun b => if a.1 = 0 then (if b.2.2.2.2.isNone = true then some (!(b.1 == kind) || (!(b.2.1 == neg) || (!(b.2.2.1 == sc) || (!(b.2.2.2.1 == (fr : Int)))))) else some true) else some false)) true := by
      intro e he hm
      have d1 := Decode_ev h hp
      refine Ev.bind he (Ev.congr (fun k => if_neg (by simp)) (Ev.bind d1 ?_))
      have hn : (meansT n p (none : Option Int)).2.2.2.2 = none := by unfold meansT; split <;> rfl
      rcases hd : meansT n p (none : Option Int) with ⟨b1, b2, b3, b4, b5⟩
      rw [hd] at hn hm
      simp only at hn
      subst hn
      simp only [Option.isNone_none, ↓reduceIte]
      have := (ne4 b1 kind b2 neg b3 sc b4 (fr : Int)).mpr (by rintro ⟨rfl, rfl, rfl, rfl⟩; exact hm rfl)
      rw [this]
      exact Ev.now _
    by_cases hs : sndB kind neg sc (fr : Int) = true
    · by_cases k0 : kind = 0
      · subst k0
        have e1 := Encode_zero h hf hs
        unfold sndB at hs
        rw [if_pos (Or.inl rfl)] at hs
        simp only [Bool.and_eq_true, Bool.not_eq_true', beq_iff_eq] at hs
        obtain ⟨rfl, rfl, h3⟩ := hs
        refine back 0 (by decide) e1 ?_
        rw [h3]
        have : kindN n 0 = 0 := by unfold kindN; rw [if_pos (Nat.zero_mod _)]
        rw [means_other (by omega), this]
      · by_cases k2 : kind = 2
        · subst k2
          have e1 := Encode_nar h hf hs
          unfold sndB at hs
          rw [if_pos (Or.inr rfl)] at hs
          simp only [Bool.and_eq_true, Bool.not_eq_true', beq_iff_eq] at hs
          obtain ⟨rfl, rfl, h3⟩ := hs
          refine back (2 ^ (n - 1)) hh e1 ?_
          rw [h3]
          have : kindN n (2 ^ (n - 1)) = 2 := by rcases h with rfl | rfl | rfl | rfl <;> rfl
          rw [means_other (by omega), this]
        · have k1 : kind = 1 := by
            unfold sndB at hs
            rw [if_neg (by intro g; rcases g with g | g; exact k0 g; exact k2 g), decide_eq_true_eq] at hs
            exact hs.1
          subst k1
          by_cases hg : ∃ q, GoodX n neg sc (fr : Int) q
          · obtain ⟨q, g⟩ := hg
            exact back q (Nat.lt_of_lt_of_le g.1 (pow_le64 h.le)) (Encode_good h hf g) (goodX_means g none)
          · refine off 8 (Encode_none h hf hs (fun q g => hg ⟨q, g⟩)) ?_
            intro hm
            exact hg ⟨_, means_goodX h hp hm⟩
    · refine off 1 (Encode_bad h hf (by simpa using hs)) ?_
      intro hm
      exact hs (means_sound h hm)
  · refine Ev.bind (Encode_no h) (Ev.congr (fun k => if_neg (by simp)) (Ev.bind (Decode_no h) ?_))
    exact Ev.now _
end Go.Proofs.Ytmofdimkdkfdgaa.Pure
