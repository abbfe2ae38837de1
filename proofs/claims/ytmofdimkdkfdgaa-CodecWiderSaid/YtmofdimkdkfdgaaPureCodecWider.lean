/- For every pattern of 8 and of 32 bits: with noughts behind it it means the same at the greater widths. No conditions. -/
import Derived.Test.YtmofdimkdkfdgaaF24
import Derived.Test.YtmofdimkdkfdgaaCod7
namespace Go.Proofs.Ytmofdimkdkfdgaa.Pure
open Go.RowKit Go.Proofs.YtmofdimkdkfdgaaW.PrintWords Go.Proofs.YtmofdimkdkfdgaaW.PrintLast Go.Proofs.YtmofdimkdkfdgaaW.PrintMore Go.Proofs.Ytmofdimkdkfdgaa.F Go.Proofs.Ytmofdimkdkfdgaa.M
set_option linter.unusedVariables false
set_option linter.unusedSimpArgs false
theorem CodecWider : vernierlaw06_CodecWider.Pure := by
  intro a0 w0
  obtain ⟨p, rfl, hp⟩ := word w0
  refine Ev.rounds ?_
  unfold vernierlaw06_CodecWider.f
  have b8 : Wd 8 := Or.inl rfl
  have b16 : Wd 16 := Or.inr (Or.inl rfl)
  have b32 : Wd 32 := Or.inr (Or.inr (Or.inl rfl))
  have b64 : Wd 64 := Or.inr (Or.inr (Or.inr rfl))
  have x1 : IntKind.u64.wrap ((p : Int) * 256) = ((p * 2 ^ 8 % 18446744073709551616 : Nat) : Int) := by rw [u64w]; omega
  have x2 : IntKind.u64.wrap ((p : Int) * 16777216) = ((p * 2 ^ 24 % 18446744073709551616 : Nat) : Int) := by rw [u64w]; omega
  have x3 : IntKind.u64.wrap ((p : Int) * 72057594037927936) = ((p * 2 ^ 56 % 18446744073709551616 : Nat) : Int) := by rw [u64w]; omega
  have x4 : IntKind.u64.wrap ((p : Int) * 4294967296) = ((p * 2 ^ 32 % 18446744073709551616 : Nat) : Int) := by rw [u64w]; omega
  have d1 := Decode_ev b8 hp
  have d2 := Decode_ev (n := 16) b16 (Nat.mod_lt (p * 2 ^ 8) (show 0 < 18446744073709551616 by decide))
  have d3 := Decode_ev (n := 32) b32 (Nat.mod_lt (p * 2 ^ 24) (show 0 < 18446744073709551616 by decide))
  have d4 := Decode_ev (n := 64) b64 (Nat.mod_lt (p * 2 ^ 56) (show 0 < 18446744073709551616 by decide))
  have d5 := Decode_ev b32 hp
  have d6 := Decode_ev (n := 64) b64 (Nat.mod_lt (p * 2 ^ 32) (show 0 < 18446744073709551616 by decide))
  rw [means_wide (n := 8) (d := 8) b8 b16 hp] at d2
  rw [means_wide (n := 8) (d := 24) b8 b32 hp] at d3
  rw [means_wide (n := 8) (d := 56) b8 b64 hp] at d4
  rw [means_wide (n := 32) (d := 32) b32 b64 hp] at d6
  rw [x1, x2, x3, x4]
  have n1 : (meansT 8 p (none : Option Int)).2.2.2.2 = none := by unfold meansT; split <;> rfl
  have n2 : (meansT 32 p (none : Option Int)).2.2.2.2 = none := by unfold meansT; split <;> rfl
  generalize meansT 8 p (none : Option Int) = u at *
  generalize meansT 32 p (none : Option Int) = v at *
  obtain ⟨u1, u2, u3, u4, u5⟩ := u
  obtain ⟨v1, v2, v3, v4, v5⟩ := v
  simp only at n1 n2
  subst n1
  subst n2
  refine Ev.bind up06 (Ev.bind d1 (Ev.bind d2 (Ev.bind d3 (Ev.bind d4 (Ev.bind d5 (Ev.bind d6 ?_))))))
  simp only [↓reduceIte, Option.isNone_none, beq_self_eq_true, Bool.and_self]
  exact Ev.now _
end Go.Proofs.Ytmofdimkdkfdgaa.Pure
