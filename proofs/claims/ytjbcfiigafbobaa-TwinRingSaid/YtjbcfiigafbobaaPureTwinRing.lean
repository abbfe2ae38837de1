/- For all numbers of 128 bits a, b and all words x, y, z: what is added is taken off again, sums and products are the same either way, and products part over sums that have room. No conditions. -/
import Derived.Test.YtjbcfiigafbobaaF18
import Derived.Test.YtjbcfiigafbobaaTwinHL
namespace Go.Proofs.Ytjbcfiigafbobaa.Pure
open Go.RowKit Go.Proofs.YtjbcfiigafbobaaW.PrintWords Go.Proofs.YtjbcfiigafbobaaW.PrintLast Go.Proofs.YtjbcfiigafbobaaW.PrintMore Go.Proofs.Ytjbcfiigafbobaa.F Go.Proofs.Ytjbcfiigafbobaa.M
set_option linter.unusedVariables false
set_option linter.unusedSimpArgs false
theorem mul_facts {x y : Nat} (hx : x < 18446744073709551616) (hy : y < 18446744073709551616) : ∃ p q : Int, twin_Mul.f (x : Int) (y : Int) = some (p, q) ∧ twin_Mul.f (y : Int) (x : Int) = some (p, q) :=
  ⟨_, _, Mul_eq hx hy, by rw [Mul_eq hy hx, Nat.mul_comm]⟩
theorem part_facts {x y z : Nat} (hx : x < 18446744073709551616) (hyz : y + z < 18446744073709551616) : ∃ p q r s u v : Int, twin_Mul.f (x : Int) (y : Int) = some (p, q) ∧ twin_Mul.f (y : Int) (x : Int) = some (p, q) ∧ twin_Mul.f (x : Int) (z : Int) = some (r, s) ∧
    twin_Add.f p q r s = some (u, v, false) ∧ twin_Mul.f (x : Int) ((y + z : Nat) : Int) = some (u, v) := by
  have hy : y < 18446744073709551616 := by omega
  have hz : z < 18446744073709551616 := by omega
  have hm := Nat.mul_lt_mul'' hx hyz
  have hd : x * (y + z) = x * y + x * z := Nat.mul_add ..
  have hadd := Add_hl (x * y) (x * z)
  rw [Nat.mod_eq_of_lt (show x * y < 340282366920938463463374607431768211456 by omega), Nat.mod_eq_of_lt (show x * z < 340282366920938463463374607431768211456 by omega), ← hd, decide_eq_false (by omega)] at hadd
  exact ⟨_, _, _, _, _, _, Mul_eq hx hy, by rw [Mul_eq hy hx, Nat.mul_comm], Mul_eq hx hz, hadd, Mul_eq hx hyz⟩
theorem sum_facts {ah al bh bl : Nat} (h0 : ah < 18446744073709551616) (h1 : al < 18446744073709551616) (h2 : bh < 18446744073709551616) (h3 : bl < 18446744073709551616) :
    ∃ (s1 s2 : Int) (c : Bool), twin_Add.f (ah : Int) (al : Int) (bh : Int) (bl : Int) = some (s1, s2, c) ∧ twin_Add.f (bh : Int) (bl : Int) (ah : Int) (al : Int) = some (s1, s2, c) ∧ twin_Sub.f s1 s2 (bh : Int) (bl : Int) = some ((ah : Int), (al : Int), c) := by
  have ha := tw_lt h0 h1
  have hb := tw_lt h2 h3
  have eb1 := hi_tw h2 h3
  have eb2 := lo_tw (h := bh) h3
  have ea1 := hi_tw h0 h1
  have ea2 := lo_tw (h := ah) h1
  have hs := Sub_hl (tw ah al + tw bh bl) (tw bh bl)
  rw [eb1, eb2, Nat.mod_eq_of_lt hb] at hs
  refine ⟨_, _, _, Add_eq h0 h1 h2 h3, by rw [Add_eq h2 h3 h0 h1, Nat.add_comm], ?_⟩
  have k1 : hi ((tw ah al + tw bh bl) % 340282366920938463463374607431768211456 + 340282366920938463463374607431768211456 - tw bh bl) = (ah : Int) := by
    rw [← ea1]; exact hi_of (by omega)
  have k2 : lo ((tw ah al + tw bh bl) % 340282366920938463463374607431768211456 + 340282366920938463463374607431768211456 - tw bh bl) = (al : Int) := by
    rw [← ea2]; exact lo_of (by omega)
  have k3 : decide ((tw ah al + tw bh bl) % 340282366920938463463374607431768211456 < tw bh bl) = decide (340282366920938463463374607431768211456 ≤ tw ah al + tw bh bl) := by
    rw [Bool.eq_iff_iff, decide_eq_true_eq, decide_eq_true_eq]; omega
  rw [hs, k1, k2, k3]
theorem TwinRing : vernierlaw02_TwinRing.Pure := by
  intro a0 a1 b0 b1 x y z w0 w1 w2 w3 w4 w5 w6
  obtain ⟨ah, rfl, h0⟩ := word w0
  obtain ⟨al, rfl, h1⟩ := word w1
  obtain ⟨bh, rfl, h2⟩ := word w2
  obtain ⟨bl, rfl, h3⟩ := word w3
  obtain ⟨x, rfl, hx⟩ := word w4
  obtain ⟨y, rfl, hy⟩ := word w5
  obtain ⟨z, rfl, hz⟩ := word w6
  refine Ev.rounds ?_
  obtain ⟨s1, s2, c, e1, e2, e3⟩ := sum_facts h0 h1 h2 h3
  simp only [vernierlaw02_TwinRing.f, up02, Option.bind_some, ↓reduceIte, e1, e2, e3, beq_self_eq_true, Bool.not_true, Bool.or_self, bne_self_eq_false, Bool.false_eq_true]
  refine Ev.step (fun n => by simp only [vernierlaw02_TwinRing.j0]; rfl) ?_
  by_cases hyz : IntKind.u64.wrap ((y : Int) + (z : Int)) < (y : Int)
  · obtain ⟨p, q, m1, m2⟩ := mul_facts hx hy
    simp only [Bool.false_eq_true, ↓reduceIte, m1, m2, Option.bind_some, beq_self_eq_true, Bool.not_true, Bool.or_self]
    exact Ev.congr (fun n => if_pos hyz) (Ev.now _)
  · have hlt : y + z < 18446744073709551616 := by
      rw [u64w] at hyz; omega
    have ew : IntKind.u64.wrap ((y : Int) + (z : Int)) = ((y + z : Nat) : Int) := by rw [u64s (by omega) (by omega)]; rfl
    obtain ⟨p, q, r, s, u, v, m1, m2, m3, m4, m5⟩ := part_facts hx hlt
    simp only [Bool.false_eq_true, ↓reduceIte, m1, m2, Option.bind_some, beq_self_eq_true, Bool.not_true, Bool.or_self]
    refine Ev.congr (fun n => if_neg hyz) ?_
    simp only [m3, m4, ew, m5, Option.bind_some, Bool.false_eq_true, ↓reduceIte, beq_self_eq_true, Bool.and_self]
    exact Ev.now _
end Go.Proofs.Ytjbcfiigafbobaa.Pure
