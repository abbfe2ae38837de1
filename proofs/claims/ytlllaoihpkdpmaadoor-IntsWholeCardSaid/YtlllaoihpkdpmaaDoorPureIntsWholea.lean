/- For any number n, any pattern and any mode: Whole and IsWhole answer as the reference does, with its errors. No conditions. -/
import Derived.Test.YtlllaoihpkdpmaaDoorF20a
import Derived.Test.YtlllaoihpkdpmaaDoorWholea
namespace Go.Proofs.YtlllaoihpkdpmaaDoor.Pure
open Go.RowKit Go.Proofs.YtlllaoihpkdpmaaDoorW.PrintWords Go.Proofs.YtlllaoihpkdpmaaDoorW.PrintLast Go.Proofs.YtlllaoihpkdpmaaDoorW.PrintMore Go.Proofs.YtlllaoihpkdpmaaDoor.F Go.Proofs.YtlllaoihpkdpmaaDoor.M
set_option linter.unusedVariables false
set_option linter.unusedSimpArgs false
/-- Both whole numbers alike. -/
theorem whole_both (a mode : Int) {p : Nat} (hp : p < 18446744073709551616) : ∃ (q e : Int) (o : Option Int), Ev (fun k => ints_Whole.f k a (p : Int) mode) (q, o) ∧ Ev (fun k => vernierref16_Whole.f k a (p : Int) mode) (q, e) ∧ vernierlaw00_Code.f o = some e := by
  rcases width_or a with ⟨n, rfl, h⟩ | h
  · by_cases hm : mode < 0 ∨ 3 < mode
    · exact ⟨_, _, _, Wholes_err (told_bad h hp hm), Whole16_err (Or.inr (Or.inl rfl)) (To_bad h hm), code24⟩
    · have hm0 : 0 ≤ mode := by omega
      have hm3 : mode ≤ 3 := by omega
      rcases kind_cases n p with ⟨k, _⟩ | ⟨k, _⟩ | k
      · have w8 : (0 : Nat) < 18446744073709551616 := by decide
        exact ⟨_, _, _, Whole_near (neg := false) (w := 0) h w8 (told_zero h hp hm0 hm3 k), Whole16_near (a := 0) (neg := false) (w := 0) h w8 (To_zero h hp hm0 hm3 k), code0⟩
      · exact ⟨_, _, _, Wholes_err (told_nar h hp hm0 hm3 k), Whole16_err (Or.inr (Or.inr rfl)) (To_nar h hp hm0 hm3 k), code_all (by omega)⟩
      · by_cases g : 63 < scI (abN n p) (n - 1)
        · exact ⟨_, _, _, Wholes_far h hp (told_far h hp hm0 hm3 k g), Whole16_far h hp hm0 hm3 k g, code0⟩
        · have hw := wM_word (neg := topB p n) (mode := mode) (show scI (abN n p) (n - 1) ≤ 63 by omega) (mt_word (p := p) h)
          exact ⟨_, _, _, Whole_near h hw (told_real h hp hm0 hm3 k (by omega)), Whole16_near (a := 0) h hw (To_real h hp hm0 hm3 k), code0⟩
  · exact ⟨_, _, _, Wholes_err (told_no h), Whole16_err (Or.inl rfl) (To_no h), code_all (by omega)⟩
theorem is_both (a : Int) {p : Nat} (hp : p < 18446744073709551616) : ∃ (q : Bool) (e : Int) (o : Option Int), Ev (fun k => ints_IsWhole.f k a (p : Int)) (q, o) ∧ Ev (fun k => vernierref16_IsWhole.f k a (p : Int)) (q, e) ∧ vernierlaw00_Code.f o = some e := by
  rcases width_or a with ⟨n, rfl, h⟩ | h
  · rcases kind_cases n p with ⟨k, _⟩ | ⟨k, _⟩ | k
    · exact ⟨_, _, _, IsWhole_zero h hp k, IsWhole16_zero h hp k, code0⟩
    · exact ⟨_, _, _, IsWhole_nar h hp k, IsWhole16_nar h hp k, code_all (by omega)⟩
    · exact ⟨_, _, _, IsWhole_real h hp k, IsWhole16_real h hp k, code0⟩
  · exact ⟨_, _, _, IsWhole_no h, IsWhole16_no h, code_all (by omega)⟩
theorem IntsWhole : vernierlaw16_IntsWhole.Pure := by
  intro a0 a1 mode w0 w1 w2
  obtain ⟨p, rfl, hp⟩ := word w1
  refine Ev.rounds ?_
  unfold vernierlaw16_IntsWhole.f
  refine Ev.bind shown_ev ?_
  obtain ⟨q, e, o, h1, h2, h3⟩ := whole_both a0 mode hp
  obtain ⟨b, f, u, g1, g2, g3⟩ := is_both a0 hp
  refine Ev.bind h1 (Ev.bind g1 (Ev.bind h2 (Ev.bind g2 ?_)))
  simp only [↓reduceIte, beq_self_eq_true, h3, g3, Option.bind_some]
  exact Ev.now _
end Go.Proofs.YtlllaoihpkdpmaaDoor.Pure
