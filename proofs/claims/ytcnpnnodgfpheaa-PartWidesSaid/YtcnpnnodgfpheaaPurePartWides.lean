/- For all numbers of 128 bits: the program's wide quotient and rest are the reference's, with their errors. No conditions. -/
import Derived.Test.YtcnpnnodgfpheaaF10
import Derived.Test.YtcnpnnodgfpheaaR03
import Derived.Test.YtcnpnnodgfpheaaWide2
namespace Go.Proofs.Ytcnpnnodgfpheaa.Pure
open Go.RowKit Go.Proofs.YtcnpnnodgfpheaaW.PrintWords Go.Proofs.YtcnpnnodgfpheaaW.PrintLast Go.Proofs.YtcnpnnodgfpheaaW.PrintMore Go.Proofs.Ytcnpnnodgfpheaa.F Go.Proofs.Ytcnpnnodgfpheaa.M
set_option linter.unusedVariables false
set_option linter.unusedSimpArgs false
theorem small_hi {x : Nat} (h : x < 18446744073709551616) : hi x = 0 ∧ lo x = (x : Int) := by
  unfold hi lo; exact ⟨congrArg _ (show x / 18446744073709551616 % 18446744073709551616 = 0 by omega), congrArg _ (by omega)⟩
theorem PartWides : vernierlaw03_PartWides.Pure := by
  intro a0 a1 b0 b1 w0 w1 w2 w3
  obtain ⟨ah, rfl, h0⟩ := word w0
  obtain ⟨al, rfl, h1⟩ := word w1
  obtain ⟨bh, rfl, h2⟩ := word w2
  obtain ⟨bl, rfl, h3⟩ := word w3
  refine Ev.rounds ?_
  unfold vernierlaw03_PartWides.f
  refine Ev.bind up03 ?_
  obtain ⟨q, r, s, t, e, c, hp, hr, hc⟩ : ∃ (q r s t : Int) (e : Option Int) (c : Int), Ev (fun k => part_Wide.f k (ah : Int) (al : Int) (bh : Int) (bl : Int)) (q, r, s, t, e) ∧ Ev (fun k => vernierref03_Wide.f k (ah : Int) (al : Int) (bh : Int) (bl : Int)) (q, r, s, t, c) ∧ vernierlaw00_Code.f e = some c := by
    rcases Nat.eq_zero_or_pos bh with hy | hy
    · subst hy
      rcases Nat.eq_zero_or_pos bl with hz | hz
      · subst hz
        refine ⟨_, _, _, _, _, _, ?_, RWide_no h0 h1, code4⟩
        unfold part_Wide.f
        exact Ev.congr (fun k => if_pos rfl) (Ev.bind (Long_no (ah := ah) (al := al)) (Ev.now _))
      · have hR := RWide_ev (bh := 0) (bl := bl) h0 h1 (by decide) h3 (by rw [tw0]; exact hz)
        rw [tw0, (small_hi (Nat.lt_trans (Nat.mod_lt (tw ah al) hz) h3)).1] at hR
        refine ⟨_, _, _, _, _, _, ?_, hR, code0p⟩
        unfold part_Wide.f
        exact Ev.congr (fun k => if_pos rfl) (Ev.bind (Long_ev h0 h1 h3 hz) (Ev.now _))
    · have hv0 : 0 < tw bh bl := by unfold tw; omega
      have hR := RWide_ev h0 h1 h2 h3 hv0
      have hv := tw_lt h0 h1
      have hq : tw ah al / tw bh bl < 18446744073709551616 := by
        refine (Nat.div_lt_iff_lt_mul hv0).mpr ?_
        have hb : 18446744073709551616 ≤ tw bh bl := by unfold tw; omega
        generalize tw ah al = u at hv ⊢
        generalize tw bh bl = v at hb ⊢
        clear hR
        omega
      rw [(small_hi hq).1, (small_hi hq).2] at hR
      exact ⟨_, _, _, _, _, _, Wide_ev h0 h1 h2 h3 hy, hR, code0p⟩
  refine Ev.bind hp (Ev.bind hr ?_)
  simp only [↓reduceIte, beq_self_eq_true, Bool.and_self, hc, Option.bind_some]
  exact Ev.now _
end Go.Proofs.Ytcnpnnodgfpheaa.Pure
