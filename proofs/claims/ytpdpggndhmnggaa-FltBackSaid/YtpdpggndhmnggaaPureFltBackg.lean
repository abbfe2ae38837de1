/- For any raw width and any word: patterns of widths up to 32 come back from float64, those up to 16 from float32 too; of the width 64 what comes back means what the float told. No conditions. -/
import Derived.Test.YtpdpggndhmnggaaF28g
import Derived.Test.YtpdpggndhmnggaaFlo14g
namespace Go.Proofs.Ytpdpggndhmnggaa.Pure
open Go.RowKit Go.Proofs.YtpdpggndhmnggaaW.PrintWords Go.Proofs.YtpdpggndhmnggaaW.PrintLast Go.Proofs.YtpdpggndhmnggaaW.PrintMore Go.Proofs.Ytpdpggndhmnggaa.F Go.Proofs.Ytpdpggndhmnggaa.M
set_option linter.unusedVariables false
set_option linter.unusedSimpArgs false
theorem FltBack : vernierlaw17_FltBack.Pure := by
  intro a0 a1 w0 w1
  obtain ⟨p, rfl, hp⟩ := word w1
  obtain ⟨g0, g1⟩ := wf_i64 w0
  obtain ⟨n, hn, hw⟩ := width_ev a0 g0 g1
  refine Ev.rounds ?_
  unfold vernierlaw17_FltBack.f
  -- what comes back of the float
  have key : ∃ q : Nat, q < 18446744073709551616 ∧ Ev (fun k => flt_From64.f k (n : Int) (toT n p)) ((q : Int), none) ∧ (n ≤ 32 → q = p % 2 ^ n) ∧ toT n q = toT n p := by
    rcases kind_cases n p with ⟨hk, hz⟩ | ⟨hk, hz⟩ | hk
    · have e2 : toT n p = 0 := by unfold toT; rw [if_neg (by rw [hk]; decide), if_neg (by rw [hk]; decide)]
      have hf := From64_fin (n := n) (b := 0) hn (by decide) (by decide)
      have e3 : rdF n 0 = 0 := by unfold rdF; rw [if_pos rfl]
      rw [e3] at hf
      refine ⟨0, by decide, by rw [e2]; exact hf, fun _ => hz.symm, ?_⟩
      exact toT_congr hn (by decide) hp (by rw [hz, Nat.zero_mod])
    · have e2 : toT n p = 9221120237041090561 := by unfold toT; rw [if_neg (by rw [hk]; decide), if_pos hk]
      have hl : 2 ^ (n - 1) % 2 ^ n = 2 ^ (n - 1) := by rcases hn with rfl | rfl | rfl | rfl <;> rfl
      refine ⟨2 ^ (n - 1), half_lt hn, by rw [e2]; exact From64_nar hn (by decide) (by decide), fun _ => hz.symm, ?_⟩
      exact toT_congr hn (half_lt hn) hp (by rw [hz, hl])
    · obtain ⟨q, q1, q2, q3, q4⟩ := back64 hn hp hk
      have hf := toT_fin (p := p) hn (by rw [hk]; decide)
      have := From64_fin hn hf.1 hf.2.1
      rw [q2] at this
      exact ⟨q, q1, this, q3, q4⟩
  obtain ⟨q, q1, q2, q3, q4⟩ := key
  have hT := To64_ev hn hp
  refine Ev.bind shown_ev (Ev.bind hw (Ev.bind (Convert_ev hn hp) (Ev.bind hT (Ev.bind q2 ?_))))
  refine Ev.congr (fun k => (if_pos rfl).trans ((if_pos rfl).trans (if_pos rfl))) ?_
  -- the last part: float32
  have j2 : Ev (fun k => vernierlaw17_FltBack.j2 k (p : Int) true (n : Int) ((p % 2 ^ n : Nat) : Int) false) true := by
    refine Ev.step (fun k => by simp only [vernierlaw17_FltBack.j2]; exact if_neg (by decide)) ?_
    by_cases c : (n : Int) > 16
    · exact Ev.congr (fun k => if_pos c) (Ev.now _)
    · refine Ev.congr (fun k => if_neg c) (Ev.bind (Decode_ev hn hp) ?_)
      by_cases hk : kindN n p = 2
      · have e : meansT n p (none : Option Int) = (2, false, 0, 0, none) := by unfold meansT; rw [if_neg (by rw [hk]; decide), hk]
        have hz : p % 2 ^ n = 2 ^ (n - 1) := by
          rcases kind_cases n p with ⟨h1, _⟩ | ⟨_, h2⟩ | h1
          · rw [h1] at hk; exact absurd hk (by decide)
          · exact h2
          · rw [h1] at hk; exact absurd hk (by decide)
        rw [e, hz]
        refine Ev.congr (fun k => if_pos ⟨rfl, rfl⟩) (Ev.bind (From64_nar hn (by decide) (by decide)) ?_)
        exact Ev.congr (fun k => if_pos ⟨trivial, rfl, rfl⟩) (Ev.now _)
      · have e0 : ¬ ((meansT n p (none : Option Int)).1 = 2 ∧ (meansT n p (none : Option Int)).2.2.2.2.isNone = true) := by
          intro h2
          have := h2.1
          unfold meansT at this
          split at this
          · exact absurd this (show ¬ (1 : Int) = 2 by decide)
          · exact hk this
        have k32 : toS n p % 2147483648 < 2139095040 ∧ rd32 n (toS n p) = p % 2 ^ n := by
          rcases kind_cases n p with ⟨h1, h2⟩ | ⟨h1, _⟩ | h1
          · have e2 : toS n p = 0 := by unfold toS; rw [if_neg (by rw [h1]; decide)]
            rw [e2, h2]
            exact ⟨by decide, rfl⟩
          · exact absurd h1 hk
          · have := back32 hn hp (by omega) h1
            exact ⟨this.1, this.2.2⟩
        have hb1 : ¬ nanB .f32 (toS n p) = true := by rw [nanB_eq, decide_eq_false (by omega)]; decide
        have e32 := From32_ev (a := toS n p) hn
        rw [k32.2] at e32
        unfold flt_From32N.f at e32
        replace e32 : Ev (fun k => flt_From32.f k (n : Int) (toS n p)) (((p % 2 ^ n : Nat) : Int), none) := Ev.congr (fun k => (if_neg hb1).symm) e32
        refine Ev.congr (fun k => if_neg e0) (Ev.bind (To32_ev hn hp hk) (Ev.bind e32 ?_))
        refine Ev.congr (fun k => (if_pos trivial).trans ((if_pos rfl).trans (if_pos rfl))) ?_
        exact Ev.congr (fun k => congrArg some (beq_self_eq_true _)) (Ev.now _)
  have j1 : Ev (fun k => vernierlaw17_FltBack.j1 k (p : Int) true (n : Int) ((p % 2 ^ n : Nat) : Int) (toT n p) (q : Int) false) true := by
    refine Ev.step (fun k => by simp only [vernierlaw17_FltBack.j1]; exact if_neg (by decide)) ?_
    have hq := To64_ev hn q1
    rw [q4] at hq
    refine Ev.bind hq (Ev.congr (fun k => if_pos rfl) ?_)
    by_cases hk : kindN n p = 2
    · have e2 : toT n p = 9221120237041090561 := by unfold toT; rw [if_neg (by rw [hk]; decide), if_pos hk]
      rw [e2]
      have i1 : ¬ (FloatKind.f64.format.order 9221120237041090561 9221120237041090561 == some .eq) = true := by decide
      have i2 : (FloatKind.f64.format.order 9221120237041090561 9221120237041090561 != some .eq) = true := by decide
      have i3 : (FloatKind.f64.format.order 9221120237041090561 9221120237041090561 == some .eq) = false := by decide
      refine Ev.congr (fun k => (if_neg i1).trans (if_pos i2)) ?_
      dsimp only
      rw [i3]
      exact j2
    · have hf := toT_fin (p := p) hn hk
      have i0 : FloatKind.f64.format.order (toT n p) (toT n p) = some .eq := by rw [ord_key hf.1 hf.1 hf.2.1 hf.2.1, icmp_self]
      have i1 : (FloatKind.f64.format.order (toT n p) (toT n p) == some .eq) = true := by rw [i0]; rfl
      have i2 : ¬ (FloatKind.f64.format.order (toT n p) (toT n p) != some .eq) = true := by rw [i0]; decide
      exact Ev.congr (fun k => (if_pos i1).trans ((if_neg i2).trans (if_neg i2))) j2
  refine Ev.step (fun k => by simp only [vernierlaw17_FltBack.j0]; exact if_neg (by decide)) ?_
  by_cases c : (n : Int) ≤ 32
  · refine Ev.congr (fun k => if_pos c) ?_
    have e : q = p % 2 ^ n := q3 (by omega)
    have e2 : (((q : Nat) : Int) != ((p % 2 ^ n : Nat) : Int)) = false := by rw [e]; exact bne_self_eq_false _
    rw [e2]
    exact j1
  · exact Ev.congr (fun k => if_neg c) j1
end Go.Proofs.Ytpdpggndhmnggaa.Pure
