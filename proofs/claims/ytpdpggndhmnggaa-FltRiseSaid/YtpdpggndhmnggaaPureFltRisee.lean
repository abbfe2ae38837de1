/- For any raw width and any two words: in the order of patterns the greater float is not below the lesser, and a pattern's float rises with it. No conditions. -/
import Derived.Test.YtpdpggndhmnggaaF31e
import Derived.Test.YtpdpggndhmnggaaFlo13e
namespace Go.Proofs.Ytpdpggndhmnggaa.Pure
open Go.RowKit Go.Proofs.YtpdpggndhmnggaaW.PrintWords Go.Proofs.YtpdpggndhmnggaaW.PrintLast Go.Proofs.YtpdpggndhmnggaaW.PrintMore Go.Proofs.Ytpdpggndhmnggaa.F Go.Proofs.Ytpdpggndhmnggaa.M
set_option linter.unusedVariables false
set_option linter.unusedSimpArgs false
theorem cmp_lt {A B : Int} (h : A < B) : (some (compare A B) == some Ordering.lt) = true ∧ (some (compare A B) == some Ordering.gt) = false ∧ (some (compare A B) == some Ordering.eq) = false := by rw [icmp_lt h]; exact ⟨rfl, rfl, rfl⟩
theorem cmp_gt {A B : Int} (h : B < A) : (some (compare A B) == some Ordering.lt) = false ∧ (some (compare A B) == some Ordering.gt) = true ∧ (some (compare A B) == some Ordering.eq) = false := by rw [icmp_gt h]; exact ⟨rfl, rfl, rfl⟩
theorem cmp_eq {A B : Int} (h : A = B) : (some (compare A B) == some Ordering.lt) = false ∧ (some (compare A B) == some Ordering.gt) = false ∧ (some (compare A B) == some Ordering.eq) = true := by rw [h, icmp_self]; exact ⟨rfl, rfl, rfl⟩
theorem riseT_nan {n p : Nat} (hk : kindN n p = 2) : (FloatKind.f64.format.order (toT n p) (toT n p) == some .eq) = false := by
  have e : toT n p = 9221120237041090561 := by unfold toT; rw [if_neg (by rw [hk]; decide), if_pos hk]
  rw [e]; decide
theorem riseT_true {n p q : Nat} {d : Int} (h : Wd n) (hp : p < 18446744073709551616) (hq : q < 18446744073709551616) (hd : d = if ext p n < ext q n then -1 else if ext p n > ext q n then 1 else 0) : riseT true (toT n p) (toT n q) d = some true := by
  unfold riseT
  rw [if_pos rfl]
  by_cases kp : kindN n p = 2
  · rw [if_neg (by rw [riseT_nan kp]; decide)]
  · by_cases kq : kindN n q = 2
    · rw [if_neg (c := (FloatKind.f64.format.order (toT n q) (toT n q) == some .eq) = true) (by rw [riseT_nan kq]; decide)]
      split <;> rfl
    · obtain ⟨x1, x2, _⟩ := toT_fin (p := p) h kp
      obtain ⟨y1, y2, _⟩ := toT_fin (p := q) h kq
      have m1 := toT_mono h hp hq kp kq
      have m2 := toT_mono h hq hp kq kp
      rw [ord_key x1 x1 x2 x2, ord_key y1 y1 y2 y2, ord_key x1 y1 x2 y2]
      rw [if_pos (cmp_eq rfl).2.2, if_pos (cmp_eq rfl).2.2]
      generalize keyF (toT n p) = A at *
      generalize keyF (toT n q) = B at *
      by_cases c1 : ext p n < ext q n
      · rw [if_pos c1] at hd
        subst hd
        rw [if_pos (by decide)]
        have hAB := m1 (by omega)
        refine if_pos ?_
        rcases Int.lt_or_eq_of_le hAB with e | e
        · rw [(cmp_lt e).1]; rfl
        · rw [(cmp_eq e).2.2, Bool.or_true]
      · rw [if_neg c1] at hd
        by_cases c2 : ext p n > ext q n
        · rw [if_pos c2] at hd
          subst hd
          rw [if_neg (by decide), if_pos (by decide)]
          have hAB := m2 (by omega)
          refine if_pos ?_
          rcases Int.lt_or_eq_of_le hAB with e | e
          · rw [(cmp_gt e).2.1]; rfl
          · rw [(cmp_eq e.symm).2.2, Bool.or_true]
        · rw [if_neg c2] at hd
          subst hd
          rw [if_neg (by decide), if_neg (by decide)]
          have e : A = B := by have := m1 (by omega); have := m2 (by omega); omega
          exact if_pos (cmp_eq e).2.2
theorem riseC_true {n a b : Nat} {p q : Nat} {c : Int} {T : Option Bool} (h : Wd n) (ha : a < 18446744073709551616) (hb : b < 18446744073709551616) (hp : a % 9223372036854775808 < 9218868437227405312 → p = rdF n a) (hq : b % 9223372036854775808 < 9218868437227405312 → q = rdF n b) (hc : c = if ext p n < ext q n then -1 else if ext p n > ext q n then 1 else 0) (hT : T = some true) : riseC a b c T = some true := by
  unfold riseC
  by_cases fa : a % 9223372036854775808 < 9218868437227405312
  · rw [sub_fin ha fa, if_pos (by rfl), if_pos (by decide)]
    by_cases fb : b % 9223372036854775808 < 9218868437227405312
    · rw [sub_fin hb fb, if_pos (by rfl), if_pos (by decide)]
      have m1 := rdF_mono h fa fb
      have m2 := rdF_mono h fb fa
      rw [← hp fa, ← hq fb] at m1
      rw [← hp fa, ← hq fb] at m2
      rw [ord_key ha hb fa fb]
      generalize keyF a = A at *
      generalize keyF b = B at *
      rcases Int.lt_trichotomy A B with e | e | e
      · rw [if_pos (cmp_lt e).1]
        have := m1 (by omega)
        rw [if_neg (by rw [hc]; split <;> (try split) <;> omega)]
        exact hT
      · rw [if_neg (by rw [(cmp_eq e).1]; decide), if_neg (by rw [(cmp_eq e).2.1]; decide), if_pos (cmp_eq e).2.2]
        have := m1 (by omega)
        have := m2 (by omega)
        rw [if_pos (by rw [hc]; split <;> (try split) <;> omega)]
        exact hT
      · rw [if_neg (by rw [(cmp_gt e).1]; decide), if_pos (cmp_gt e).2.1]
        have := m2 (by omega)
        rw [if_neg (by rw [hc]; split <;> (try split) <;> omega)]
        exact hT
    · rw [sub_inf hb (by omega), if_neg (by decide)]
      exact hT
  · rw [sub_inf ha (by omega), if_neg (by decide)]
    exact hT
theorem From64_some {n b : Nat} (hn : Wd n) (hb : b < 18446744073709551616) : ∃ p : Nat, p < 18446744073709551616 ∧ (b % 9223372036854775808 < 9218868437227405312 → p = rdF n b) ∧ Ev (fun k => flt_From64.f k (n : Int) b) ((p : Int), none) := by
  by_cases fb : b % 9223372036854775808 < 9218868437227405312
  · refine ⟨rdF n b, ?_, fun _ => rfl, From64_fin hn hb fb⟩
    rw [rdF_sz hn fb]; exact sign_word hn _ (szF_le hn _)
  · exact ⟨2 ^ (n - 1), half_lt hn, fun h => absurd h fb, From64_nar hn hb (by omega)⟩
theorem FltRise : vernierlaw17_FltRise.Pure := by
  intro a0 a1 a2 w0 w1 w2
  obtain ⟨a, rfl, ha⟩ := word w1
  obtain ⟨b, rfl, hb⟩ := word w2
  obtain ⟨g0, g1⟩ := wf_i64 w0
  obtain ⟨n, hn, hw⟩ := width_ev a0 g0 g1
  refine Ev.rounds ?_
  unfold vernierlaw17_FltRise.f
  have ea : math_Float64frombits.f (a : Int) = some a := by unfold math_Float64frombits.f; rw [Int.toNat_natCast]
  have eb : math_Float64frombits.f (b : Int) = some b := by unfold math_Float64frombits.f; rw [Int.toNat_natCast]
  obtain ⟨p, hp, fp, ep⟩ := From64_some hn ha
  obtain ⟨q, hq, fq, eq⟩ := From64_some hn hb
  refine Ev.bind shown_ev (Ev.bind hw (Ev.bindp ea (Ev.bindp eb (Ev.bind ep (Ev.bind eq (Ev.bindp (oCmp_v hn hp hq) (Ev.bind (To64_ev hn ha) (Ev.bind (To64_ev hn hb) (Ev.bindp (oCmp_v hn ha hb) ?_)))))))))
  refine Ev.congr (fun k => (if_pos rfl).trans ((if_pos rfl).trans ((if_pos rfl).trans ((if_pos rfl).trans ((if_pos rfl).trans (if_pos rfl)))))) ?_
  refine Ev.step (f := fun _ => some true) (fun k => ?_) (Ev.now _)
  simp only [vernierlaw17_FltRise.j0]
  rw [if_neg (by decide)]
  exact riseC_true hn ha hb fp fq rfl (riseT_true hn ha hb rfl)
end Go.Proofs.Ytpdpggndhmnggaa.Pure
