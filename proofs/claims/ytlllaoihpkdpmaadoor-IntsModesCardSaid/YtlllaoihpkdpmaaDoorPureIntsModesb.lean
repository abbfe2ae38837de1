/- Of any width and pattern: Floor is not above it, Ceil not below, Near is one of both, Trunc the one nearer to nought; they are whole, and a whole number stays; NaR is refused. No conditions. -/
import Derived.Test.YtlllaoihpkdpmaaDoorF22b
import Derived.Test.YtlllaoihpkdpmaaDoorModesb
namespace Go.Proofs.YtlllaoihpkdpmaaDoor.Pure
open Go.RowKit Go.Proofs.YtlllaoihpkdpmaaDoorW.PrintWords Go.Proofs.YtlllaoihpkdpmaaDoorW.PrintLast Go.Proofs.YtlllaoihpkdpmaaDoorW.PrintMore Go.Proofs.YtlllaoihpkdpmaaDoor.F Go.Proofs.YtlllaoihpkdpmaaDoor.M
set_option linter.unusedVariables false
set_option linter.unusedSimpArgs false
/-- The end of the statement, of five patterns. -/
theorem modes_end {n p fl ce ne tr : Nat} {is : Bool} (hn : Wd n) (hp : p < 18446744073709551616) (hk : kindN n p ≠ 2) (hfl : fl < 18446744073709551616) (hce : ce < 18446744073709551616)
    (h1 : ext fl n ≤ ext p n) (h2 : ext p n ≤ ext ce n) (w1 : Ev (fun k => ints_IsWhole.f k (n : Int) (fl : Int)) (true, none)) (w2 : Ev (fun k => ints_IsWhole.f k (n : Int) (ce : Int)) (true, none)) (hne : ne = fl ∨ ne = ce)
    (hi1 : is = true ↔ (ext fl n = ext p n ∧ ext p n = ext ce n)) (hi2 : is = true ↔ fl = ce) (ht1 : tr = fl ∨ ext p n < 0) (ht2 : tr = ce ∨ 0 ≤ ext p n)
    {a0 : Int} (hwd : Ev (fun k => vernierlaw16_width.f k a0) (n : Int)) (e0 : Ev (fun k => ints_IsWhole.f k (n : Int) (p : Int)) (is, none)) (e1 : Ev (fun k => ints_Whole.f k (n : Int) (p : Int) 0) ((ne : Int), none)) (e2 : Ev (fun k => ints_Whole.f k (n : Int) (p : Int) 1) ((fl : Int), none))
    (e3 : Ev (fun k => ints_Whole.f k (n : Int) (p : Int) 2) ((ce : Int), none)) (e4 : Ev (fun k => ints_Whole.f k (n : Int) (p : Int) 3) ((tr : Int), none)) : Ev (fun k => vernierlaw16_IntsModes.f k a0 (p : Int)) true := by
  have c1 := oCmp_v hn hfl hp
  have c2 := oCmp_v hn hp hce
  have c3 := oSign_v hn hp hk
  unfold vernierlaw16_IntsModes.f
  refine Ev.bind shown_ev (Ev.bind hwd (Ev.bind e0 (Ev.bind e1 (Ev.bind e2 (Ev.bind e3 (Ev.bind e4 ?_))))))
  simp only [Option.isNone_none, ↓reduceIte]
  refine Ev.bindp c1 (Ev.bindp c2 (Ev.bindp c3 ?_))
  simp only [Option.isNone_none, ↓reduceIte]
  obtain ⟨lo, hlo⟩ : ∃ z : Int, (if ext fl n < ext p n then (-1 : Int) else if ext fl n > ext p n then 1 else 0) = z := ⟨_, rfl⟩
  obtain ⟨hg, hhg⟩ : ∃ z : Int, (if ext p n < ext ce n then (-1 : Int) else if ext p n > ext ce n then 1 else 0) = z := ⟨_, rfl⟩
  obtain ⟨sg, hsg⟩ : ∃ z : Int, (if ext p n < 0 then (-1 : Int) else if ext p n > 0 then 1 else 0) = z := ⟨_, rfl⟩
  rw [hlo, hhg, hsg]
  have l1 : lo ≤ 0 ∧ (lo = 0 ↔ ext fl n = ext p n) := by rw [← hlo]; split <;> (try split) <;> omega
  have l2 : hg ≤ 0 ∧ (hg = 0 ↔ ext p n = ext ce n) := by rw [← hhg]; split <;> (try split) <;> omega
  have l3 : (sg < 0 ↔ ext p n < 0) := by rw [← hsg]; split <;> (try split) <;> omega
  refine Ev.congr (fun k => if_neg (by omega)) ?_
  have hd : decide (hg > 0) = false := decide_eq_false (by omega)
  rw [hd]
  -- the last test
  have hj1 : Ev (fun k => vernierlaw16_IntsModes.j1 k true is (fl : Int) (ce : Int) (tr : Int) lo hg sg false) true := by
    refine Ev.step (f := fun _ => some true) (fun k => ?_) (Ev.now _)
    simp only [vernierlaw16_IntsModes.j1, Bool.false_eq_true, ↓reduceIte]
    have hfc : ((fl : Int) == (ce : Int)) = decide (fl = ce) := by rw [Bool.eq_iff_iff, beq_iff_eq, decide_eq_true_eq]; omega
    have hii : is = decide (fl = ce) := by rw [Bool.eq_iff_iff, hi2, decide_eq_true_eq]
    have hfin : (if (tr : Int) = (fl : Int) then (if (tr : Int) = (ce : Int) then (some true) else (some (decide (sg ≥ 0)))) else (if sg < 0 then (if (tr : Int) = (ce : Int) then (some true) else (some (decide (sg ≥ 0)))) else (some false))) = some true := by
      by_cases q1 : tr = fl
      · rw [if_pos (by omega)]
        by_cases q2 : tr = ce
        · rw [if_pos (by omega)]
        · rw [if_neg (by omega), decide_eq_true (by rcases ht2 with z | z; exact absurd z q2; omega)]
      · rw [if_neg (by omega), if_pos (by rcases ht1 with z | z; exact absurd z q1; omega)]
        by_cases q2 : tr = ce
        · rw [if_pos (by omega)]
        · exfalso; rcases ht2 with z | z
          · exact q2 z
          · rcases ht1 with y | y
            · exact q1 y
            · omega
    by_cases q : lo = 0
    · rw [if_pos q]
      have e : (is != (hg == 0)) = false := by
        have : is = (hg == 0) := by
          rw [Bool.eq_iff_iff, beq_iff_eq, hi1]
          have := l1.2.mp q
          have := l2.2
          constructor
          · rintro ⟨_, z⟩; exact this.mpr z
          · intro z; exact ⟨by assumption, this.mp z⟩
        rw [this]; cases (hg == 0) <;> rfl
      rw [if_neg (by rw [e]; decide), hfc, ← hii]
      rw [if_neg (by cases is <;> decide)]
      exact hfin
    · rw [if_neg q]
      have e : is = false := by
        cases is
        · rfl
        · exact absurd (l1.2.mpr (hi1.mp rfl).1) q
      rw [hfc, ← hii, e]
      exact hfin
  refine Ev.step (fun k => by simp only [vernierlaw16_IntsModes.j0]; rw [if_neg (by decide)]) (Ev.bind w1 (Ev.bind w2 ?_))
  simp only [Option.isNone_none, ↓reduceIte]
  by_cases q : (ne : Int) = (fl : Int)
  · exact Ev.congr (fun k => if_pos q) hj1
  · refine Ev.congr (fun k => if_neg q) ?_
    have hb : ((ne : Int) != (ce : Int)) = false := by rw [bne_eq_false_iff_eq]; omega
    rw [hb]
    exact hj1
theorem IntsModes : vernierlaw16_IntsModes.Pure := by
  intro a0 a1 w0 w1
  obtain ⟨ha0, ha1⟩ := wf_i64 w0
  obtain ⟨p, rfl, hp⟩ := word w1
  obtain ⟨n, hn, hwd⟩ := width_ev a0 ha0 ha1
  refine Ev.rounds ?_
  have g1 := hn.ge
  have g2 := hn.le
  rcases kind_cases n p with ⟨k, hz⟩ | ⟨k, hz⟩ | k
  · -- nought
    have hw : ∀ m : Int, 0 ≤ m → m ≤ 3 → Ev (fun k => ints_Whole.f k (n : Int) (p : Int) m) (((0 : Nat) : Int), none) := fun m h0 h3 => Whole_near (neg := false) (w := 0) hn (by decide) (told_zero hn hp h0 h3 k)
    have e0 : ext p n = 0 := ext_zero hn k
    have ez := ext_zero0 hn
    have hI := IsWhole_zero hn (show 0 < 18446744073709551616 by decide) (show kindN n 0 = 0 by unfold kindN; rw [if_pos (Nat.zero_mod _)])
    exact modes_end (is := true) (fl := 0) (ce := 0) (ne := 0) (tr := 0) hn hp (by omega) (by decide) (by decide) (by rw [ez, e0]; omega) (by rw [ez, e0]; omega) hI hI (Or.inl rfl) (by rw [ez, e0]; simp) (by simp) (Or.inl rfl) (Or.inl rfl) hwd (IsWhole_zero hn hp k) (hw 0 (by decide) (by decide)) (hw 1 (by decide) (by decide)) (hw 2 (by decide) (by decide)) (hw 3 (by decide) (by decide))
  · -- NaR
    have hw : ∀ m : Int, 0 ≤ m → m ≤ 3 → Ev (fun k => ints_Whole.f k (n : Int) (p : Int) m) (0, some 9) := fun m h0 h3 => Wholes_err (told_nar hn hp h0 h3 k)
    have hnar : Ev (fun k => vernierlaw16_nar.f k (n : Int)) ((2 ^ (n - 1) : Nat) : Int) := by
      unfold vernierlaw16_nar.f
      rw [pred_w hn]
      exact Ev.bind (Power_ev (by omega)) (Ev.now _)
    have hc := oCmp_v hn hp (half_lt hn)
    have he : ext p n = ext (2 ^ (n - 1)) n := by rw [ext_nar hn, ext_least hn k]
    rw [he, if_neg (by omega), if_neg (by omega)] at hc
    unfold vernierlaw16_IntsModes.f
    refine Ev.bind shown_ev (Ev.bind hwd (Ev.bind (IsWhole_nar hn hp k) (Ev.bind (hw 0 (by decide) (by decide)) (Ev.bind (hw 1 (by decide) (by decide)) (Ev.bind (hw 2 (by decide) (by decide)) (Ev.bind (hw 3 (by decide) (by decide)) ?_))))))
    simp only [Option.isNone_some, Bool.false_eq_true, ↓reduceIte, Option.getD_some]
    exact Ev.bind hnar (Ev.bindp hc (Ev.now _))
  · have hx := ab_pos hn hp k
    have hI := IsWhole_real hn hp k
    have hsb := sign_back hn hp k
    have hxl : abN n p % 2 ^ (n - 1) ≤ 2 ^ (n - 1) - 1 := by
      have := Nat.mod_lt (abN n p) (Nat.pow_pos (n := n - 1) (show 0 < 2 by decide))
      omega
    have hep : ext p n = if topB p n = true then -((abN n p % 2 ^ (n - 1) : Nat) : Int) else ((abN n p % 2 ^ (n - 1) : Nat) : Int) := ext_abs hn hp k
    by_cases g : 63 < scI (abN n p) (n - 1)
    · -- a great number
      have hw : ∀ m : Int, 0 ≤ m → m ≤ 3 → Ev (fun k => ints_Whole.f k (n : Int) (p : Int) m) (((p % 2 ^ n : Nat) : Int), none) := fun m h0 h3 => Wholes_far hn hp (told_far hn hp h0 h3 k g)
      have hl0 : lfR (scI (abN n p) (n - 1)) (mtN (abN n p) (n - 1)) = 0 := by unfold lfR; rw [if_pos (by omega)]
      rw [hl0] at hI
      have hpl := mod_lt64 hn p
      have hkm : kindN n (p % 2 ^ n) = 1 := by unfold kindN; rw [Nat.mod_mod]; exact k
      have hI2 := IsWhole_real hn hpl hkm
      have hab : abN n (p % 2 ^ n) % 2 ^ (n - 1) = abN n p % 2 ^ (n - 1) := ab_congr hn hpl hp (Nat.mod_mod ..)
      rw [sc_congr hab, mt_congr hab, hl0] at hI2
      exact modes_end (is := true) hn hp (by omega) hpl hpl (by rw [ext_mod]; omega) (by rw [ext_mod]; omega) hI2 hI2 (Or.inl rfl) (by rw [ext_mod]; simp) (by simp) (Or.inl rfl) (Or.inl rfl) hwd hI (hw 0 (by decide) (by decide)) (hw 1 (by decide) (by decide)) (hw 2 (by decide) (by decide)) (hw 3 (by decide) (by decide))
    · have hs : scI (abN n p) (n - 1) ≤ 63 := by omega
      have hf := mt_word (p := p) hn
      have hw : ∀ m : Int, 0 ≤ m → m ≤ 3 → Ev (fun k => ints_Whole.f k (n : Int) (p : Int) m) ((signN n (topB p n) (rdS n (wM (topB p n) m (scI (abN n p) (n - 1)) (mtN (abN n p) (n - 1)))) : Int), none) := by
        intro m h0 h3
        have ht := told_real hn hp h0 h3 k hs
        have hwd := wM_word (neg := topB p n) (mode := m) hs hf
        have hW := Whole_near hn hwd ht
        rcases Nat.eq_zero_or_pos (wM (topB p n) m (scI (abN n p) (n - 1)) (mtN (abN n p) (n - 1))) with z | z
        · rw [z] at hW ⊢
          have e1 : rdV n (topB p n && decide ((0 : Nat) < 0)) 0 0 = signN n (topB p n) (rdS n 0) := by
            have r0 : rdS n 0 = 0 := rfl
            rw [r0]
            unfold rdV
            rw [if_pos rfl]
            unfold signN
            rcases hn with rfl | rfl | rfl | rfl <;> cases topB p _ <;> rfl
          rw [e1] at hW
          exact hW
        · rw [decide_eq_true z, Bool.and_true, rdV_S hn] at hW
          exact hW
      have w0 := hw 0 (by decide) (by decide)
      have w1 := hw 1 (by decide) (by decide)
      have w2 := hw 2 (by decide) (by decide)
      have w3 := hw 3 (by decide) (by decide)
      obtain ⟨c1, c2, c3, c0⟩ := wM_cases (topB p n) (scI (abN n p) (n - 1)) (mtN (abN n p) (n - 1))
      rw [c1] at w1
      rw [c2] at w2
      rw [c3] at w3
      have hlow := whole_low hn hx hs
      have hB : ∀ m : Int, ∀ ng : Bool, 0 < wM ng m (scI (abN n p) (n - 1)) (mtN (abN n p) (n - 1)) → M.Told n (wM ng m (scI (abN n p) (n - 1)) (mtN (abN n p) (n - 1))) := fun m ng z => back_key (neg := ng) (mode := m) hn hp k hs z
      obtain ⟨d1, d2, d3, d0⟩ := wM_cases false (scI (abN n p) (n - 1)) (mtN (abN n p) (n - 1))
      have hT1 := hB 3 false
      rw [d3] at hT1
      have hwl64 : wlN (scI (abN n p) (n - 1)) (mtN (abN n p) (n - 1)) < 18446744073709551616 := by have := wM_word (neg := false) (mode := 3) hs hf; rw [d3] at this; exact this
      by_cases hl : lfR (scI (abN n p) (n - 1)) (mtN (abN n p) (n - 1)) = 0
      · -- whole
        obtain ⟨y1, y2⟩ := whole_same hn hx hs hl
        have r1 : ¬ (topB p n = true ∧ lfR (scI (abN n p) (n - 1)) (mtN (abN n p) (n - 1)) ≠ 0) := fun z => z.2 hl
        have r2 : ¬ (topB p n = false ∧ lfR (scI (abN n p) (n - 1)) (mtN (abN n p) (n - 1)) ≠ 0) := fun z => z.2 hl
        have r0 : wM (topB p n) 0 (scI (abN n p) (n - 1)) (mtN (abN n p) (n - 1)) = wlN (scI (abN n p) (n - 1)) (mtN (abN n p) (n - 1)) := by
          rcases c0 with z | ⟨z, _⟩
          · exact z
          · exact absurd hl z
        rw [if_neg r1, y2, hsb] at w1
        rw [if_neg r2, y2, hsb] at w2
        rw [y2, hsb] at w3
        rw [r0, y2, hsb] at w0
        have hIa := any_whole (neg := topB p n) hn hwl64 hT1
        rw [y2, hsb] at hIa
        rw [hl] at hI
        have hpl := mod_lt64 hn p
        exact modes_end (is := true) hn hp (by omega) hpl hpl (by rw [ext_mod]; omega) (by rw [ext_mod]; omega) hIa hIa (Or.inl rfl) (by rw [ext_mod]; simp) (by simp) (Or.inl rfl) (Or.inl rfl) hwd hI w0 w1 w2 w3
      · -- not whole: below and above are apart
        have hhigh := whole_high hn hx hs hl
        have hT2 := hB 2 false
        rw [d2, if_pos ⟨rfl, hl⟩] at hT2
        have hwh64 : wlN (scI (abN n p) (n - 1)) (mtN (abN n p) (n - 1)) + 1 < 18446744073709551616 := by have := wM_word (neg := false) (mode := 2) hs hf; rw [d2, if_pos ⟨rfl, hl⟩] at this; exact this
        have hI2 : Ev (fun k => ints_IsWhole.f k (n : Int) (p : Int)) (false, none) := by
          have e := decide_eq_false hl
          rw [e] at hI
          exact hI
        obtain ⟨wl, hwl⟩ : ∃ z, z = wlN (scI (abN n p) (n - 1)) (mtN (abN n p) (n - 1)) := ⟨_, rfl⟩
        rw [← hwl] at hlow hhigh hT1 hT2 hwl64 hwh64 w1 w2 w3 c0
        have hapart : rdS n wl ≠ rdS n (wl + 1) := by
          rcases Nat.eq_zero_or_pos wl with z | z
          · rw [z]
            have a1 : rdS n 0 = 0 := rfl
            have a2 := rdS_pos hn (v := 0 + 1) (by decide)
            omega
          · exact told_apart hn z hwh64 (hT1 z) (hT2 (by omega))
        have ha := rdS_le hn wl
        have hb := rdS_le hn (wl + 1)
        have i1 := any_whole (neg := topB p n) hn hwl64 hT1
        have i2 := any_whole (neg := topB p n) hn hwh64 hT2
        have x1 := ext_sign hn (topB p n) ha
        have x2 := ext_sign hn (topB p n) hb
        have s1 := sign_word hn (topB p n) ha
        have s2 := sign_word hn (topB p n) hb
        have hne : signN n (topB p n) (rdS n wl) ≠ signN n (topB p n) (rdS n (wl + 1)) := by
          intro z
          rw [z, x2] at x1
          split at x1 <;> omega
        clear hsb hw
        generalize topB p n = ng at *
        cases ng
        · rw [if_neg (fun z => Bool.noConfusion z.1)] at w1
          rw [if_pos ⟨rfl, hl⟩] at w2
          simp only [Bool.false_eq_true, ↓reduceIte] at x1 x2 hep
          refine modes_end (is := false) hn hp (by omega) s1 s2 (by omega) (by omega) i1 i2 ?_ ?_ ?_ (Or.inl rfl) (Or.inr (by omega)) hwd hI2 w0 w1 w2 w3
          · rcases c0 with z | ⟨_, z⟩
            · left; rw [z]
            · right; rw [z]
          · constructor
            · intro z; cases z
            · rintro ⟨z1, z2⟩; exfalso; omega
          · constructor
            · intro z; cases z
            · intro z; exact absurd z hne
        · rw [if_pos ⟨rfl, hl⟩] at w1
          rw [if_neg (fun z => Bool.noConfusion z.1)] at w2
          simp only [↓reduceIte] at x1 x2 hep
          refine modes_end (is := false) hn hp (by omega) s2 s1 (by omega) (by omega) i2 i1 ?_ ?_ ?_ (Or.inr (by omega)) (Or.inl rfl) hwd hI2 w0 w1 w2 w3
          · rcases c0 with z | ⟨_, z⟩
            · right; rw [z]
            · left; rw [z]
          · constructor
            · intro z; cases z
            · rintro ⟨z1, z2⟩; exfalso; omega
          · constructor
            · intro z; cases z
            · intro z; exact absurd z.symm hne
end Go.Proofs.YtlllaoihpkdpmaaDoor.Pure
