/- What bits.Div64 computes: quotient and rest of two words by one. -/
import Derived.Test.YtcnpnnodgfpheaaF2
import Derived.Test.YtcnpnnodgfpheaaTwinHL
namespace Go.Proofs.Ytcnpnnodgfpheaa.M
open Go.RowKit Go.Proofs.YtcnpnnodgfpheaaW.PrintWords Go.Proofs.YtcnpnnodgfpheaaW.PrintLast Go.Proofs.YtcnpnnodgfpheaaW.PrintMore Go.Proofs.Ytcnpnnodgfpheaa.F
set_option linter.unusedVariables false
set_option linter.unusedSimpArgs false

theorem kn_mul {b1 b0 q r U V : Nat} (h : q * b1 + r = U) (hV : V = b1 * 4294967296 + b0) : q * V + r * 4294967296 = U * 4294967296 + q * b0 := by
  rw [hV, ← h, Nat.mul_add, Nat.add_mul, ← Nat.mul_assoc]; exact Nat.add_right_comm _ _ _
theorem kn_T {b1 b0 q r U V w : Nat} (h : q * b1 + r = U) (hV : V = b1 * 4294967296 + b0) (hp : 0 < V) (ht : q * b0 ≤ 4294967296 * r + w) : q ≤ (U * 4294967296 + w) / V := by
  refine (Nat.le_div_iff_mul_le hp).mpr ?_
  have e := kn_mul h hV
  clear h hV
  generalize q * V = A at e ⊢
  generalize q * b0 = D at e ht
  omega
theorem kn_F1 {b1 b0 q r U V w : Nat} (h : q * b1 + r = U) (hV : V = b1 * 4294967296 + b0) (hp : 0 < V) (ht : 4294967296 * r + w < q * b0) : (U * 4294967296 + w) / V < q := by
  refine (Nat.div_lt_iff_lt_mul hp).mpr ?_
  have e := kn_mul h hV
  clear h hV
  generalize q * V = A at e ⊢
  generalize q * b0 = D at e ht
  omega
theorem kn_lt {U V w : Nat} (hU : U < V) (hw : w < 4294967296) : U * 4294967296 + w < 4294967296 * V := by omega
theorem kn_F2 {q U V w : Nat} (hU : U < V) (hw : w < 4294967296) (hq : 4294967296 ≤ q) : (U * 4294967296 + w) / V < q :=
  (Nat.div_lt_iff_lt_mul (Nat.lt_of_le_of_lt (Nat.zero_le _) hU)).mpr (Nat.lt_of_lt_of_le (kn_lt hU hw) (Nat.mul_le_mul_right V hq))
theorem kn_G {b1 b0 q r U V w : Nat} (h : q * b1 + r = U) (hV : V = b1 * 4294967296 + b0) (hp : 0 < V) (hr : 4294967296 ≤ r) (hq : q ≤ 4294967296) (hb : b0 < 4294967296) : q ≤ (U * 4294967296 + w) / V := by
  refine kn_T h hV hp ?_
  refine Nat.le_trans (Nat.mul_le_mul hq (Nat.le_of_lt hb)) ?_
  clear h hV
  omega
/-- The first guess is no more than one too high of 2^32. -/
theorem kn_first {b1 b0 U V : Nat} (hV : V = b1 * 4294967296 + b0) (hb1 : 2147483648 ≤ b1) (hb : b0 < 4294967296) (hU : U < V) : U / b1 ≤ 4294967297 := by
  refine Nat.le_of_lt_succ ((Nat.div_lt_iff_lt_mul (by clear hV hU; omega)).mpr ?_)
  subst hV; omega
theorem kn_le {b1 b0 U V w : Nat} (hV : V = b1 * 4294967296 + b0) (hp : 0 < V) (hb1 : 0 < b1) (hw : w < 4294967296) : (U * 4294967296 + w) / V ≤ U / b1 := by
  refine Nat.le_of_lt_succ ((Nat.div_lt_iff_lt_mul hp).mpr ?_)
  have h := Nat.div_add_mod U b1
  have hm := Nat.mod_lt U hb1
  have e : (U / b1 + 1) * V = (b1 * (U / b1)) * 4294967296 + b1 * 4294967296 + (U / b1 + 1) * b0 := by
    rw [hV, Nat.mul_add, Nat.add_mul, Nat.one_mul, ← Nat.mul_assoc, Nat.mul_comm b1 (U / b1)]
  show U * 4294967296 + w < (U / b1 + 1) * V
  rw [e]
  clear e hV
  generalize b1 * (U / b1) = A at h ⊢
  generalize (U / b1 + 1) * b0 = D
  generalize U % b1 = m at h hm
  omega
theorem wmul {a b : Nat} (h : a * b < 18446744073709551616) : IntKind.u64.wrap ((a : Int) * (b : Int)) = ((a * b : Nat) : Int) := by
  rw [← Int.natCast_mul]; exact u64s (Int.natCast_nonneg _) (Int.ofNat_lt.mpr h)
/-- The right side of a loop's test. -/
theorem wtest {r w : Nat} (hr : r < 4294967296) (hw : w < 4294967296) : IntKind.u64.wrap ((IntKind.u64.wrap (4294967296 * (r : Int))) + (w : Int)) = ((4294967296 * r + w : Nat) : Int) := by
  rw [u64s (x := 4294967296 * (r : Int)) (by omega) (by omega), u64s (by omega) (by omega)]; omega
theorem sq_b {q b0 : Nat} (hq : q < 4294967296) (hb : b0 < 4294967296) : q * b0 < 18446744073709551616 :=
  Nat.lt_of_lt_of_le (Nat.mul_lt_mul'' hq hb) (by decide)
theorem wdec {q : Nat} (hq : q < 18446744073709551615) : IntKind.u64.wrap (((q + 1 : Nat) : Int) - 1) = (q : Int) := by
  rw [u64s (by omega) (by omega)]; omega
theorem winc {r b1 : Nat} (hr : r < 4294967296) (hb1 : b1 < 4294967296) : IntKind.u64.wrap ((r : Int) + (b1 : Int)) = ((r + b1 : Nat) : Int) := by
  rw [u64s (by omega) (by omega)]; omega
theorem D_l0 {V b1 b0 U w u0 : Nat} {s : Int} (hV : V = b1 * 4294967296 + b0) (hp : 0 < V) (hb1 : b1 < 4294967296) (hb0 : b0 < 4294967296) (hU : U < V) (hw : w < 4294967296) {res : Int × Int}
    (hres : Ev (fun k => bits_Div64.j2 k (V : Int) s (b1 : Int) (b0 : Int) (U : Int) (w : Int) (u0 : Int) (((U * 4294967296 + w) / V : Nat) : Int)) res) :
    ∀ d q r : Nat, q - (U * 4294967296 + w) / V ≤ d → (U * 4294967296 + w) / V ≤ q → q ≤ 4294967297 → q * b1 + r = U → r < 4294967296 →
    Ev (fun k => bits_Div64.l0 k (V : Int) s (b1 : Int) (b0 : Int) (U : Int) (w : Int) (u0 : Int) (q : Int) (r : Int)) res := by
  obtain ⟨Q, hQ⟩ : ∃ Q, Q = (U * 4294967296 + w) / V := ⟨_, rfl⟩
  have hT : ∀ q r : Nat, q * b1 + r = U → q * b0 ≤ 4294967296 * r + w → q ≤ Q := fun q r h ht => hQ ▸ kn_T h hV hp ht
  have hF1 : ∀ q r : Nat, q * b1 + r = U → 4294967296 * r + w < q * b0 → Q < q := fun q r h ht => hQ ▸ kn_F1 h hV hp ht
  have hF2 : ∀ q : Nat, 4294967296 ≤ q → Q < q := fun q h => hQ ▸ kn_F2 hU hw h
  have hG : ∀ q r : Nat, q * b1 + r = U → 4294967296 ≤ r → q ≤ 4294967296 → q ≤ Q := fun q r h hr hq => hQ ▸ kn_G h hV hp hr hq hb0
  rw [← hQ] at hres ⊢
  clear hQ hV hU
  intro d
  induction d with
  | zero =>
    intro q r hd hle hq9 hqr hr
    have hqQ : q = Q := by clear hqr; omega
    have n1 : ¬ 4294967296 ≤ q := fun g => Nat.lt_irrefl q (Nat.lt_of_le_of_lt (Nat.le_of_eq hqQ) (hF2 q g))
    have n2 : ¬ 4294967296 * r + w < q * b0 := fun g => Nat.lt_irrefl q (Nat.lt_of_le_of_lt (Nat.le_of_eq hqQ) (hF1 q r hqr g))
    have a1 := Aside0.mk n2
    have a2 := Aside0.mk hqr
    clear n2 hqr hT hF1 hF2 hG
    refine Ev.step (f := fun k => bits_Div64.j1 k (V : Int) s (b1 : Int) (b0 : Int) (U : Int) (w : Int) (u0 : Int) (q : Int) (r : Int) false) (fun k => ?_) ?_
    · simp only [bits_Div64.l0]
      rw [if_neg (by omega), wmul (sq_b (by omega) hb0), wtest hr hw, decide_eq_false (fun g => a1.out (Int.ofNat_lt.mp g))]
    · refine Ev.step (f := fun k => bits_Div64.j2 k (V : Int) s (b1 : Int) (b0 : Int) (U : Int) (w : Int) (u0 : Int) (q : Int)) (fun k => ?_) ?_
      · simp only [bits_Div64.j1]
        rw [if_neg (by decide)]
      · rw [hqQ]; exact hres
  | succ d ih =>
    intro q r hd hle hq9 hqr hr
    have jT : Q < q → Ev (fun k => bits_Div64.j1 k (V : Int) s (b1 : Int) (b0 : Int) (U : Int) (w : Int) (u0 : Int) (q : Int) (r : Int) true) res := by
      intro hlt
      obtain ⟨p, rfl⟩ : ∃ p, q = p + 1 := ⟨q - 1, by clear hqr; omega⟩
      have hpr : p * b1 + (r + b1) = U := by rw [← hqr, Nat.succ_mul]; exact (Nat.add_left_comm _ _ _).trans (Nat.add_comm _ _)
      by_cases g : 4294967296 ≤ r + b1
      · have hpQ : p ≤ Q := hG p (r + b1) hpr g (by clear hqr hpr; omega)
        have e : p = Q := Nat.le_antisymm hpQ (Nat.le_of_lt_succ hlt)
        clear hqr hpr hT hF1 hF2 hG
        refine Ev.step (f := fun k => bits_Div64.j2 k (V : Int) s (b1 : Int) (b0 : Int) (U : Int) (w : Int) (u0 : Int) (p : Int)) (fun k => ?_) (by rw [e]; exact hres)
        simp only [bits_Div64.j1]
        rw [if_pos trivial, winc hr hb1, if_pos (by omega), wdec (by omega)]
      · have hrec := ih p (r + b1) (by clear hqr hpr; omega) (Nat.le_of_lt_succ hlt) (by clear hqr hpr; omega) hpr (Nat.lt_of_not_le g)
        clear hqr hpr hT hF1 hF2 hG
        refine Ev.step (f := fun k => bits_Div64.l0 k (V : Int) s (b1 : Int) (b0 : Int) (U : Int) (w : Int) (u0 : Int) (p : Int) ((r + b1 : Nat) : Int)) (fun k => ?_) hrec
        simp only [bits_Div64.j1]
        rw [if_pos trivial, winc hr hb1, if_neg (by omega), wdec (by omega)]
    by_cases g1 : 4294967296 ≤ q
    · have h1 := jT (hF2 q g1)
      refine Ev.step (fun k => ?_) h1
      simp only [bits_Div64.l0]
      rw [if_pos (show (q : Int) ≥ 4294967296 from Int.ofNat_le.mpr g1)]
    · have hq1 : q < 4294967296 := Nat.lt_of_not_le g1
      have g2 : ¬ ((q : Int) ≥ 4294967296) := fun g => g1 (Int.ofNat_le.mp g)
      by_cases g3 : 4294967296 * r + w < q * b0
      · have h1 := jT (hF1 q r hqr g3)
        refine Ev.step (fun k => ?_) h1
        simp only [bits_Div64.l0]
        rw [if_neg g2, wmul (sq_b hq1 hb0), wtest hr hw, decide_eq_true (Int.ofNat_lt.mpr g3)]
      · have hqQ : q = Q := Nat.le_antisymm (hT q r hqr (Nat.le_of_not_lt g3)) hle
        refine Ev.step (f := fun k => bits_Div64.j1 k (V : Int) s (b1 : Int) (b0 : Int) (U : Int) (w : Int) (u0 : Int) (q : Int) (r : Int) false) (fun k => ?_) ?_
        · simp only [bits_Div64.l0]
          rw [if_neg g2, wmul (sq_b hq1 hb0), wtest hr hw, decide_eq_false (fun g => g3 (Int.ofNat_lt.mp g))]
        · refine Ev.step (f := fun k => bits_Div64.j2 k (V : Int) s (b1 : Int) (b0 : Int) (U : Int) (w : Int) (u0 : Int) (q : Int)) (fun k => ?_) ?_
          · simp only [bits_Div64.j1]
            rw [if_neg (by decide)]
          · rw [hqQ]; exact hres
theorem D_l1 {V b1 b0 U w q1 : Nat} {s : Int} (hs : 0 ≤ s) (hV : V = b1 * 4294967296 + b0) (hp : 0 < V) (hb1 : b1 < 4294967296) (hb0 : b0 < 4294967296) (hU : U < V) (hw : w < 4294967296) {res : Int × Int}
    (hres : (IntKind.u64.wrap ((IntKind.u64.wrap ((q1 : Int) * 4294967296)) + (((U * 4294967296 + w) / V : Nat) : Int)), shr .u64 (IntKind.u64.wrap ((IntKind.u64.wrap ((IntKind.u64.wrap ((U : Int) * 4294967296)) + (w : Int))) - (IntKind.u64.wrap ((((U * 4294967296 + w) / V : Nat) : Int) * (V : Int))))) s) = res) :
    ∀ d q r : Nat, q - (U * 4294967296 + w) / V ≤ d → (U * 4294967296 + w) / V ≤ q → q ≤ 4294967297 → q * b1 + r = U → r < 4294967296 →
    Ev (fun k => bits_Div64.l1 k (V : Int) s (b1 : Int) (b0 : Int) (w : Int) (q1 : Int) (r : Int) (U : Int) (q : Int)) res := by
  obtain ⟨Q, hQ⟩ : ∃ Q, Q = (U * 4294967296 + w) / V := ⟨_, rfl⟩
  have hT : ∀ q r : Nat, q * b1 + r = U → q * b0 ≤ 4294967296 * r + w → q ≤ Q := fun q r h ht => hQ ▸ kn_T h hV hp ht
  have hF1 : ∀ q r : Nat, q * b1 + r = U → 4294967296 * r + w < q * b0 → Q < q := fun q r h ht => hQ ▸ kn_F1 h hV hp ht
  have hF2 : ∀ q : Nat, 4294967296 ≤ q → Q < q := fun q h => hQ ▸ kn_F2 hU hw h
  have hG : ∀ q r : Nat, q * b1 + r = U → 4294967296 ≤ r → q ≤ 4294967296 → q ≤ Q := fun q r h hr hq => hQ ▸ kn_G h hV hp hr hq hb0
  rw [← hQ] at hres ⊢
  clear hQ hV hU
  intro d
  induction d with
  | zero =>
    intro q r hd hle hq9 hqr hr
    have hqQ : q = Q := by clear hqr; omega
    have n1 : ¬ 4294967296 ≤ q := fun g => Nat.lt_irrefl q (Nat.lt_of_le_of_lt (Nat.le_of_eq hqQ) (hF2 q g))
    have n2 : ¬ 4294967296 * r + w < q * b0 := fun g => Nat.lt_irrefl q (Nat.lt_of_le_of_lt (Nat.le_of_eq hqQ) (hF1 q r hqr g))
    have a1 := Aside0.mk n2
    have a2 := Aside0.mk hqr
    clear n2 hqr hT hF1 hF2 hG
    refine Ev.step (f := fun k => bits_Div64.j4 k (V : Int) s (b1 : Int) (b0 : Int) (w : Int) (q1 : Int) (r : Int) (U : Int) (q : Int) false) (fun k => ?_) ?_
    · simp only [bits_Div64.l1]
      rw [if_neg (by omega), wmul (sq_b (by omega) hb0), wtest hr hw, decide_eq_false (fun g => a1.out (Int.ofNat_lt.mp g))]
    · refine Ev.step (f := fun k => some (IntKind.u64.wrap ((IntKind.u64.wrap ((q1 : Int) * 4294967296)) + (q : Int)), shr .u64 (IntKind.u64.wrap ((IntKind.u64.wrap ((IntKind.u64.wrap ((U : Int) * 4294967296)) + (w : Int))) - (IntKind.u64.wrap ((q : Int) * (V : Int))))) s)) (fun k => ?_) ?_
      · simp only [bits_Div64.j4]
        rw [if_neg (by decide), if_pos hs]
      · rw [hqQ, hres]; exact Ev.now _
  | succ d ih =>
    intro q r hd hle hq9 hqr hr
    have jT : Q < q → Ev (fun k => bits_Div64.j4 k (V : Int) s (b1 : Int) (b0 : Int) (w : Int) (q1 : Int) (r : Int) (U : Int) (q : Int) true) res := by
      intro hlt
      obtain ⟨p, rfl⟩ : ∃ p, q = p + 1 := ⟨q - 1, by clear hqr; omega⟩
      have hpr : p * b1 + (r + b1) = U := by rw [← hqr, Nat.succ_mul]; exact (Nat.add_left_comm _ _ _).trans (Nat.add_comm _ _)
      by_cases g : 4294967296 ≤ r + b1
      · have hpQ : p ≤ Q := hG p (r + b1) hpr g (by clear hqr hpr; omega)
        have e : p = Q := Nat.le_antisymm hpQ (Nat.le_of_lt_succ hlt)
        clear hqr hpr hT hF1 hF2 hG
        refine Ev.step (f := fun k => some (IntKind.u64.wrap ((IntKind.u64.wrap ((q1 : Int) * 4294967296)) + (p : Int)), shr .u64 (IntKind.u64.wrap ((IntKind.u64.wrap ((IntKind.u64.wrap ((U : Int) * 4294967296)) + (w : Int))) - (IntKind.u64.wrap ((p : Int) * (V : Int))))) s)) (fun k => ?_) (by rw [e, hres]; exact Ev.now _)
        simp only [bits_Div64.j4]
        rw [if_pos trivial, winc hr hb1, if_pos (by omega), if_pos hs, wdec (by omega)]
      · have hrec := ih p (r + b1) (by clear hqr hpr; omega) (Nat.le_of_lt_succ hlt) (by clear hqr hpr; omega) hpr (Nat.lt_of_not_le g)
        clear hqr hpr hT hF1 hF2 hG
        refine Ev.step (f := fun k => bits_Div64.l1 k (V : Int) s (b1 : Int) (b0 : Int) (w : Int) (q1 : Int) ((r + b1 : Nat) : Int) (U : Int) (p : Int)) (fun k => ?_) hrec
        simp only [bits_Div64.j4]
        rw [if_pos trivial, winc hr hb1, if_neg (by omega), wdec (by omega)]
    by_cases g1 : 4294967296 ≤ q
    · have h1 := jT (hF2 q g1)
      refine Ev.step (fun k => ?_) h1
      simp only [bits_Div64.l1]
      rw [if_pos (show (q : Int) ≥ 4294967296 from Int.ofNat_le.mpr g1)]
    · have hq1 : q < 4294967296 := Nat.lt_of_not_le g1
      have g2 : ¬ ((q : Int) ≥ 4294967296) := fun g => g1 (Int.ofNat_le.mp g)
      by_cases g3 : 4294967296 * r + w < q * b0
      · have h1 := jT (hF1 q r hqr g3)
        refine Ev.step (fun k => ?_) h1
        simp only [bits_Div64.l1]
        rw [if_neg g2, wmul (sq_b hq1 hb0), wtest hr hw, decide_eq_true (Int.ofNat_lt.mpr g3)]
      · have hqQ : q = Q := Nat.le_antisymm (hT q r hqr (Nat.le_of_not_lt g3)) hle
        refine Ev.step (f := fun k => bits_Div64.j4 k (V : Int) s (b1 : Int) (b0 : Int) (w : Int) (q1 : Int) (r : Int) (U : Int) (q : Int) false) (fun k => ?_) ?_
        · simp only [bits_Div64.l1]
          rw [if_neg g2, wmul (sq_b hq1 hb0), wtest hr hw, decide_eq_false (fun g => g3 (Int.ofNat_lt.mp g))]
        · refine Ev.step (f := fun k => some (IntKind.u64.wrap ((IntKind.u64.wrap ((q1 : Int) * 4294967296)) + (q : Int)), shr .u64 (IntKind.u64.wrap ((IntKind.u64.wrap ((IntKind.u64.wrap ((U : Int) * 4294967296)) + (w : Int))) - (IntKind.u64.wrap ((q : Int) * (V : Int))))) s)) (fun k => ?_) ?_
          · simp only [bits_Div64.j4]
            rw [if_neg (by decide), if_pos hs]
          · rw [hqQ, hres]; exact Ev.now _
theorem tdn (a b : Nat) : Int.tdiv (a : Int) (b : Int) = ((a / b : Nat) : Int) := by rw [tdiv_nn (Int.natCast_nonneg _)]; rfl
theorem wn {a : Nat} (h : a < 18446744073709551616) : IntKind.u64.wrap (a : Int) = (a : Int) := u64s (Int.natCast_nonneg _) (Int.ofNat_lt.mpr h)
/-- The rest of the first guess. -/
theorem wdm {U b : Nat} (hU : U < 18446744073709551616) : IntKind.u64.wrap ((U : Int) - IntKind.u64.wrap (((U / b : Nat) : Int) * (b : Int))) = ((U % b : Nat) : Int) := by
  have h := Nat.div_add_mod U b
  rw [Nat.mul_comm] at h
  rw [wmul (Nat.lt_of_le_of_lt (Nat.div_mul_le_self U b) hU)]
  generalize U / b * b = P at h ⊢
  generalize U % b = m at h ⊢
  rw [u64s (by omega) (by omega)]; omega
/-- The rest of a digit. -/
theorem wun {U w V : Nat} (hp : 0 < V) (hV : V < 18446744073709551616) : IntKind.u64.wrap ((IntKind.u64.wrap ((IntKind.u64.wrap ((U : Int) * 4294967296)) + (w : Int))) - (IntKind.u64.wrap ((((U * 4294967296 + w) / V : Nat) : Int) * (V : Int)))) = (((U * 4294967296 + w) % V : Nat) : Int) := by
  have h := Nat.div_add_mod (U * 4294967296 + w) V
  have hm := Nat.mod_lt (U * 4294967296 + w) hp
  rw [Nat.mul_comm V] at h
  rw [← Int.natCast_mul, u64w, u64w, u64w, u64w]
  generalize (U * 4294967296 + w) / V * V = P at h ⊢
  generalize (U * 4294967296 + w) % V = m at h hm ⊢
  omega
theorem wq {a b : Nat} (ha : a < 4294967296) (hb : b < 4294967296) : IntKind.u64.wrap ((IntKind.u64.wrap ((a : Int) * 4294967296)) + (b : Int)) = ((a * 4294967296 + b : Nat) : Int) := by
  rw [u64w, u64w]; omega
theorem digit_lt {U V w : Nat} (hU : U < V) (hw : w < 4294967296) : (U * 4294967296 + w) / V < 4294967296 :=
  (Nat.div_lt_iff_lt_mul (Nat.lt_of_le_of_lt (Nat.zero_le _) hU)).mpr (kn_lt hU hw)
theorem D_core {V b1 b0 U w1 w0 : Nat} {s : Nat} (hV : V = b1 * 4294967296 + b0) (hV64 : V < 18446744073709551616) (hb : 2147483648 ≤ b1) (hb1 : b1 < 4294967296) (hb0 : b0 < 4294967296) (hU : U < V) (hw1 : w1 < 4294967296) (hw0 : w0 < 4294967296) :
    Ev (fun k => bits_Div64.l0 k (V : Int) (s : Int) (b1 : Int) (b0 : Int) (U : Int) (w1 : Int) (w0 : Int) (IntKind.u64.wrap (Int.tdiv (U : Int) (b1 : Int))) (IntKind.u64.wrap ((U : Int) - (IntKind.u64.wrap ((IntKind.u64.wrap (Int.tdiv (U : Int) (b1 : Int))) * (b1 : Int))))))
      ((((U * 4294967296 + w1) / V * 4294967296 + ((U * 4294967296 + w1) % V * 4294967296 + w0) / V : Nat) : Int), (((((U * 4294967296 + w1) % V * 4294967296 + w0) % V / 2 ^ s : Nat)) : Int)) := by
  have hp : 0 < V := Nat.lt_of_le_of_lt (Nat.zero_le _) hU
  have hb1p : 0 < b1 := Nat.lt_of_lt_of_le (by decide) hb
  have hU64 := Nat.lt_trans hU hV64
  have hR := Nat.mod_lt (U * 4294967296 + w1) hp
  have hR64 := Nat.lt_trans hR hV64
  have hrl : ∀ x : Nat, x % b1 < 4294967296 := fun x => Nat.lt_trans (Nat.mod_lt _ hb1p) hb1
  have hdm : ∀ x : Nat, x / b1 * b1 + x % b1 = x := fun x => by rw [Nat.mul_comm]; exact Nat.div_add_mod x b1
  have ql := digit_lt hU hw1
  rw [tdn, wn (Nat.lt_of_le_of_lt (Nat.div_le_self _ _) hU64), wdm hU64]
  refine D_l0 hV hp hb1 hb0 hU hw1 ?_ (U / b1) (U / b1) (U % b1) (Nat.sub_le _ _) (kn_le hV hp hb1p hw1) (kn_first hV hb hb0 hU) (hdm U) (hrl U)
  refine Ev.step (f := fun k => bits_Div64.l1 k (V : Int) (s : Int) (b1 : Int) (b0 : Int) (w0 : Int) (((U * 4294967296 + w1) / V : Nat) : Int) (((U * 4294967296 + w1) % V % b1 : Nat) : Int) (((U * 4294967296 + w1) % V : Nat) : Int) (((U * 4294967296 + w1) % V / b1 : Nat) : Int)) (fun k => ?_) ?_
  · simp only [bits_Div64.j2]
    rw [if_neg (by omega), wun hp hV64, tdn, wn (Nat.lt_of_le_of_lt (Nat.div_le_self _ _) hR64), wdm hR64]
  · refine D_l1 (Int.natCast_nonneg s) hV hp hb1 hb0 hR hw0 ?_ _ _ _ (Nat.sub_le _ _) (kn_le hV hp hb1p hw0) (kn_first hV hb hb0 hR) (hdm _) (hrl _)
    rw [wun hp hV64, wq ql (digit_lt hR hw0), shr_nat (Nat.lt_trans (Nat.mod_lt _ hp) hV64)]
theorem td1 (N w0 V : Nat) (hp : 0 < V) : N / V * 4294967296 + (N % V * 4294967296 + w0) / V = (N * 4294967296 + w0) / V ∧ (N % V * 4294967296 + w0) % V = (N * 4294967296 + w0) % V := by
  have h := Nat.div_add_mod N V
  have e0 : ∀ P m : Nat, P + m = N → N * 4294967296 + w0 = (m * 4294967296 + w0) + P * 4294967296 := by intro P m h; omega
  have e : N * 4294967296 + w0 = (N % V * 4294967296 + w0) + V * (N / V * 4294967296) := by
    rw [← Nat.mul_assoc]; exact e0 _ _ h
  constructor
  · rw [e, Nat.add_mul_div_left _ _ hp]; exact Nat.add_comm _ _
  · rw [e, Nat.add_mul_mod_self_left]
theorem dB (a : Nat) : (a : Int) / 4294967296 = ((a / 4294967296 : Nat) : Int) := by omega
theorem split3 (S : Nat) : (S / 18446744073709551616 * 4294967296 + S % 18446744073709551616 / 4294967296) * 4294967296 + S % 18446744073709551616 % 4294967296 = S := by omega
theorem tw_bound {h l y : Nat} (hh : h < y) (hl : l < 18446744073709551616) : tw h l < y * 18446744073709551616 := by unfold tw; omega
theorem norm_bounds {y : Nat} (h0 : 0 < y) (hy : y < 18446744073709551616) : 64 - blen y ≤ 63 ∧ y * 2 ^ (64 - blen y) < 18446744073709551616 ∧ 9223372036854775808 ≤ y * 2 ^ (64 - blen y) := by
  have h1 := lt_blen y
  have h2 := blen_le h0
  have h3 := blen_pos h0
  have h4 := blen_le_of (show y < 2 ^ 64 by rw [p64]; exact hy)
  refine ⟨by omega, ?_, ?_⟩
  · have e : 2 ^ blen y * 2 ^ (64 - blen y) = 18446744073709551616 := by rw [← Nat.pow_add, show blen y + (64 - blen y) = 64 by omega, p64]
    rw [← e]; exact Nat.mul_lt_mul_of_pos_right h1 (Nat.pow_pos (by decide))
  · have e : 2 ^ (blen y - 1) * 2 ^ (64 - blen y) = 9223372036854775808 := by rw [← Nat.pow_add, show blen y - 1 + (64 - blen y) = 63 by omega]
    rw [← e]; exact Nat.mul_le_mul_right _ h2
theorem Div64_ev {h l y : Nat} (hh : h < y) (hl : l < 18446744073709551616) (hy : y < 18446744073709551616) : Ev (fun k => bits_Div64.f k (h : Int) (l : Int) (y : Int)) (((tw h l / y : Nat) : Int), ((tw h l % y : Nat) : Int)) := by
  have hy0 : 0 < y := Nat.lt_of_le_of_lt (Nat.zero_le _) hh
  have hh64 := Nat.lt_trans hh hy
  unfold bits_Div64.f
  refine Ev.congr (fun k => if_neg (by omega)) (Ev.congr (fun k => if_neg (by omega)) ?_)
  by_cases hz : h = 0
  · subst hz
    refine Ev.congr (fun k => if_pos rfl) ?_
    have e : tw 0 l = l := by unfold tw; omega
    rw [e, tdn, wn (Nat.lt_of_le_of_lt (Nat.div_le_self _ _) hl), tmod_nn (Int.natCast_nonneg _)]
    exact Ev.now _
  · refine Ev.congr (fun k => if_neg (by omega)) (Ev.bind (LeadingZeros64_ev hy) ?_)
    obtain ⟨hn, hV64, hV63⟩ := norm_bounds hy0 hy
    generalize 64 - blen y = n at hn hV64 hV63 ⊢
    have hp2 : 0 < 2 ^ n := Nat.pow_pos (by decide)
    have hpp : 2 ^ n * 2 ^ (64 - n) = 18446744073709551616 := pow_pair (by omega)
    obtain ⟨s1, s2, s3, s4⟩ := shl_parts (ah := h) hl hp2 (Nat.pow_pos (by decide)) hpp
    have hb := tw_bound hh hl
    have hS : tw h l * 2 ^ n < (y * 2 ^ n) * 18446744073709551616 := by rw [Nat.mul_right_comm]; exact Nat.mul_lt_mul_of_pos_right hb hp2
    have q1 : tw h l * 2 ^ n / (y * 2 ^ n) = tw h l / y := Nat.mul_div_mul_right _ _ hp2
    have q2 : tw h l * 2 ^ n % (y * 2 ^ n) / 2 ^ n = tw h l % y := by rw [Nat.mul_mod_mul_right]; exact Nat.mul_div_cancel _ hp2
    have en : IntKind.u64.wrap ((n : Nat) : Int) = (n : Int) := wn (by omega)
    have em : IntKind.u64.wrap (64 - (n : Int)) = ((64 - n : Nat) : Int) := by rw [u64s (by omega) (by omega)]; omega
    have eV := shl_nat y n
    rw [Nat.mod_eq_of_lt hV64] at eV
    have eh := shl_nat h n
    have el := shl_nat l n
    have er := shr_nat hl (64 - n)
    have hU : tw h l * 2 ^ n / 18446744073709551616 < y * 2 ^ n := (Nat.div_lt_iff_lt_mul (by decide)).mpr hS
    have hU64 := Nat.lt_trans hU hV64
    have eo : Go.bits .or .u64 ((h * 2 ^ n % 18446744073709551616 : Nat) : Int) ((l / 2 ^ (64 - n) : Nat) : Int) = ((tw h l * 2 ^ n / 18446744073709551616 : Nat) : Int) := by
      rw [or_add (n := n) (Nat.mod_lt _ (by decide)) (by omega) s2 s3, s1]
      exact congrArg _ (Nat.mod_eq_of_lt hU64)
    have s4' : l * 2 ^ n % 18446744073709551616 = tw h l * 2 ^ n % 18446744073709551616 := s4
    rw [en, em, eV, eh, el, er, eo, s4', dB, dB, and32 hV64, and32 (Nat.mod_lt _ (by decide))]
    clear en em eV eh el er eo s4 s4' s1 s2 s3 hb hpp
    generalize y * 2 ^ n = V at hV64 hV63 hS q1 q2 hU ⊢
    generalize tw h l * 2 ^ n = S at hS q1 q2 hU hU64 ⊢
    have hVd : V = V / 4294967296 * 4294967296 + V % 4294967296 := by omega
    have hc := D_core (s := n) (w1 := S % 18446744073709551616 / 4294967296) (w0 := S % 18446744073709551616 % 4294967296) hVd hV64 (by omega) (by omega) (Nat.mod_lt _ (by decide)) hU (by omega) (Nat.mod_lt _ (by decide))
    obtain ⟨t1, t2⟩ := td1 (S / 18446744073709551616 * 4294967296 + S % 18446744073709551616 / 4294967296) (S % 18446744073709551616 % 4294967296) V (by omega)
    rw [t1, t2, split3, q1, q2] at hc
    exact Ev.congr (fun k => if_pos (Int.natCast_nonneg _)) (Ev.congr (fun k => if_pos (Int.natCast_nonneg _)) (Ev.congr (fun k => if_neg (by omega)) hc))
end Go.Proofs.Ytcnpnnodgfpheaa.M
