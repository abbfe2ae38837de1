/- The seventh layer's reference: the string of .. -/
import Derived.Test.YtjlaijaadclghaaF9Q
import Derived.Test.YtjlaijaadclghaaF10Q
import Derived.Test.YtjlaijaadclghaaRnd2Q
import Derived.Test.YtjlaijaadclghaaF4Q
import Derived.Test.YtjlaijaadclghaaCodQ
namespace Go.Proofs.Ytjlaijaadclghaa.M
open RowKit YtjlaijaadclghaaW PrintWords PrintLast PrintMore F
set_option linter.all false
def cutW (n : Nat) (sc : Int) (m : Nat) (rest : Bool) : Nat × Nat :=
 if ((4 * n - 8 : Nat) : Int) ≤ sc then (2 ^ (n - 1) - 1, 0)
 else if sc < -((4 * n - 8 : Nat) : Int) ∨ (sc = -((4 * n - 8 : Nat) : Int) ∧ m % 2 ^ 127 = 0 ∧ rest = false) then (1, 0)
 else cutM n sc m rest
theorem cutM_lt {n : Nat} (h : Wd n) (sc : Int) (m : Nat) (rest : Bool) : (cutM n sc m rest).1 < 2 ^ (n - 1) := by
 have h1 := st_X_lt sc m
 have h2 := h.le
 unfold cutM
 show stX sc m / 2 ^ (stL sc - (n - 1)) < _
 rw [Nat.div_lt_iff_lt_mul (Nat.pow_pos (by decide)), ← Nat.pow_add, show n - 1 + (stL sc - (n - 1)) = stL sc by unfold stL; omega]
 exact h1
theorem cutW_lt {n : Nat} (h : Wd n) (sc : Int) (m : Nat) (rest : Bool) : (cutW n sc m rest).1 < 2 ^ (n - 1) := by
 have h2 : 2 ^ 7 ≤ 2 ^ (n - 1) := Nat.pow_le_pow_right (by decide) (by have := h.ge; omega)
 unfold cutW
 split
 ·
  show 2 ^ (n - 1) - 1 < 2 ^ (n - 1); omega
 ·
  split
  ·
   show 1 < 2 ^ (n - 1); omega
  ·
   exact cutM_lt h sc m rest
def rdP (n : Nat) (sc : Int) (m : Nat) (rest : Bool) : Nat := if (cutW n sc m rest).2 = 3 ∨ ((cutW n sc m rest).2 = 2 ∧ (cutW n sc m rest).1 % 2 = 1) then (cutW n sc m rest).1 + 1 else (cutW n sc m rest).1
theorem rdP_le {n : Nat} (h : Wd n) (sc : Int) (m : Nat) (rest : Bool) : rdP n sc m rest ≤ 2 ^ (n - 1) := by
 have := cutW_lt h sc m rest
 unfold rdP
 split <;> omega
def rdN (n : Nat) (neg : Bool) (sc : Int) (m : Nat) (rest : Bool) : Nat := signN n neg (rdP n sc m rest)
theorem held_eq (a : Int) : round_held.f a = some (if a < -1099511627776 then -1099511627776 else if a > 1099511627776 then 1099511627776 else a) := by
 unfold round_held.f mx mn
 congr 1
 split <;> split <;> (try split) <;> omega
theorem sound_real {neg rest : Bool} {sc : Int} {h l : Nat} (h0 : -1099511627776 ≤ sc) (h1 : sc ≤ 1099511627776) (hh : 9223372036854775808 ≤ h) (hh2 : h < 18446744073709551616) : Ev (fun k => round_sound.f k 1 neg sc (h : Int) (l : Int) rest) true := by
 unfold round_sound.f
 refine Ev.congr (fun k => if_neg (by decide)) (Ev.step (f := fun _ => some true) (fun k => ?_) (Ev.now _))
 simp only [round_sound.j0]
 rw [if_neg (by decide), if_pos trivial, if_pos (by omega), held_eq, if_neg (by omega), if_neg (by omega)]
 simp
theorem sound_zero {kind : Int} (hk : kind = 0 ∨ kind = 2) : Ev (fun k => round_sound.f k kind false 0 0 0 false) true := by
 unfold round_sound.f
 rcases hk with rfl | rfl
 ·
  refine Ev.congr (fun k => if_pos rfl) (Ev.step (f := fun _ => some true) (fun k => ?_) (Ev.now _))
  simp only [round_sound.j0]; rw [if_pos (by decide)]; rfl
 ·
  refine Ev.congr (fun k => if_neg (by decide)) (Ev.step (f := fun _ => some true) (fun k => ?_) (Ev.now _))
  simp only [round_sound.j0]; rw [if_pos (by decide)]; rfl
theorem tw_low {h l : Nat} (hh : 9223372036854775808 ≤ h) (hh2 : h < 18446744073709551616) (hl : l < 18446744073709551616) : tw h l % 2 ^ 127 = 0 ↔ (h = 9223372036854775808 ∧ l = 0) := by
 unfold tw
 rw [show (2 : Nat) ^ 127 = 170141183460469231731687303715884105728 by decide]
 omega
theorem Cut_real {n : Nat} {neg rest : Bool} {sc : Int} {h l : Nat} (hn : Wd n) (h0 : -1099511627776 ≤ sc) (h1 : sc ≤ 1099511627776) (hh : 9223372036854775808 ≤ h) (hh2 : h < 18446744073709551616) (hl : l < 18446744073709551616) :
  Ev (fun k => round_Cut.f k (n : Int) 1 neg sc (h : Int) (l : Int) rest) (((cutW n sc (tw h l) rest).1 : Int), ((cutW n sc (tw h l) rest).2 : Int), none) := by
 have hn1 := hn.ge
 have hn2 := hn.le
 have et : wrap64 (-((4 * n - 8 : Nat) : Int)) = -((4 * n - 8 : Nat) : Int) := w64 (by omega) (by omega)
 have hp : 0 < 2 ^ (n - 1) := Nat.pow_pos (by decide)
 unfold round_Cut.f
 rw [Of_eq hn]
 simp only [Option.bind_some, Option.isNone_none, ↓reduceIte]
 refine Ev.bind (sound_real h0 h1 hh hh2) ?_
 simp only [↓reduceIte]
 refine Ev.congr (fun k => if_neg (by decide)) (Ev.congr (fun k => if_neg (by decide)) ?_)
 unfold cutW
 by_cases c1 : ((4 * n - 8 : Nat) : Int) ≤ sc
 ·
  rw [if_pos c1]
  exact Ev.congr (fun k => if_pos c1) (Ev.now _)
 ·
  rw [if_neg c1]
  refine Ev.congr (fun k => if_neg c1) ?_
  rw [et]
  by_cases c2 : sc < -((4 * n - 8 : Nat) : Int)
  ·
   rw [if_pos (Or.inl c2)]
   exact Ev.congr (fun k => if_pos c2) (Ev.now _)
  ·
   refine Ev.congr (fun k => if_neg c2) ?_
   have hj := Cut_j0 (kind := 1) (neg := neg) (rest := rest) (sc := sc) hn (by omega) (by omega) hh2 hl
   by_cases c3 : sc = -((4 * n - 8 : Nat) : Int)
   ·
    refine Ev.congr (fun k => if_pos c3) ?_
    by_cases c4 : h = 9223372036854775808
    ·
     refine Ev.congr (fun k => if_pos (by omega)) ?_
     by_cases c5 : l = 0
     ·
      refine Ev.congr (fun k => if_pos (by omega)) ?_
      cases rest
      ·
       rw [if_pos (Or.inr ⟨c3, (tw_low hh hh2 hl).mpr ⟨c4, c5⟩, rfl⟩)]
       exact Ev.congr (fun k => if_neg (by decide)) (Ev.now _)
      ·
       rw [if_neg (by rintro (a | ⟨_, _, a⟩); exact c2 a; cases a)]
       exact Ev.congr (fun k => if_pos rfl) hj
     ·
      rw [if_neg (by rintro (a | ⟨_, a, _⟩); exact c2 a; exact c5 ((tw_low hh hh2 hl).mp a).2)]
      exact Ev.congr (fun k => if_neg (by omega)) hj
    ·
     rw [if_neg (by rintro (a | ⟨_, a, _⟩); exact c2 a; exact c4 ((tw_low hh hh2 hl).mp a).1)]
     exact Ev.congr (fun k => if_neg (by omega)) hj
   ·
    rw [if_neg (by rintro (a | ⟨a, _, _⟩); exact c2 a; exact c3 a)]
    exact Ev.congr (fun k => if_neg c3) hj
theorem Cut_zero {n : Nat} (hn : Wd n) : Ev (fun k => round_Cut.f k (n : Int) 0 false 0 0 0 false) (0, 0, none) := by
 unfold round_Cut.f
 rw [Of_eq hn]
 simp only [Option.bind_some, Option.isNone_none, ↓reduceIte]
 refine Ev.bind (sound_zero (Or.inl rfl)) ?_
 exact Ev.now _
theorem Round_zero {n : Nat} (hn : Wd n) : Ev (fun k => round_Round.f k (n : Int) 0 false 0 0 0 false) (0, none) := by
 unfold round_Round.f
 refine Ev.bind (Cut_zero hn) ?_
 simp only [Option.isNone_none, ↓reduceIte]
 have hf := Fold_eq (p := 0) hn (by decide)
 rw [Nat.zero_mod] at hf
 have hf2 : shape_Fold.f (n : Int) 0 = some (0, none) := hf
 refine Ev.congr (fun k => if_neg (by decide)) (Ev.congr (fun k => if_neg (by decide)) (Ev.congr (fun k => if_neg (by decide)) ?_))
 rw [hf2]
 exact Ev.now _
theorem sign_end {n p : Nat} (neg : Bool) (hn : Wd n) (hp : p ≤ 2 ^ (n - 1)) : (if neg = true then (shape_Fold.f (n : Int) (IntKind.u64.wrap (-(p : Int)))).bind fun bt => some (bt.1, bt.2) else (shape_Fold.f (n : Int) (p : Int)).bind fun bt => some (bt.1, bt.2)) = some ((signN n neg p : Int), none) := by
 have hw : p < 18446744073709551616 := Nat.lt_of_le_of_lt hp (half_lt hn)
 have hlt : p < 2 ^ n := Nat.lt_of_le_of_lt hp (Nat.pow_lt_pow_right (by decide) (by have := hn.ge; omega))
 unfold signN
 cases neg
 ·
  rw [if_neg (by decide), if_neg (by decide), Fold_eq hn hw, Nat.mod_eq_of_lt hlt]; rfl
 ·
  rw [if_pos rfl, if_pos rfl, neg_word hw, Fold_eq hn (ngN_lt p)]; rfl
theorem Round_real {n : Nat} {neg rest : Bool} {sc : Int} {h l : Nat} (hn : Wd n) (h0 : -1099511627776 ≤ sc) (h1 : sc ≤ 1099511627776) (hh : 9223372036854775808 ≤ h) (hh2 : h < 18446744073709551616) (hl : l < 18446744073709551616) :
  Ev (fun k => round_Round.f k (n : Int) 1 neg sc (h : Int) (l : Int) rest) (((rdN n neg sc (tw h l) rest : Nat) : Int), none) := by
 have hlt := cutW_lt hn sc (tw h l) rest
 have hle := rdP_le hn sc (tw h l) rest
 have hw := half_lt hn
 unfold round_Round.f
 refine Ev.bind (Cut_real hn h0 h1 hh hh2 hl) ?_
 simp only [Option.isNone_none, ↓reduceIte]
 have e1 : Go.bits .and .u64 ((cutW n sc (tw h l) rest).1 : Int) 1 = (((cutW n sc (tw h l) rest).1 % 2 : Nat) : Int) := and_one (by omega)
 have e2 : IntKind.u64.wrap (((cutW n sc (tw h l) rest).1 : Int) + 1) = (((cutW n sc (tw h l) rest).1 + 1 : Nat) : Int) := by rw [u64s (by omega) (by omega)]; rfl
 rw [e1, e2]
 unfold rdN
 unfold rdP at hle ⊢
 generalize cutW n sc (tw h l) rest = c at *
 by_cases g3 : c.2 = 3
 ·
  rw [if_pos (Or.inl g3)] at hle ⊢
  refine Ev.congr (fun k => if_neg (by omega)) (Ev.congr (fun k => if_pos (by omega)) ?_)
  rw [sign_end neg hn hle]; exact Ev.now _
 ·
  by_cases g2 : c.2 = 2
  ·
   by_cases gb : c.1 % 2 = 1
   ·
    rw [if_pos (Or.inr ⟨g2, gb⟩)] at hle ⊢
    refine Ev.congr (fun k => if_pos (by omega)) (Ev.congr (fun k => if_neg (by omega)) ?_)
    rw [sign_end neg hn hle]; exact Ev.now _
   ·
    have ng : ¬ (c.2 = 3 ∨ (c.2 = 2 ∧ c.1 % 2 = 1)) := by rintro (a | ⟨_, a⟩); exact g3 a; exact gb a
    rw [if_neg ng] at hle ⊢
    refine Ev.congr (fun k => if_pos (by omega)) (Ev.congr (fun k => if_pos (by omega)) ?_)
    rw [sign_end neg hn hle]; exact Ev.now _
  ·
   have ng : ¬ (c.2 = 3 ∨ (c.2 = 2 ∧ c.1 % 2 = 1)) := by rintro (a | ⟨a, _⟩); exact g3 a; exact g2 a
   rw [if_neg ng] at hle ⊢
   refine Ev.congr (fun k => if_neg (by omega)) (Ev.congr (fun k => if_neg (by omega)) ?_)
   rw [sign_end neg hn hle]; exact Ev.now _
end Go.Proofs.Ytjlaijaadclghaa.M

namespace Go.Proofs.Ytjlaijaadclghaa.M
set_option linter.all false
theorem blen_mono {a b : Nat} (h : a ≤ b) : blen a ≤ blen b := blen_le_of (Nat.lt_of_le_of_lt h (lt_blen b))
end Go.Proofs.Ytjlaijaadclghaa.M
