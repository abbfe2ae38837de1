/- The seventh layer's reference: the string of a number as text, cut; and that program and reference round alike. -/
import Derived.Test.YtpdpggndhmnggaaF7d
import Derived.Test.YtpdpggndhmnggaaF8d
import Derived.Test.YtpdpggndhmnggaaF18d
import Derived.Test.YtpdpggndhmnggaaRnd2d
namespace Go.Proofs.Ytpdpggndhmnggaa.M
open Go.RowKit Go.Proofs.YtpdpggndhmnggaaW.PrintWords Go.Proofs.YtpdpggndhmnggaaW.PrintLast Go.Proofs.YtpdpggndhmnggaaW.PrintMore Go.Proofs.Ytpdpggndhmnggaa.F
set_option linter.unusedVariables false
set_option linter.unusedSimpArgs false
theorem mod_bit (x j : Nat) : x % 2 ^ (j + 1) = x / 2 ^ j % 2 * 2 ^ j + x % 2 ^ j := by
  rw [Nat.pow_succ, Nat.mod_mul, Nat.add_comm, Nat.mul_comm]
theorem some_l0 {x n : Nat} (hn : n ≤ 2000) : ∀ d i : Nat, n - i ≤ d → i ≤ n → Ev (fun k => vernierref07_some.l0 k (txt x n) (i : Int)) (decide (x % 2 ^ (n - i) ≠ 0)) := by
  intro d
  induction d with
  | zero =>
    intro i hd hi
    obtain rfl : i = n := by omega
    refine Ev.step (f := fun _ => some false) (fun k => ?_) ?_
    · simp only [vernierref07_some.l0]; rw [if_neg (by rw [txt_size]; omega)]
    · rw [Nat.sub_self, Nat.pow_zero, Nat.mod_one]; exact Ev.now _
  | succ d ih =>
    intro i hd hi
    by_cases hgo : i < n
    · have hb := txt_bt (x := x) (n := n) (j := i) hgo
      have hm := mod_bit x (n - 1 - i)
      rw [show n - 1 - i + 1 = n - i by omega] at hm
      have hp : 0 < 2 ^ (n - 1 - i) := Nat.pow_pos (by decide)
      by_cases h1 : x / 2 ^ (n - 1 - i) % 2 = 1
      · refine Ev.step (f := fun _ => some true) (fun k => ?_) ?_
        · simp only [vernierref07_some.l0]; rw [if_pos (by rw [txt_size]; omega), if_pos (by omega), if_pos (by rw [hb]; omega)]
        · rw [h1] at hm
          rw [decide_eq_true (by omega)]; exact Ev.now _
      · refine Ev.step (f := fun k => vernierref07_some.l0 k (txt x n) ((i + 1 : Nat) : Int)) (fun k => ?_) ?_
        · simp only [vernierref07_some.l0]; rw [if_pos (by rw [txt_size]; omega), if_pos (by omega), if_neg (by rw [hb]; omega), w64 (by omega) (by omega)]; rfl
        · have h0 : x / 2 ^ (n - 1 - i) % 2 = 0 := by omega
          rw [h0, Nat.zero_mul, Nat.zero_add] at hm
          rw [hm, show n - 1 - i = n - (i + 1) by omega]
          exact ih (i + 1) (by omega) (by omega)
    · exact ih i (by omega) hi
theorem some_ev {x n : Nat} (hn : n ≤ 2000) : Ev (fun k => vernierref07_some.f k (txt x n)) (decide (x % 2 ^ n ≠ 0)) := some_l0 hn n 0 (by omega) (by omega)
theorem toList_len (b : ByteArray) : ∀ d i (r : List UInt8), b.size - i ≤ d → (ByteArray.toList.loop b i r).length = r.length + (b.size - i) := by
  intro d
  induction d with
  | zero =>
    intro i r h
    rw [ByteArray.toList.loop, if_neg (by omega), List.length_reverse]
    omega
  | succ d ih =>
    intro i r h
    rw [ByteArray.toList.loop]
    split
    · rw [ih (i + 1) _ (by omega), List.length_cons]; omega
    · rw [List.length_reverse]; omega
theorem txt_full {x n : Nat} (h : 0 < n) : (txt x n).toList ≠ ([] : List UInt8) := by
  intro hh
  have : (txt x n).toList.length = 0 + ((txt x n).size - 0) := toList_len _ _ 0 [] (Nat.le_refl _)
  rw [hh, txt_size] at this
  simp at this
  omega
theorem left07_ev {x n : Nat} (h1 : 0 < n) (hn : n ≤ 2000) (rest : Bool) : Ev (fun k => vernierref07_left.f k (txt x n) rest) ((leftN (x % 2 ^ n) (2 ^ (n - 1)) rest : Nat) : Int) := by
  unfold vernierref07_left.f
  refine Ev.congr (fun k => if_neg (txt_full h1)) ?_
  have hm := mod_bit x (n - 1)
  rw [show n - 1 + 1 = n by omega] at hm
  have hp : 0 < 2 ^ (n - 1) := Nat.pow_pos (by decide)
  have hl := Nat.mod_lt x hp
  have hb := bt_first (x := x) h1
  have ht : (txt x n).extract 1 (txt x n).size = txt x (n - 1) := by rw [txt_size, txt_extract _ _ _ _ h1 (Nat.le_refl _), Nat.sub_self, Nat.pow_zero, Nat.div_one]
  refine Ev.step (fun k => by simp only [vernierref07_left.j0]; rw [if_pos (by rw [txt_size]; omega), ht]) (Ev.bind (some_ev (x := x) (n := n - 1) (by omega)) ?_)
  refine Ev.congr (fun k => if_pos (by rw [txt_size]; omega)) ?_
  rw [hm]
  unfold leftN
  by_cases hz : x / 2 ^ (n - 1) % 2 = 1
  · refine Ev.congr (fun k => if_pos (by rw [hb]; omega)) ?_
    rw [hz, Nat.one_mul]
    by_cases hr : x % 2 ^ (n - 1) ≠ 0
    · rw [decide_eq_true hr, if_pos (Or.inl (by omega))]
      refine Ev.congr (fun k => if_pos rfl) (Ev.step (f := fun _ => some 3) (fun k => ?_) (Ev.now _))
      simp only [vernierref07_left.j1]; rw [if_pos trivial]
    · rw [decide_eq_false hr]
      refine Ev.congr (fun k => if_neg (by decide)) ?_
      have hr0 : x % 2 ^ (n - 1) = 0 := by omega
      rw [hr0, Nat.add_zero]
      cases rest
      · rw [if_neg (by simp), if_pos rfl]
        refine Ev.step (f := fun _ => some 2) (fun k => ?_) (Ev.now _)
        simp only [vernierref07_left.j1]; rw [if_neg (by decide), if_pos (by rw [txt_size]; omega), if_pos (by rw [hb]; omega)]
      · rw [if_pos (Or.inr ⟨rfl, rfl⟩)]
        refine Ev.step (f := fun _ => some 3) (fun k => ?_) (Ev.now _)
        simp only [vernierref07_left.j1]; rw [if_pos trivial]
  · have h0 : x / 2 ^ (n - 1) % 2 = 0 := by omega
    refine Ev.congr (fun k => if_neg (by rw [hb]; omega)) ?_
    rw [h0, Nat.zero_mul, Nat.zero_add, if_neg (by rintro (a | ⟨a, _⟩) <;> omega), if_neg (by omega)]
    by_cases hr : x % 2 ^ (n - 1) ≠ 0
    · rw [decide_eq_true hr, if_pos (Or.inl (by omega))]
      refine Ev.step (f := fun _ => some 1) (fun k => ?_) (Ev.now _)
      simp only [vernierref07_left.j1]; rw [if_neg (by decide), if_pos (by rw [txt_size]; omega), if_neg (by rw [hb]; omega), if_pos trivial]
    · rw [decide_eq_false hr]
      cases rest
      · rw [if_neg (by rintro (a | a); omega; cases a)]
        refine Ev.step (f := fun _ => some 0) (fun k => ?_) (Ev.now _)
        simp only [vernierref07_left.j1]; rw [if_neg (by decide), if_pos (by rw [txt_size]; omega), if_neg (by rw [hb]; omega), if_neg (by decide), if_neg (by decide)]
      · rw [if_pos (Or.inr rfl)]
        refine Ev.step (f := fun _ => some 1) (fun k => ?_) (Ev.now _)
        simp only [vernierref07_left.j1]; rw [if_neg (by decide), if_pos (by rw [txt_size]; omega), if_neg (by rw [hb]; omega), if_neg (by decide), if_pos trivial]
/-- What is cut off any number's string, and what is left. -/
def cutW (n : Nat) (sc : Int) (m : Nat) (rest : Bool) : Nat × Nat :=
  if ((4 * n - 8 : Nat) : Int) ≤ sc then (2 ^ (n - 1) - 1, 0)
  else if sc < -((4 * n - 8 : Nat) : Int) ∨ (sc = -((4 * n - 8 : Nat) : Int) ∧ m % 2 ^ 127 = 0 ∧ rest = false) then (1, 0)
  else cutM n sc m rest
theorem cutM_lt {n : Nat} (h : Wd n) (sc : Int) (m : Nat) (rest : Bool) : (cutM n sc m rest).1 < 2 ^ (n - 1) := by
  have h1 := st_X_lt sc m
  have h2 := h.le
  unfold cutM
  show stX sc m / 2 ^ (stL sc - (n - 1)) < _
  rw [Nat.div_lt_iff_lt_mul (Nat.pow_pos (by decide)), ← Nat.pow_add, show n - 1 + (stL sc - (n - 1)) = stL sc by unfold stL; omega]
  exact h1
theorem cutW_lt {n : Nat} (h : Wd n) (sc : Int) (m : Nat) (rest : Bool) : (cutW n sc m rest).1 < 2 ^ (n - 1) := by
  have h2 : 2 ^ 7 ≤ 2 ^ (n - 1) := Nat.pow_le_pow_right (by decide) (by have := h.ge; omega)
  unfold cutW
  split
  · show 2 ^ (n - 1) - 1 < 2 ^ (n - 1); omega
  · split
    · show 1 < 2 ^ (n - 1); omega
    · exact cutM_lt h sc m rest
/-- The size that a number is rounded to. -/
def rdP (n : Nat) (sc : Int) (m : Nat) (rest : Bool) : Nat := if (cutW n sc m rest).2 = 3 ∨ ((cutW n sc m rest).2 = 2 ∧ (cutW n sc m rest).1 % 2 = 1) then (cutW n sc m rest).1 + 1 else (cutW n sc m rest).1
theorem rdP_le {n : Nat} (h : Wd n) (sc : Int) (m : Nat) (rest : Bool) : rdP n sc m rest ≤ 2 ^ (n - 1) := by
  have := cutW_lt h sc m rest
  unfold rdP
  split <;> omega
/-- The pattern that a number is rounded to. -/
def rdN (n : Nat) (neg : Bool) (sc : Int) (m : Nat) (rest : Bool) : Nat := signN n neg (rdP n sc m rest)
theorem held_eq (a : Int) : round_held.f a = some (if a < -1099511627776 then -1099511627776 else if a > 1099511627776 then 1099511627776 else a) := by
  unfold round_held.f mx mn
  congr 1
  split <;> split <;> (try split) <;> omega
theorem sound_real {neg rest : Bool} {sc : Int} {h l : Nat} (h0 : -1099511627776 ≤ sc) (h1 : sc ≤ 1099511627776) (hh : 9223372036854775808 ≤ h) (hh2 : h < 18446744073709551616) : Ev (fun k => round_sound.f k 1 neg sc (h : Int) (l : Int) rest) true := by
  unfold round_sound.f
  refine Ev.congr (fun k => if_neg (by decide)) (Ev.step (f := fun _ => some true) (fun k => ?_) (Ev.now _))
  simp only [round_sound.j0]
  rw [if_neg (by decide), if_pos trivial, if_pos (by omega), held_eq, if_neg (by omega), if_neg (by omega)]
  simp
theorem sound_zero {kind : Int} (hk : kind = 0 ∨ kind = 2) : Ev (fun k => round_sound.f k kind false 0 0 0 false) true := by
  unfold round_sound.f
  rcases hk with rfl | rfl
  · refine Ev.congr (fun k => if_pos rfl) (Ev.step (f := fun _ => some true) (fun k => ?_) (Ev.now _))
    simp only [round_sound.j0]; rw [if_pos (by decide)]; rfl
  · refine Ev.congr (fun k => if_neg (by decide)) (Ev.step (f := fun _ => some true) (fun k => ?_) (Ev.now _))
    simp only [round_sound.j0]; rw [if_pos (by decide)]; rfl
theorem Cut_no {a kind sc h l : Int} {neg rest : Bool} (hn : NoW a) : Ev (fun k => round_Cut.f k a kind neg sc h l rest) (0, 0, some 2) := by
  unfold round_Cut.f
  rw [Of_no hn]
  exact Ev.now _
theorem Round_no {a kind sc h l : Int} {neg rest : Bool} (hn : NoW a) : Ev (fun k => round_Round.f k a kind neg sc h l rest) (0, some 2) := by
  unfold round_Round.f
  refine Ev.bind (Cut_no hn) ?_
  exact Ev.now _
theorem tw_low {h l : Nat} (hh : 9223372036854775808 ≤ h) (hh2 : h < 18446744073709551616) (hl : l < 18446744073709551616) : tw h l % 2 ^ 127 = 0 ↔ (h = 9223372036854775808 ∧ l = 0) := by
  unfold tw
  rw [show (2 : Nat) ^ 127 = 170141183460469231731687303715884105728 by decide]
  omega
theorem Cut_real {n : Nat} {neg rest : Bool} {sc : Int} {h l : Nat} (hn : Wd n) (h0 : -1099511627776 ≤ sc) (h1 : sc ≤ 1099511627776) (hh : 9223372036854775808 ≤ h) (hh2 : h < 18446744073709551616) (hl : l < 18446744073709551616) :
    Ev (fun k => round_Cut.f k (n : Int) 1 neg sc (h : Int) (l : Int) rest) (((cutW n sc (tw h l) rest).1 : Int), ((cutW n sc (tw h l) rest).2 : Int), none) := by
  have hn1 := hn.ge
  have hn2 := hn.le
  have et : wrap64 (-((4 * n - 8 : Nat) : Int)) = -((4 * n - 8 : Nat) : Int) := w64 (by omega) (by omega)
  have hp : 0 < 2 ^ (n - 1) := Nat.pow_pos (by decide)
  unfold round_Cut.f
  rw [Of_eq hn]
  simp only [Option.bind_some, Option.isNone_none, ↓reduceIte]
  refine Ev.bind (sound_real h0 h1 hh hh2) ?_
  simp only [↓reduceIte]
  refine Ev.congr (fun k => if_neg (by decide)) (Ev.congr (fun k => if_neg (by decide)) ?_)
  unfold cutW
  by_cases c1 : ((4 * n - 8 : Nat) : Int) ≤ sc
  · rw [if_pos c1]
    exact Ev.congr (fun k => if_pos c1) (Ev.now _)
  · rw [if_neg c1]
    refine Ev.congr (fun k => if_neg c1) ?_
    rw [et]
    by_cases c2 : sc < -((4 * n - 8 : Nat) : Int)
    · rw [if_pos (Or.inl c2)]
      exact Ev.congr (fun k => if_pos c2) (Ev.now _)
    · refine Ev.congr (fun k => if_neg c2) ?_
      have hj := Cut_j0 (kind := 1) (neg := neg) (rest := rest) (sc := sc) hn (by omega) (by omega) hh2 hl
      by_cases c3 : sc = -((4 * n - 8 : Nat) : Int)
      · refine Ev.congr (fun k => if_pos c3) ?_
        by_cases c4 : h = 9223372036854775808
        · refine Ev.congr (fun k => if_pos (by omega)) ?_
          by_cases c5 : l = 0
          · refine Ev.congr (fun k => if_pos (by omega)) ?_
            cases rest
            · rw [if_pos (Or.inr ⟨c3, (tw_low hh hh2 hl).mpr ⟨c4, c5⟩, rfl⟩)]
              exact Ev.congr (fun k => if_neg (by decide)) (Ev.now _)
            · rw [if_neg (by rintro (a | ⟨_, _, a⟩); exact c2 a; cases a)]
              exact Ev.congr (fun k => if_pos rfl) hj
          · rw [if_neg (by rintro (a | ⟨_, a, _⟩); exact c2 a; exact c5 ((tw_low hh hh2 hl).mp a).2)]
            exact Ev.congr (fun k => if_neg (by omega)) hj
        · rw [if_neg (by rintro (a | ⟨_, a, _⟩); exact c2 a; exact c4 ((tw_low hh hh2 hl).mp a).1)]
          exact Ev.congr (fun k => if_neg (by omega)) hj
      · rw [if_neg (by rintro (a | ⟨a, _, _⟩); exact c2 a; exact c3 a)]
        exact Ev.congr (fun k => if_neg c3) hj
theorem Cut_zero {n : Nat} (hn : Wd n) : Ev (fun k => round_Cut.f k (n : Int) 0 false 0 0 0 false) (0, 0, none) := by
  unfold round_Cut.f
  rw [Of_eq hn]
  simp only [Option.bind_some, Option.isNone_none, ↓reduceIte]
  refine Ev.bind (sound_zero (Or.inl rfl)) ?_
  exact Ev.now _
theorem Cut_nar {n : Nat} (hn : Wd n) : Ev (fun k => round_Cut.f k (n : Int) 2 false 0 0 0 false) (((2 ^ (n - 1) : Nat) : Int), 0, none) := by
  unfold round_Cut.f
  rw [Of_eq hn]
  simp only [Option.bind_some, Option.isNone_none, ↓reduceIte]
  refine Ev.bind (sound_zero (Or.inr rfl)) ?_
  exact Ev.now _
theorem Round_zero {n : Nat} (hn : Wd n) : Ev (fun k => round_Round.f k (n : Int) 0 false 0 0 0 false) (0, none) := by
  unfold round_Round.f
  refine Ev.bind (Cut_zero hn) ?_
  simp only [Option.isNone_none, ↓reduceIte]
  have hf := Fold_eq (p := 0) hn (by decide)
  rw [Nat.zero_mod] at hf
  have hf2 : shape_Fold.f (n : Int) 0 = some (0, none) := hf
  refine Ev.congr (fun k => if_neg (by decide)) (Ev.congr (fun k => if_neg (by decide)) (Ev.congr (fun k => if_neg (by decide)) ?_))
  rw [hf2]
  exact Ev.now _
theorem Round_nar {n : Nat} (hn : Wd n) : Ev (fun k => round_Round.f k (n : Int) 2 false 0 0 0 false) (((2 ^ (n - 1) : Nat) : Int), none) := by
  unfold round_Round.f
  refine Ev.bind (Cut_nar hn) ?_
  simp only [Option.isNone_none, ↓reduceIte]
  refine Ev.congr (fun k => if_neg (by decide)) (Ev.congr (fun k => if_neg (by decide)) (Ev.congr (fun k => if_neg (by decide)) ?_))
  rw [Fold_eq hn (half_lt hn), Nat.mod_eq_of_lt (Nat.pow_lt_pow_right (by decide) (by have := hn.ge; omega))]
  exact Ev.now _
/-- The pattern of a size: the end of the program's Round. -/
theorem sign_end {n p : Nat} (neg : Bool) (hn : Wd n) (hp : p ≤ 2 ^ (n - 1)) : (if neg = true then (shape_Fold.f (n : Int) (IntKind.u64.wrap (-(p : Int)))).bind fun bt => some (bt.1, bt.2) else (shape_Fold.f (n : Int) (p : Int)).bind fun bt => some (bt.1, bt.2)) = some ((signN n neg p : Int), none) := by
  have hw : p < 18446744073709551616 := Nat.lt_of_le_of_lt hp (half_lt hn)
  have hlt : p < 2 ^ n := Nat.lt_of_le_of_lt hp (Nat.pow_lt_pow_right (by decide) (by have := hn.ge; omega))
  unfold signN
  cases neg
  · rw [if_neg (by decide), if_neg (by decide), Fold_eq hn hw, Nat.mod_eq_of_lt hlt]; rfl
  · rw [if_pos rfl, if_pos rfl, neg_word hw, Fold_eq hn (ngN_lt p)]; rfl
theorem Round_real {n : Nat} {neg rest : Bool} {sc : Int} {h l : Nat} (hn : Wd n) (h0 : -1099511627776 ≤ sc) (h1 : sc ≤ 1099511627776) (hh : 9223372036854775808 ≤ h) (hh2 : h < 18446744073709551616) (hl : l < 18446744073709551616) :
    Ev (fun k => round_Round.f k (n : Int) 1 neg sc (h : Int) (l : Int) rest) (((rdN n neg sc (tw h l) rest : Nat) : Int), none) := by
  have hlt := cutW_lt hn sc (tw h l) rest
  have hle := rdP_le hn sc (tw h l) rest
  have hw := half_lt hn
  unfold round_Round.f
  refine Ev.bind (Cut_real hn h0 h1 hh hh2 hl) ?_
  simp only [Option.isNone_none, ↓reduceIte]
  have e1 : Go.bits .and .u64 ((cutW n sc (tw h l) rest).1 : Int) 1 = (((cutW n sc (tw h l) rest).1 % 2 : Nat) : Int) := and_one (by omega)
  have e2 : IntKind.u64.wrap (((cutW n sc (tw h l) rest).1 : Int) + 1) = (((cutW n sc (tw h l) rest).1 + 1 : Nat) : Int) := by rw [u64s (by omega) (by omega)]; rfl
  rw [e1, e2]
  unfold rdN
  unfold rdP at hle ⊢
  generalize cutW n sc (tw h l) rest = c at *
  by_cases g3 : c.2 = 3
  · rw [if_pos (Or.inl g3)] at hle ⊢
    refine Ev.congr (fun k => if_neg (by omega)) (Ev.congr (fun k => if_pos (by omega)) ?_)
    rw [sign_end neg hn hle]; exact Ev.now _
  · by_cases g2 : c.2 = 2
    · by_cases gb : c.1 % 2 = 1
      · rw [if_pos (Or.inr ⟨g2, gb⟩)] at hle ⊢
        refine Ev.congr (fun k => if_pos (by omega)) (Ev.congr (fun k => if_neg (by omega)) ?_)
        rw [sign_end neg hn hle]; exact Ev.now _
      · have ng : ¬ (c.2 = 3 ∨ (c.2 = 2 ∧ c.1 % 2 = 1)) := by rintro (a | ⟨_, a⟩); exact g3 a; exact gb a
        rw [if_neg ng] at hle ⊢
        refine Ev.congr (fun k => if_pos (by omega)) (Ev.congr (fun k => if_pos (by omega)) ?_)
        rw [sign_end neg hn hle]; exact Ev.now _
    · have ng : ¬ (c.2 = 3 ∨ (c.2 = 2 ∧ c.1 % 2 = 1)) := by rintro (a | ⟨a, _⟩); exact g3 a; exact g2 a
      rw [if_neg ng] at hle ⊢
      refine Ev.congr (fun k => if_neg (by omega)) (Ev.congr (fun k => if_neg (by omega)) ?_)
      rw [sign_end neg hn hle]; exact Ev.now _
/-- The reference. -/
theorem Sound07_real {neg rest : Bool} {sc : Int} {h l : Nat} (h0 : -1099511627776 ≤ sc) (h1 : sc ≤ 1099511627776) (hh : 9223372036854775808 ≤ h) : vernierref07_Sound.f 1 neg sc (h : Int) (l : Int) rest = some true := by
  unfold vernierref07_Sound.f
  rw [if_neg (by decide), if_neg (by decide), if_pos rfl, if_pos (by omega), if_pos (by omega), decide_eq_true h1]
theorem Sound07_zero {kind : Int} (hk : kind = 0 ∨ kind = 2) : vernierref07_Sound.f kind false 0 0 0 false = some true := by
  rcases hk with rfl | rfl <;> rfl
theorem Cut07_j1 {n : Nat} {neg rest : Bool} {sc kind : Int} {h l m : Nat} (hn : Wd n) (h0 : -1000 ≤ sc) (h1 : sc ≤ 1000) :
    Ev (fun k => vernierref07_Cut.j1 k (n : Int) (txt m 127) false kind neg sc (h : Int) (l : Int) rest) (((cutM n sc m rest).1 : Int), ((cutM n sc m rest).2 : Int), 0) := by
  have hn1 := hn.ge
  have hn2 := hn.le
  have hr : runS sc ≤ 1000 := by unfold runS; split <;> omega
  have hXl := st_X_lt sc m
  refine Ev.step (fun k => by simp only [vernierref07_Cut.j1]; rw [if_neg (by decide)]) (Ev.bind (Head_ev h0 h1) ?_)
  refine Ev.congr (fun k => if_pos (by rw [txt_size, txt_size]; omega)) ?_
  rw [pred_w hn]
  refine Ev.congr (fun k => if_pos (by omega)) ?_
  have ex : txt (hdN (decide (0 ≤ sc / 4)) (runS sc) * 4 + (sc % 4).toNat) (runS sc + 3) ++ txt m 127 = txt (stX sc m) (stL sc) := txt_append _ _ _ _
  rw [ex, txt_size, Int.toNat_natCast]
  refine Ev.congr (fun k => if_pos (by unfold stL; omega)) ?_
  have hlt := cutM_lt hn sc m rest
  have ha : (txt (stX sc m) (stL sc)).extract 0 (n - 1) = txt (stX sc m / 2 ^ (stL sc - (n - 1))) (n - 1) := by
    rw [txt_extract _ _ _ _ (by omega) (by unfold stL; omega), Nat.sub_zero]
  have hb : (txt (stX sc m) (stL sc)).extract (n - 1) (stL sc) = txt (stX sc m) (stL sc - (n - 1)) := by
    rw [txt_extract _ _ _ _ (by unfold stL; omega) (Nat.le_refl _), Nat.sub_self, Nat.pow_zero, Nat.div_one]
  rw [ha, hb]
  refine Ev.bind (Number_ev' (by omega)) (Ev.bind (left07_ev (by unfold stL; omega) (by unfold stL; omega) rest) ?_)
  unfold cutM at hlt ⊢
  rw [Nat.mod_eq_of_lt hlt, show stL sc - (n - 1) - 1 = stL sc - n by omega]
  exact Ev.now _
theorem Cut07_real {n : Nat} {neg rest : Bool} {sc : Int} {h l : Nat} (hn : Wd n) (h0 : -1099511627776 ≤ sc) (h1 : sc ≤ 1099511627776) (hh : 9223372036854775808 ≤ h) (hh2 : h < 18446744073709551616) (hl : l < 18446744073709551616) :
    Ev (fun k => vernierref07_Cut.f k (n : Int) 1 neg sc (h : Int) (l : Int) rest) (((cutW n sc (tw h l) rest).1 : Int), ((cutW n sc (tw h l) rest).2 : Int), 0) := by
  have hn1 := hn.ge
  have hn2 := hn.le
  have et : wrap64 (wrap64 (4 * (n : Int)) - 8) = ((4 * n - 8 : Nat) : Int) := by rw [w64 (x := 4 * (n : Int)) (by omega) (by omega), w64 (by omega) (by omega)]; omega
  have et2 : wrap64 (-((4 * n - 8 : Nat) : Int)) = -((4 * n - 8 : Nat) : Int) := w64 (by omega) (by omega)
  unfold vernierref07_Cut.f
  rw [Is_w hn, Sound07_real h0 h1 hh]
  simp only [Option.bind_some, ↓reduceIte]
  refine Ev.bind (Text_ev (n := 64) hh2 (by decide)) ?_
  refine Ev.congr (fun k => if_pos (by rw [txt_size]; omega)) (Ev.bind (Text_ev (n := 64) hl (by decide)) ?_)
  have ed : (txt h 64).extract 1 (txt h 64).size ++ txt l 64 = txt (tw h l) 127 := by
    rw [txt_size, txt_extract _ _ _ _ (by decide) (Nat.le_refl _), Nat.sub_self, Nat.pow_zero, Nat.div_one, txt_append, p64', Nat.mod_eq_of_lt hl]
    rfl
  have es : ((txt h 64).extract 1 (txt h 64).size).size = 63 := by rw [ByteArray.size_extract, txt_size]; rfl
  rw [es, txt_size, ed]
  refine Ev.congr (fun k => if_pos (by decide)) ?_
  -- the middle
  have hmid : ∀ just : Bool, just = (!rest && decide (tw h l % 2 ^ 127 = 0)) → Ev (fun k => vernierref07_Cut.j0 k (n : Int) (txt (tw h l) 127) just 1 neg sc (h : Int) (l : Int) rest) (((cutW n sc (tw h l) rest).1 : Int), ((cutW n sc (tw h l) rest).2 : Int), 0) := by
    intro just hj
    have hpw := Power_ev (n := n - 1) (by omega)
    have hp : 0 < 2 ^ (n - 1) := Nat.pow_pos (by decide)
    have hlt := half_lt hn
    unfold cutW
    by_cases c1 : ((4 * n - 8 : Nat) : Int) ≤ sc
    · rw [if_pos c1]
      refine Ev.step (fun k => by simp only [vernierref07_Cut.j0]; rw [et, if_pos c1, pred_w hn]) (Ev.bind hpw ?_)
      rw [u64s (by omega) (by omega), show ((2 ^ (n - 1) : Nat) : Int) - 1 = ((2 ^ (n - 1) - 1 : Nat) : Int) by omega]
      exact Ev.now _
    · rw [if_neg c1]
      by_cases c2 : sc < -((4 * n - 8 : Nat) : Int)
      · rw [if_pos (Or.inl c2)]
        refine Ev.step (fun k => by simp only [vernierref07_Cut.j0]; rw [et, if_neg c1, et2, if_pos c2]) (Ev.step (f := fun _ => some (1, 0, 0)) (fun k => ?_) (Ev.now _))
        simp only [vernierref07_Cut.j1]; rw [if_pos trivial]
      · by_cases c3 : sc = -((4 * n - 8 : Nat) : Int)
        · refine Ev.step (fun k => by simp only [vernierref07_Cut.j0]; rw [et, if_neg c1, et2, if_neg c2, if_pos c3]) ?_
          by_cases c4 : just = true
          · have : rest = false ∧ tw h l % 2 ^ 127 = 0 := by rw [hj] at c4; simpa using c4
            rw [if_pos (Or.inr ⟨c3, this.2, this.1⟩), c4]
            refine Ev.step (f := fun _ => some (1, 0, 0)) (fun k => ?_) (Ev.now _)
            simp only [vernierref07_Cut.j1]; rw [if_pos trivial]
          · have c5 : just = false := by simpa using c4
            rw [if_neg (by rintro (a | ⟨_, a, b⟩); exact c2 a; exact c4 (by rw [hj, a, b]; rfl)), c5]
            exact Cut07_j1 hn (by omega) (by omega)
        · refine Ev.step (fun k => by simp only [vernierref07_Cut.j0]; rw [et, if_neg c1, et2, if_neg c2, if_neg c3]) ?_
          rw [if_neg (by rintro (a | ⟨a, _, _⟩); exact c2 a; exact c3 a)]
          exact Cut07_j1 hn (by omega) (by omega)
  cases rest
  · refine Ev.congr (fun k => if_neg (by decide)) (Ev.bind (some_ev (x := tw h l) (n := 127) (by decide)) ?_)
    refine hmid _ ?_
    simp only [Bool.not_false, Bool.true_and]
    rw [Bool.eq_iff_iff]; simp
  · exact Ev.congr (fun k => if_pos rfl) (hmid false rfl)
theorem Cut07_zero {n : Nat} (hn : Wd n) : Ev (fun k => vernierref07_Cut.f k (n : Int) 0 false 0 0 0 false) (0, 0, 0) := by
  unfold vernierref07_Cut.f
  rw [Is_w hn, Sound07_zero (Or.inl rfl)]
  exact Ev.now _
theorem Rounds_end {n p kind : Nat} {neg b rest : Bool} {k0 sc h l : Int} (hn : Wd n) (hp : (if b = true then p + 1 else p) ≤ 2 ^ (n - 1)) : Ev (fun k => vernierref07_Rounds.j0 k (n : Int) (p : Int) b k0 neg sc h l rest) ((signN n neg (if b = true then p + 1 else p) : Int), 0) := by
  have hw : (if b = true then p + 1 else p) < 18446744073709551616 := Nat.lt_of_le_of_lt hp (half_lt hn)
  have hv := Neg06_ev hn hw
  unfold signN
  cases b
  · simp only [Bool.false_eq_true, ↓reduceIte] at hp hw hv ⊢
    cases neg
    · refine Ev.step (f := fun _ => some ((p : Int), 0)) (fun k => ?_) (Ev.now _)
      simp only [vernierref07_Rounds.j0]; rw [if_neg (by decide), if_neg (by decide)]
    · refine Ev.step (fun k => by simp only [vernierref07_Rounds.j0]; rw [if_neg (by decide), if_pos trivial]) (Ev.bind hv ?_)
      exact Ev.now _
  · simp only [↓reduceIte] at hp hw hv ⊢
    have e : IntKind.u64.wrap ((p : Int) + 1) = ((p + 1 : Nat) : Int) := by rw [u64s (by omega) (by omega)]; rfl
    cases neg
    · refine Ev.step (f := fun _ => some (((p + 1 : Nat) : Int), 0)) (fun k => ?_) (Ev.now _)
      simp only [vernierref07_Rounds.j0]; rw [if_pos trivial, if_neg (by decide), e]
    · refine Ev.step (fun k => by simp only [vernierref07_Rounds.j0]; rw [if_pos trivial, if_pos trivial, e]) (Ev.bind hv ?_)
      exact Ev.now _
theorem Round07_real {n : Nat} {neg rest : Bool} {sc : Int} {h l : Nat} (hn : Wd n) (h0 : -1099511627776 ≤ sc) (h1 : sc ≤ 1099511627776) (hh : 9223372036854775808 ≤ h) (hh2 : h < 18446744073709551616) (hl : l < 18446744073709551616) :
    Ev (fun k => vernierref07_Round.f k (n : Int) 1 neg sc (h : Int) (l : Int) rest) ((rdN n neg sc (tw h l) rest : Nat) : Int) := by
  have hle := rdP_le hn sc (tw h l) rest
  have hlt := cutW_lt hn sc (tw h l) rest
  unfold vernierref07_Round.f vernierref07_Rounds.f
  refine Ev.bind (a := (((rdN n neg sc (tw h l) rest : Nat) : Int), 0)) (Ev.bind (Cut07_real hn h0 h1 hh hh2 hl) ?_) (Ev.now _)
  simp only [↓reduceIte]
  unfold rdN
  unfold rdP at hle ⊢
  generalize cutW n sc (tw h l) rest = c at *
  by_cases g3 : c.2 = 3
  · rw [if_pos (Or.inl g3)] at hle ⊢
    refine Ev.congr (fun k => if_pos (by omega)) ?_
    exact Rounds_end (kind := 1) (b := true) hn hle
  · refine Ev.congr (fun k => if_neg (by omega)) ?_
    by_cases g2 : c.2 = 2
    · refine Ev.congr (fun k => if_pos (by omega)) ?_
      have e : (Int.tmod (c.1 : Int) 2 == 1) = decide (c.1 % 2 = 1) := by rw [tmod_nn (by omega), Bool.eq_iff_iff, beq_iff_eq, decide_eq_true_eq]; omega
      rw [e]
      by_cases gb : c.1 % 2 = 1
      · rw [if_pos (Or.inr ⟨g2, gb⟩)] at hle ⊢
        rw [decide_eq_true gb]
        exact Rounds_end (kind := 1) (b := true) hn hle
      · have ng : ¬ (c.2 = 3 ∨ (c.2 = 2 ∧ c.1 % 2 = 1)) := by rintro (a | ⟨_, a⟩); exact g3 a; exact gb a
        rw [if_neg ng] at hle ⊢
        rw [decide_eq_false gb]
        exact Rounds_end (kind := 1) (b := false) hn hle
    · have ng : ¬ (c.2 = 3 ∨ (c.2 = 2 ∧ c.1 % 2 = 1)) := by rintro (a | ⟨a, _⟩); exact g3 a; exact g2 a
      rw [if_neg ng] at hle ⊢
      refine Ev.congr (fun k => if_neg (by omega)) ?_
      exact Rounds_end (kind := 1) (b := false) hn hle
theorem Round07_zero {n : Nat} (hn : Wd n) : Ev (fun k => vernierref07_Round.f k (n : Int) 0 false 0 0 0 false) 0 := by
  unfold vernierref07_Round.f vernierref07_Rounds.f
  refine Ev.bind (a := (0, 0)) (Ev.bind (Cut07_zero hn) ?_) (Ev.now _)
  simp only [↓reduceIte]
  refine Ev.congr (fun k => if_neg (by decide)) (Ev.congr (fun k => if_neg (by decide)) ?_)
  exact Rounds_end (p := 0) (kind := 1) (b := false) (neg := false) hn (Nat.zero_le _)
end Go.Proofs.Ytpdpggndhmnggaa.M
