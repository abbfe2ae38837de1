/- What the program's third layer and its reference compute: division. -/
import Derived.Test.YtcnpnnodgfpheaaF3
import Derived.Test.YtcnpnnodgfpheaaF8
import Derived.Test.YtcnpnnodgfpheaaF9
import Derived.Test.YtcnpnnodgfpheaaDiv64
import Derived.Test.YtcnpnnodgfpheaaRRoot
namespace Go.Proofs.Ytcnpnnodgfpheaa.M
open Go.RowKit Go.Proofs.YtcnpnnodgfpheaaW.PrintWords Go.Proofs.YtcnpnnodgfpheaaW.PrintLast Go.Proofs.YtcnpnnodgfpheaaW.PrintMore Go.Proofs.Ytcnpnnodgfpheaa.F
set_option linter.unusedVariables false
set_option linter.unusedSimpArgs false

theorem code0p : vernierlaw00_Code.f none = some 0 := rfl
theorem code4 : vernierlaw00_Code.f (some 4) = some 4 := rfl
theorem code5 : vernierlaw00_Code.f (some 5) = some 5 := rfl
theorem len128 {x : Nat} (h : x < 340282366920938463463374607431768211456) : (digs x).length < 1000000 := len_le (n := 6) (by omega) _ (by decide)
theorem len152 {y : Nat} (h : y < 340282366920938463463374607431768211456) (m : Nat) (hm : m ≤ 16777216) : (digs (y * m)).length < 1000000000 := by
  have h1 : y * m ≤ 340282366920938463463374607431768211456 * 16777216 := Nat.mul_le_mul (Nat.le_of_lt h) hm
  exact len_le (n := 7) (Nat.lt_of_le_of_lt h1 (by decide)) _ (by decide)
theorem RWide_no {ah al : Nat} (h0 : ah < 18446744073709551616) (h1 : al < 18446744073709551616) : Ev (fun k => vernierref03_Wide.f k (ah : Int) (al : Int) 0 0) (0, 0, 0, 0, 4) := by
  unfold vernierref03_Wide.f
  refine Ev.bind (Of02_ev (h := 0) (l := 0) (by decide) (by decide)) (Ev.congr (fun k => if_pos rfl) (Ev.now _))
theorem RWide_ev {ah al bh bl : Nat} (h0 : ah < 18446744073709551616) (h1 : al < 18446744073709551616) (h2 : bh < 18446744073709551616) (h3 : bl < 18446744073709551616) (hp : 0 < tw bh bl) :
    Ev (fun k => vernierref03_Wide.f k (ah : Int) (al : Int) (bh : Int) (bl : Int)) (hi (tw ah al / tw bh bl), lo (tw ah al / tw bh bl), hi (tw ah al % tw bh bl), lo (tw ah al % tw bh bl), 0) := by
  have ha := tw_lt h0 h1
  have hb := tw_lt h2 h3
  have hl : (digs (tw bh bl)).length ≠ 0 := fun h => Nat.lt_irrefl 0 (h ▸ digs_length_pos.mpr hp)
  have hq := Nat.lt_of_le_of_lt (Nat.div_le_self (tw ah al) (tw bh bl)) ha
  have hr := Nat.lt_of_le_of_lt (Nat.mod_le (tw ah al) (tw bh bl)) ha
  unfold vernierref03_Wide.f
  refine Ev.bind (Of02_ev h2 h3) (Ev.congr (fun k => if_neg (fun h => hl (Int.ofNat_eq_zero.mp h))) (Ev.bind (Of02_ev h0 h1) (Ev.bind (DivMod_ev hp (len152 hb) (len128 ha)) (Ev.bind (Told_ev (Nat.lt_trans (len128 hq) (by decide))) (Ev.bind (Told_ev (Nat.lt_trans (len128 hr) (by decide))) (Ev.now _))))))
theorem tw0 (y : Nat) : tw 0 y = y := by unfold tw; omega
/-- The quotient's words, one after the other. -/
theorem long_parts {h l y : Nat} (hh : h < 18446744073709551616) (hl : l < 18446744073709551616) (hp : 0 < y) (hy : y < 18446744073709551616) :
    hi (tw h l / y) = ((h / y : Nat) : Int) ∧ lo (tw h l / y) = ((tw (h % y) l / y : Nat) : Int) ∧ lo (tw h l % y) = ((tw (h % y) l % y : Nat) : Int) := by
  have hm := Nat.mod_lt h hp
  have e : tw h l = tw (h % y) l + y * (h / y * 18446744073709551616) := by
    have e1 := Nat.div_add_mod h y
    have e0 : ∀ P m : Nat, P + m = h → tw h l = tw m l + P * 18446744073709551616 := by intro P m e; unfold tw; omega
    rw [← Nat.mul_assoc]; exact e0 _ _ e1
  have hq : tw h l / y = tw (h % y) l / y + h / y * 18446744073709551616 := by
    conv => lhs; rw [e, Nat.add_mul_div_left _ _ hp]
  have hr : tw h l % y = tw (h % y) l % y := by
    conv => lhs; rw [e, Nat.add_mul_mod_self_left]
  have b1 : tw (h % y) l / y < 18446744073709551616 := (Nat.div_lt_iff_lt_mul hp).mpr (by rw [Nat.mul_comm]; exact tw_bound hm hl)
  have b2 : tw (h % y) l % y < y := Nat.mod_lt _ hp
  have b3 : h / y < 18446744073709551616 := Nat.lt_of_le_of_lt (Nat.div_le_self _ _) hh
  rw [hq, hr]
  clear hq hr e
  generalize tw (h % y) l / y = A at b1 ⊢
  generalize tw (h % y) l % y = C at b2 ⊢
  generalize h / y = D at b3 ⊢
  unfold hi lo
  refine ⟨congrArg _ (by omega), congrArg _ (by omega), congrArg _ (by omega)⟩
theorem Long_no {ah al : Nat} : Ev (fun k => part_Long.f k (ah : Int) (al : Int) 0) (0, 0, 0, some 4) := by
  unfold part_Long.f; exact Ev.congr (fun k => if_pos rfl) (Ev.now _)
theorem Long_ev {ah al y : Nat} (h0 : ah < 18446744073709551616) (h1 : al < 18446744073709551616) (h2 : y < 18446744073709551616) (hp : 0 < y) :
    Ev (fun k => part_Long.f k (ah : Int) (al : Int) (y : Int)) (hi (tw ah al / y), lo (tw ah al / y), lo (tw ah al % y), none) := by
  obtain ⟨e1, e2, e3⟩ := long_parts h0 h1 hp h2
  rw [e1, e2, e3]
  unfold part_Long.f
  rw [tmod_nn (Int.natCast_nonneg _), tdn, wn (Nat.lt_of_le_of_lt (Nat.div_le_self _ _) h0)]
  refine Ev.congr (fun k => if_neg (by omega)) (Ev.bind (Div64_ev (h := ah % y) (Nat.mod_lt _ hp) h1 h2) (Ev.now _))
theorem Div_no {ah al : Nat} : Ev (fun k => part_Div.f k (ah : Int) (al : Int) 0) (0, 0, some 4) := by
  unfold part_Div.f; exact Ev.congr (fun k => if_pos rfl) (Ev.now _)
theorem Div_big {ah al y : Nat} (hp : 0 < y) (hh : y ≤ ah) : Ev (fun k => part_Div.f k (ah : Int) (al : Int) (y : Int)) (0, 0, some 5) := by
  unfold part_Div.f; exact Ev.congr (fun k => if_neg (by omega)) (Ev.congr (fun k => if_pos (by omega)) (Ev.now _))
theorem Div_ev {ah al y : Nat} (h1 : al < 18446744073709551616) (h2 : y < 18446744073709551616) (hh : ah < y) :
    Ev (fun k => part_Div.f k (ah : Int) (al : Int) (y : Int)) (((tw ah al / y : Nat) : Int), ((tw ah al % y : Nat) : Int), none) := by
  unfold part_Div.f; exact Ev.congr (fun k => if_neg (by omega)) (Ev.congr (fun k => if_neg (by omega)) (Ev.bind (Div64_ev hh h1 h2) (Ev.now _)))
end Go.Proofs.Ytcnpnnodgfpheaa.M
