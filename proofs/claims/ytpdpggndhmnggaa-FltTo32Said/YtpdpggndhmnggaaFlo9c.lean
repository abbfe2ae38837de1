/- The reference's Form.To. -/
import Derived.Test.YtpdpggndhmnggaaF15c
import Derived.Test.YtpdpggndhmnggaaF17c
import Derived.Test.YtpdpggndhmnggaaF20c
import Derived.Test.YtpdpggndhmnggaaFlo8c
import Derived.Test.YtpdpggndhmnggaaCod8c
import Derived.Test.YtpdpggndhmnggaaR02c
import Derived.Test.YtpdpggndhmnggaaR04bc
namespace Go.Proofs.Ytpdpggndhmnggaa.M
open Go.RowKit Go.Proofs.YtpdpggndhmnggaaW.PrintWords Go.Proofs.YtpdpggndhmnggaaW.PrintLast Go.Proofs.YtpdpggndhmnggaaW.PrintMore Go.Proofs.Ytpdpggndhmnggaa.F
set_option linter.unusedVariables false
set_option linter.unusedSimpArgs false
/-- The word without sign: what is cut, counted on into the exponent, and no more than infinity. -/
def refT (F E : Nat) (L last : Int) (w : Nat) : Nat := min (if 2 ^ F ≤ w then w + 2 ^ F * (last - L).toNat else w) (2 ^ F * (E - 1))
theorem To_j3 {F E w s : Nat} {last L : Int} (hexp : vernierref17_Form_exps.f (F : Int) L = some (E : Int)) (hE : 1 ≤ E) (hw : w ≤ 9223372036854775808) (hP : 2 ^ F * (last - L).toNat < 9223372036854775808) (h0 : L ≤ last) (h1 : -1000000 ≤ L) (h2 : last ≤ 1000000) (hm : 2 ^ F * (E - 1) < 9223372036854775808) (hs : s ≤ 9223372036854775808) (hEE : E ≤ 2048) :
    Ev (fun k => vernierref17_Form_To.j3 k ((2 ^ F : Nat) : Int) (s : Int) last (digs w) (F : Int) L) ((s + refT F E L last w : Nat) : Int) := by
  unfold refT
  generalize 2 ^ F = P at *
  have e1 : IntKind.u64.wrap (wrap64 (last - L)) = (((last - L).toNat : Nat) : Int) := by rw [w64 (by omega) (by omega), u64s (by omega) (by omega)]; omega
  have e2 : IntKind.u64.wrap ((P : Int) * IntKind.u64.wrap (wrap64 (last - L))) = ((P * (last - L).toNat : Nat) : Int) := by
    rw [e1, ← Int.natCast_mul]; exact u64s (by omega) (by omega)
  have e3 : IntKind.u64.wrap ((P : Int) * IntKind.u64.wrap ((E : Int) - 1)) = ((P * (E - 1) : Nat) : Int) := by
    rw [u64s (x := (E : Int) - 1) (by omega) (by omega), show (E : Int) - 1 = ((E - 1 : Nat) : Int) by omega, ← Int.natCast_mul]; exact u64s (by omega) (by omega)
  refine Ev.step (fun k => by simp only [vernierref17_Form_To.j3]; rfl) ?_
  refine Ev.bind (Word_ev w) ?_
  rw [Nat.mod_eq_of_lt (show w < 18446744073709551616 by omega)]
  generalize P * (last - L).toNat = A at *
  generalize P * (E - 1) = B at *
  by_cases c : P ≤ w
  · refine Ev.congr (fun k => if_pos (by omega)) (Ev.bindp hexp ?_)
    rw [e2, e3, if_pos c, u64s (x := (w : Int) + (A : Int)) (by omega) (by omega)]
    by_cases c2 : w + A > B
    · refine Ev.congr (fun k => if_pos (by omega)) ?_
      rw [u64s (by omega) (by omega), Nat.min_eq_right (by omega)]
      exact Ev.now _
    · refine Ev.congr (fun k => if_neg (by omega)) ?_
      rw [u64s (by omega) (by omega), Nat.min_eq_left (by omega)]
      exact Ev.now _
  · refine Ev.congr (fun k => if_neg (by omega)) (Ev.bindp hexp ?_)
    rw [e3, if_neg c]
    by_cases c2 : w > B
    · refine Ev.congr (fun k => if_pos (by omega)) ?_
      rw [u64s (by omega) (by omega), Nat.min_eq_right (by omega)]
      exact Ev.now _
    · refine Ev.congr (fun k => if_neg (by omega)) ?_
      rw [u64s (by omega) (by omega), Nat.min_eq_left (by omega)]
      exact Ev.now _
theorem cut_half {v u : Nat} (h : 1 ≤ u) : cutN v u = if cmp (v % 2 ^ u + v % 2 ^ u) (2 ^ u) > 0 ∨ (cmp (v % 2 ^ u + v % 2 ^ u) (2 ^ u) = 0 ∧ v / 2 ^ u % 2 = 1) then v / 2 ^ u + 1 else v / 2 ^ u := by
  have e : 2 ^ u = 2 * 2 ^ (u - 1) := by rw [← Nat.pow_succ', show (u - 1).succ = u by omega]
  unfold cutN cmp
  generalize v / 2 ^ u = q
  generalize hr : v % 2 ^ u = r
  rw [e]
  generalize 2 ^ (u - 1) = H
  have i1 : ((if r + r < 2 * H then (-1 : Int) else if r + r = 2 * H then 0 else 1) > 0) ↔ H < r := by split <;> (try split) <;> constructor <;> intro hh <;> omega
  have i2 : ((if r + r < 2 * H then (-1 : Int) else if r + r = 2 * H then 0 else 1) = 0) ↔ r = H := by split <;> (try split) <;> constructor <;> intro hh <;> omega
  simp only [i1, i2]
  split <;> rfl
theorem To_j1 {F E s fr u : Nat} {sc last L kd : Int} {ng : Bool} (hexp : vernierref17_Form_exps.f (F : Int) L = some (E : Int)) (hE : 1 ≤ E) (hP : 2 ^ F * (last - L).toNat < 9223372036854775808) (h0 : L ≤ last) (h1 : -1000000 ≤ L) (h2 : last ≤ 1000000) (hm : 2 ^ F * (E - 1) < 9223372036854775808) (hs : s ≤ 9223372036854775808) (hEE : E ≤ 2048)
    (hfr : fr < 18446744073709551616) (hu : 1 ≤ u) (hu2 : u ≤ 10000) (hsu : (u : Int) = last - sc + 63) (hs0 : -10000 ≤ sc) (hs1 : sc ≤ 10000) :
    Ev (fun k => vernierref17_Form_To.j1 k ((2 ^ F : Nat) : Int) (s : Int) last (F : Int) L kd ng sc (fr : Int)) ((s + refT F E L last (cutN fr u) : Nat) : Int) := by
  have eu : wrap64 (-(wrap64 (wrap64 (sc - 63) - last))) = (u : Int) := by
    rw [w64 (x := sc - 63) (by omega) (by omega), w64 (x := sc - 63 - last) (by omega) (by omega), w64 (by omega) (by omega)]; omega
  have hp : 0 < 2 ^ u := Nat.pow_pos (by decide)
  have hb2 : 2 ^ u ≤ 16777216 ^ u := Nat.pow_le_pow_left (by decide) u
  have q0 : fr / 2 ^ u * 2 ^ u ≤ fr := Nat.div_mul_le_self fr _
  have q1 : fr - fr / 2 ^ u * 2 ^ u = fr % 2 ^ u := by rw [Nat.mul_comm]; have := Nat.div_add_mod fr (2 ^ u); omega
  have q2 : fr % 2 ^ u ≤ fr := Nat.mod_le _ _
  have q3 : fr / 2 ^ u ≤ fr / 2 ^ 1 := Nat.div_le_div_left (Nat.pow_le_pow_right (by decide) hu) (by decide)
  have l1 : ∀ x : Nat, x < 79228162514264337593543950336 → (digs x).length < 100000000 := fun x hx => len_le (n := 4) (Nat.lt_of_lt_of_le hx (by decide)) _ (by decide)
  have l2 : (digs (2 ^ u)).length < 100000000 := len_le (n := u + 1) (Nat.lt_of_le_of_lt hb2 (Nat.pow_lt_pow_right (by decide) (by omega))) _ (by omega)
  have hcut := cut_half (v := fr) hu
  refine Ev.step (fun k => by simp only [vernierref17_Form_To.j1]; rfl) ?_
  refine Ev.bind (Of_ev hfr) ?_
  rw [eu]
  refine Ev.bind (Shr_ev (l1 fr (by omega)) (by omega)) ?_
  refine Ev.bind (Shl_ev (l1 _ (by omega)) (by omega)) ?_
  refine Ev.bind (Sub_ev q0 (Nat.lt_of_lt_of_le (l1 fr (by omega)) (by decide))) ?_
  rw [q1, one_digs]
  refine Ev.bind (Shl_ev (l1 1 (by omega)) (by omega)) ?_
  rw [Nat.one_mul]
  refine Ev.bind (Add_ev (Nat.lt_of_lt_of_le (l1 _ (by omega)) (by decide)) (Nat.lt_of_lt_of_le (l1 _ (by omega)) (by decide))) ?_
  refine Ev.bind (Cmp_ev (Nat.lt_of_lt_of_le (l1 _ (by omega)) (by decide)) (Nat.lt_of_lt_of_le l2 (by decide))) ?_
  refine Ev.bind (Low_ev (k := 1) (l1 _ (by omega)) (by decide)) ?_
  clear hb2 l2 q0 q1 eu hp
  generalize cmp (fr % 2 ^ u + fr % 2 ^ u) (2 ^ u) = C at *
  generalize fr / 2 ^ u = q at *
  rw [show (2 ^ 1 : Nat) = 2 from rfl]
  have qq : q < 9223372036854775808 := by omega
  have up : Ev (fun k => vernierref17_Form_To.j2 k ((2 ^ F : Nat) : Int) (s : Int) last (digs q) true (F : Int) L) ((s + refT F E L last (q + 1) : Nat) : Int) := by
    refine Ev.step (fun k => by simp only [vernierref17_Form_To.j2]; exact if_pos trivial) ?_
    refine Ev.bind (Add_ev (y := 1) (Nat.lt_of_lt_of_le (l1 q (by omega)) (by decide)) (Nat.lt_of_lt_of_le (l1 1 (by omega)) (by decide))) ?_
    exact To_j3 hexp hE (by omega) hP h0 h1 h2 hm hs hEE
  have dn : Ev (fun k => vernierref17_Form_To.j2 k ((2 ^ F : Nat) : Int) (s : Int) last (digs q) false (F : Int) L) ((s + refT F E L last q : Nat) : Int) := by
    refine Ev.step (fun k => by simp only [vernierref17_Form_To.j2]; exact if_neg (by decide)) ?_
    exact To_j3 hexp hE (by omega) hP h0 h1 h2 hm hs hEE
  by_cases c1 : C > 0
  · rw [hcut, if_pos (.inl c1)]
    exact Ev.congr (fun k => if_pos c1) up
  · refine Ev.congr (fun k => if_neg c1) ?_
    by_cases c2 : C = 0
    · refine Ev.congr (fun k => if_pos c2) ?_
      by_cases c3 : q % 2 = 1
      · rw [hcut, if_pos (.inr ⟨c2, c3⟩), decide_eq_true (by omega)]; exact up
      · rw [hcut, if_neg (fun h => by rcases h with h | h; exact c1 h; exact c3 h.2), decide_eq_false (by omega)]; exact dn
    · rw [hcut, if_neg (fun h => by rcases h with h | h; exact c1 h; exact c2 h.1)]
      exact Ev.congr (fun k => if_neg c2) dn
/-- Form.To, of any form. -/
def refF (F E : Nat) (L : Int) (n p : Nat) : Nat :=
  if kindN n p = 1 then (if topB p n = true then 2 ^ F * E else 0) + refT F E L (max (scI (abN n p) (n - 1) - F) L) (cutN (mtN (abN n p) (n - 1)) (max (scI (abN n p) (n - 1) - F) L - scI (abN n p) (n - 1) + 63).toNat) else 0
theorem FormTo_ev {F E n p : Nat} {L : Int} (hexp : vernierref17_Form_exps.f (F : Int) L = some (E : Int)) (hE : 1 ≤ E) (hF : F ≤ 62) (hEE : E ≤ 2048) (hPE : 2 ^ F * E ≤ 9223372036854775808) (h1 : -1100 ≤ L) (h2 : L ≤ 0) (hP : ∀ d : Nat, (d : Int) ≤ 1003 - F - L → 2 ^ F * d < 9223372036854775808) (h : Wd n) (hp : p < 18446744073709551616) :
    Ev (fun k => vernierref17_Form_To.f k (F : Int) L (n : Int) (p : Int)) ((refF F E L n p : Nat) : Int) := by
  have hd := Decode06_ev h hp
  have hPp : 0 < 2 ^ F := Nat.pow_pos (by decide)
  have hm : 2 ^ F * (E - 1) < 9223372036854775808 := by
    have : 2 ^ F * (E - 1) < 2 ^ F * E := (Nat.mul_lt_mul_left hPp).2 (by omega)
    omega
  unfold vernierref17_Form_To.f
  refine Ev.bind hd ?_
  by_cases hk : kindN n p = 1
  · rw [means_real hk]
    unfold refF
    rw [if_pos hk]
    obtain ⟨s0, s1⟩ := @sc_real n p h
    have f1 := mt_word (n := n) (p := p) h
    generalize scI (abN n p) (n - 1) = sc at *
    generalize mtN (abN n p) (n - 1) = fr at *
    generalize topB p n = ng
    refine Ev.congr (fun k => if_pos rfl) ?_
    refine Ev.bind (two17_ev hF) ?_
    have hPd : ∀ last : Int, last = max (sc - F) L → 2 ^ F * (last - L).toNat < 9223372036854775808 := fun last hl => by
      rcases Nat.eq_zero_or_pos (last - L).toNat with z | z
      · rw [z, Nat.mul_zero]; decide
      · exact hP _ (by omega)
    have main : ∀ s : Nat, s ≤ 9223372036854775808 → Ev (fun k => vernierref17_Form_To.j0 k ((2 ^ F : Nat) : Int) (s : Int) (F : Int) L 1 ng sc (fr : Int)) ((s + refT F E L (max (sc - F) L) (cutN fr (max (sc - F) L - sc + 63).toNat) : Nat) : Int) := by
      intro s hs
      refine Ev.step (fun k => by simp only [vernierref17_Form_To.j0]; rfl) ?_
      rw [w64 (x := sc - (F : Int)) (by omega) (by omega)]
      by_cases c : sc - (F : Int) < L
      · refine Ev.congr (fun k => if_pos c) ?_
        have e : max (sc - F) L = L := by omega
        have := hPd L (by omega)
        rw [e]
        exact To_j1 hexp hE this (by omega) (by omega) (by omega) hm hs hEE f1 (by omega) (by omega) (by omega) (by omega) (by omega)
      · refine Ev.congr (fun k => if_neg c) ?_
        have e : max (sc - F) L = sc - F := by omega
        have := hPd (sc - F) (by omega)
        rw [e]
        exact To_j1 hexp hE this (by omega) (by omega) (by omega) hm hs hEE f1 (by omega) (by omega) (by omega) (by omega) (by omega)
    cases ng
    · exact Ev.congr (fun k => if_neg (fun h => Bool.noConfusion h)) (main 0 (by decide))
    · refine Ev.congr (fun k => if_pos rfl) (Ev.bindp hexp ?_)
      have e : IntKind.u64.wrap (((2 ^ F : Nat) : Int) * (E : Int)) = ((2 ^ F * E : Nat) : Int) := by rw [← Int.natCast_mul]; exact u64s (by omega) (by omega)
      rw [e]
      exact main (2 ^ F * E) hPE
  · have e1 : (meansT n p ()).1 ≠ 1 := by unfold meansT; rw [if_neg hk]; exact hk
    have e2 : refF F E L n p = 0 := by unfold refF; rw [if_neg hk]
    rw [e2]
    exact Ev.congr (fun k => if_neg e1) (Ev.now _)
theorem exps23 : vernierref17_Form_exps.f 23 (-149) = some 256 := by unfold vernierref17_Form_exps.f; rw [if_neg (by decide)]
theorem Short_ev {n p : Nat} (h : Wd n) (hp : p < 18446744073709551616) : Ev (fun k => vernierref17_Form_To.f k 23 (-149) (n : Int) (p : Int)) ((refF 23 256 (-149) n p : Nat) : Int) :=
  FormTo_ev (F := 23) (E := 256) exps23 (by decide) (by decide) (by decide) (by decide) (by decide) (by decide) (fun d hd => by rw [show (2 ^ 23 : Nat) = 8388608 from rfl]; omega) h hp
end Go.Proofs.Ytpdpggndhmnggaa.M
