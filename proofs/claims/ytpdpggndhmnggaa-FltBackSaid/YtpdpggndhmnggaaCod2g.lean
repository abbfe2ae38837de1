/- What the program's sixth layer computes of a pattern, and its reference: its parts, what it means. -/
import Derived.Test.YtpdpggndhmnggaaF13g
import Derived.Test.YtpdpggndhmnggaaF20g
import Derived.Test.YtpdpggndhmnggaaShapeg
import Derived.Test.YtpdpggndhmnggaaCodg
namespace Go.Proofs.Ytpdpggndhmnggaa.M
open Go.RowKit Go.Proofs.YtpdpggndhmnggaaW.PrintWords Go.Proofs.YtpdpggndhmnggaaW.PrintLast Go.Proofs.YtpdpggndhmnggaaW.PrintMore Go.Proofs.Ytpdpggndhmnggaa.F
set_option linter.unusedVariables false
set_option linter.unusedSimpArgs false
/-- The word whose lowest bits are a pattern's size. -/
def ngN (p : Nat) : Nat := (18446744073709551616 - p) % 18446744073709551616
def abN (n p : Nat) : Nat := if topB p n = true then ngN p else p
theorem ngN_lt (p : Nat) : ngN p < 18446744073709551616 := Nat.mod_lt _ (by decide)
theorem neg_word {p : Nat} (hp : p < 18446744073709551616) : IntKind.u64.wrap (-(p : Int)) = (ngN p : Int) := by rw [u64w]; unfold ngN; omega
theorem ext_neg {n : Nat} (h : 0 < n) (p : Nat) : ext p n < 0 ↔ topB p n = true := by
  have hv := Nat.mod_lt p (Nat.pow_pos (n := n) (show 0 < 2 by decide))
  unfold ext topB
  rw [decide_eq_true_eq]
  split <;> omega
/-- A pattern's parts, and something behind them. -/
def splitT {ε : Type} (n p : Nat) (e : ε) : Bool × Bool × Int × Int × Int × Int × Int × Int × ε :=
  if kindN n p = 1 then (topB p n, topB (abN n p) (n - 1), (runN (abN n p) (n - 1) : Int), rgI (abN n p) (n - 1), (ebN (abN n p) (n - 1) : Int), (exN (abN n p) (n - 1) : Int), (fbN (abN n p) (n - 1) : Int), (frN (abN n p) (n - 1) : Int), e)
  else (false, false, 0, 0, 0, 0, 0, 0, e)
theorem eb_le (x w : Nat) : ebN x w ≤ 2 := by unfold ebN; omega
theorem Split_j1 {n x : Nat} (h : Wd n) (hx : x < 18446744073709551616) (s : Bool) : Ev (fun k => codec_Split.j1 k (n : Int) (x : Int) s false 0 0 0 0 0 0) (s, topB x (n - 1), (runN x (n - 1) : Int), rgI x (n - 1), (ebN x (n - 1) : Int), (exN x (n - 1) : Int), (fbN x (n - 1) : Int), (frN x (n - 1) : Int), none) := by
  have h1 := h.le
  have h2 := h.ge
  have hr := runN_le x (n - 1)
  have hr0 := runN_pos (x := x) (n := n - 1) (by omega)
  have hs := lf_split x (n - 1)
  have heb := eb_le x (n - 1)
  have hlf := lfN_lt (x := x) (w := n - 1) (by omega)
  have e4 := eN_lt4 x (n - 1)
  have ex4 := exN_lt x (n - 1)
  have eL : mx (wrap64 (wrap64 (((n - 1 : Nat) : Int) - (runN x (n - 1) : Int)) - 1)) 0 = (lfN x (n - 1) : Int) := by
    rw [w64 (x := ((n - 1 : Nat) : Int) - (runN x (n - 1) : Int)) (by omega) (by omega), w64 (by omega) (by omega)]
    unfold mx lfN; split <;> omega
  have eB : mn (lfN x (n - 1) : Int) 2 = (ebN x (n - 1) : Int) := by rw [show (2 : Int) = ((2 : Nat) : Int) from rfl, mn_int]; rfl
  have eF : wrap64 ((lfN x (n - 1) : Int) - (ebN x (n - 1) : Int)) = (fbN x (n - 1) : Int) := by rw [w64 (by omega) (by omega)]; omega
  have f1 := Field_eq (x := x) (a := fbN x (n - 1)) (n := ebN x (n - 1)) hx (by omega)
  have f2 := Field_eq (x := x) (a := 0) (n := fbN x (n - 1)) hx (by omega)
  rw [Nat.pow_zero, Nat.div_one] at f2
  have eE : wrap64 (wrap64 ((x / 2 ^ fbN x (n - 1) % 2 ^ ebN x (n - 1) : Nat) : Int) * 2 ^ (2 - (ebN x (n - 1) : Int)).toNat) = (exN x (n - 1) : Int) := by
    have e1 : x / 2 ^ fbN x (n - 1) % 2 ^ ebN x (n - 1) = eN x (n - 1) := rfl
    have e2 : (2 - (ebN x (n - 1) : Int)).toNat = 2 - ebN x (n - 1) := by omega
    have e3 : (eN x (n - 1) : Int) * 2 ^ (2 - ebN x (n - 1)) = (exN x (n - 1) : Int) := by unfold exN; rw [Int.natCast_mul, Int.natCast_pow]; rfl
    rw [e1, e2, w64 (x := (eN x (n - 1) : Int)) (by omega) (by omega), e3, w64 (by omega) (by omega)]
  refine Ev.step (fun k => by simp only [codec_Split.j1]; rfl) ?_
  rw [pred_w h]
  refine Ev.bind (Run_ev (x := x) (n := n - 1) hx (by omega) (by omega)) ?_
  simp only [eL, eB, eF]
  by_cases ht : topB x (n - 1) = true
  · rw [if_pos ht]
    refine Ev.bindp f1 (Ev.bindp f2 ?_)
    simp only [eE, ht]
    rw [show wrap64 ((runN x (n - 1) : Int) - 1) = rgI x (n - 1) by unfold rgI; rw [if_pos ht, w64 (by omega) (by omega)]]
    exact Ev.now _
  · rw [if_neg ht]
    refine Ev.bindp f1 (Ev.bindp f2 ?_)
    simp only [eE]
    rw [show topB x (n - 1) = false by simpa using ht, show wrap64 (-(runN x (n - 1) : Int)) = rgI x (n - 1) by unfold rgI; rw [if_neg ht, w64 (by omega) (by omega)]]
    exact Ev.now _
theorem Split_ev {n p : Nat} (h : Wd n) (hp : p < 18446744073709551616) : Ev (fun k => codec_Split.f k (n : Int) (p : Int)) (splitT n p none) := by
  unfold codec_Split.f
  rw [Kind_eq h hp]
  simp only [Option.bind_some, Option.isNone_none, ↓reduceIte]
  unfold splitT
  by_cases hk : kindN n p = 1
  · rw [if_pos hk, hk]
    refine Ev.step (f := fun k => if ext p n < 0 then codec_Split.j1 k (n : Int) (ngN p : Int) true false 0 0 0 0 0 0 else codec_Split.j1 k (n : Int) (p : Int) false false 0 0 0 0 0 0) (fun k => ?_) ?_
    · simp only [codec_Split.j0]
      rw [if_neg (by decide), Rank_eq h hp, Option.bind_some, neg_word hp]
    · by_cases ht : topB p n = true
      · have e : abN n p = ngN p := by unfold abN; rw [if_pos ht]
        rw [e, ht]
        exact Ev.congr (fun k => if_pos ((ext_neg h.pos p).mpr ht)) (Split_j1 h (ngN_lt p) true)
      · have e : abN n p = p := by unfold abN; rw [if_neg ht]
        rw [e, show topB p n = false by simpa using ht]
        exact Ev.congr (fun k => if_neg (fun hh => ht ((ext_neg h.pos p).mp hh))) (Split_j1 h hp false)
  · rw [if_neg hk]
    refine Ev.step (f := fun k => some (false, false, 0, 0, 0, 0, 0, 0, none)) (fun k => ?_) (Ev.now _)
    simp only [codec_Split.j0]
    rw [if_pos (by simpa using hk)]
/-- What a pattern means, and something behind it. -/
def meansT {ε : Type} (n p : Nat) (e : ε) : Int × Bool × Int × Int × ε :=
  if kindN n p = 1 then (1, topB p n, scI (abN n p) (n - 1), (mtN (abN n p) (n - 1) : Int), e) else (kindN n p, false, 0, 0, e)
theorem sc_bound {x w : Nat} (h : w ≤ 63) : -1000 ≤ 4 * rgI x w ∧ 4 * rgI x w ≤ 1000 := by
  have := runN_le x w
  unfold rgI; split <;> omega
theorem Decode_ev {n p : Nat} (h : Wd n) (hp : p < 18446744073709551616) : Ev (fun k => codec_Decode.f k (n : Int) (p : Int)) (meansT n p none) := by
  have h1 := h.le
  have h2 := h.ge
  unfold codec_Decode.f
  rw [Kind_eq h hp]
  simp only [Option.bind_some, Option.isNone_none, ↓reduceIte]
  unfold meansT
  by_cases hk : kindN n p = 1
  · rw [if_pos hk]
    refine Ev.congr (fun k => if_pos hk) ?_
    have hs := Split_ev h hp
    unfold splitT at hs
    rw [if_pos hk] at hs
    refine Ev.bind hs ?_
    have hb := sc_bound (x := abN n p) (w := n - 1) (by omega)
    have hx := exN_lt (abN n p) (n - 1)
    have hf := fb_le (x := abN n p) (w := n - 1) (by omega)
    have hm := mtN_lt (x := abN n p) (w := n - 1) (by omega) (by omega)
    have e1 : wrap64 (63 - (fbN (abN n p) (n - 1) : Int)) = ((63 - fbN (abN n p) (n - 1) : Nat) : Int) := by rw [w64 (by omega) (by omega)]; omega
    simp only [e1]
    have e2 : wrap64 (wrap64 (4 * rgI (abN n p) (n - 1)) + (exN (abN n p) (n - 1) : Int)) = scI (abN n p) (n - 1) := by
      rw [w64 (x := 4 * rgI (abN n p) (n - 1)) (by omega) (by omega), w64 (by omega) (by omega)]; rfl
    have e3 : Go.bits .or .u64 9223372036854775808 (shl .u64 (frN (abN n p) (n - 1) : Int) ((63 - fbN (abN n p) (n - 1) : Nat) : Int)) = (mtN (abN n p) (n - 1) : Int) := by
      rw [shl_nat, Nat.mod_eq_of_lt (by omega)]
      exact or_add (a := 9223372036854775808) (n := 63) (by decide) (by decide) (by decide) hm
    refine Ev.congr (f := fun _ => some (1, topB p n, scI (abN n p) (n - 1), (mtN (abN n p) (n - 1) : Int), none)) (fun k => ?_) (Ev.now _)
    rw [if_pos (by omega), e2, e3, hk]
  · rw [if_neg hk]
    exact Ev.congr (fun k => if_neg hk) (Ev.now _)
theorem Decode_no {n p : Int} (h : NoW n) : Ev (fun k => codec_Decode.f k n p) (0, false, 0, 0, some 2) := by
  unfold codec_Decode.f
  rw [Kind_no h]
  simp only [Option.bind_some, Option.isNone_some, Bool.false_eq_true, ↓reduceIte, Option.getD_some]
  exact Ev.now _
end Go.Proofs.Ytpdpggndhmnggaa.M
