/- What the program's sixth layer computes of a .. -/
import Derived.Test.YtjlaijaadclghaaF6Q
import Derived.Test.YtjlaijaadclghaaF15Q
import Derived.Test.YtjlaijaadclghaaCodQ
namespace Go.Proofs.Ytjlaijaadclghaa.M
open RowKit YtjlaijaadclghaaW PrintWords PrintLast PrintMore F
set_option linter.all false
def ngN (p : Nat) : Nat := (18446744073709551616 - p) % 18446744073709551616
def abN (n p : Nat) : Nat := if topB p n = true then ngN p else p
theorem ngN_lt (p : Nat) : ngN p < 18446744073709551616 := Nat.mod_lt _ (by decide)
theorem neg_word {p : Nat} (hp : p < 18446744073709551616) : IntKind.u64.wrap (-(p : Int)) = (ngN p : Int) := by rw [u64w]; unfold ngN; omega
theorem ext_neg {n : Nat} (h : 0 < n) (p : Nat) : ext p n < 0 ↔ topB p n = true := by
 have hv := Nat.mod_lt p (Nat.pow_pos (n := n) (show 0 < 2 by decide))
 unfold ext topB
 rw [decide_eq_true_eq]
 split <;> omega
def splitT {ε : Type} (n p : Nat) (e : ε) : Bool × Bool × Int × Int × Int × Int × Int × Int × ε :=
 if kindN n p = 1 then (topB p n, topB (abN n p) (n - 1), (runN (abN n p) (n - 1) : Int), rgI (abN n p) (n - 1), (ebN (abN n p) (n - 1) : Int), (exN (abN n p) (n - 1) : Int), (fbN (abN n p) (n - 1) : Int), (frN (abN n p) (n - 1) : Int), e)
 else (false, false, 0, 0, 0, 0, 0, 0, e)
theorem eb_le (x w : Nat) : ebN x w ≤ 2 := by unfold ebN; omega
theorem Split_j1 {n x : Nat} (h : Wd n) (hx : x < 18446744073709551616) (s : Bool) : Ev (fun k => codec_Split.j1 k (n : Int) (x : Int) s false 0 0 0 0 0 0) (s, topB x (n - 1), (runN x (n - 1) : Int), rgI x (n - 1), (ebN x (n - 1) : Int), (exN x (n - 1) : Int), (fbN x (n - 1) : Int), (frN x (n - 1) : Int), none) := by
 have h1 := h.le
 have h2 := h.ge
 have hr := runN_le x (n - 1)
 have hr0 := runN_pos (x := x) (n := n - 1) (by omega)
 have hs := lf_split x (n - 1)
 have heb := eb_le x (n - 1)
 have hlf := lfN_lt (x := x) (w := n - 1) (by omega)
 have e4 := eN_lt4 x (n - 1)
 have ex4 := exN_lt x (n - 1)
 have eL : mx (wrap64 (wrap64 (((n - 1 : Nat) : Int) - (runN x (n - 1) : Int)) - 1)) 0 = (lfN x (n - 1) : Int) := by
  rw [w64 (x := ((n - 1 : Nat) : Int) - (runN x (n - 1) : Int)) (by omega) (by omega), w64 (by omega) (by omega)]
  unfold mx lfN; split <;> omega
 have eB : mn (lfN x (n - 1) : Int) 2 = (ebN x (n - 1) : Int) := by rw [show (2 : Int) = ((2 : Nat) : Int) from rfl, mn_int]; rfl
 have eF : wrap64 ((lfN x (n - 1) : Int) - (ebN x (n - 1) : Int)) = (fbN x (n - 1) : Int) := by rw [w64 (by omega) (by omega)]; omega
 have f1 := Field_eq (x := x) (a := fbN x (n - 1)) (n := ebN x (n - 1)) hx (by omega)
 have f2 := Field_eq (x := x) (a := 0) (n := fbN x (n - 1)) hx (by omega)
 rw [Nat.pow_zero, Nat.div_one] at f2
 have eE : wrap64 (wrap64 ((x / 2 ^ fbN x (n - 1) % 2 ^ ebN x (n - 1) : Nat) : Int) * 2 ^ (2 - (ebN x (n - 1) : Int)).toNat) = (exN x (n - 1) : Int) := by
  have e1 : x / 2 ^ fbN x (n - 1) % 2 ^ ebN x (n - 1) = eN x (n - 1) := rfl
  have e2 : (2 - (ebN x (n - 1) : Int)).toNat = 2 - ebN x (n - 1) := by omega
  have e3 : (eN x (n - 1) : Int) * 2 ^ (2 - ebN x (n - 1)) = (exN x (n - 1) : Int) := by unfold exN; rw [Int.natCast_mul, Int.natCast_pow]; rfl
  rw [e1, e2, w64 (x := (eN x (n - 1) : Int)) (by omega) (by omega), e3, w64 (by omega) (by omega)]
 refine Ev.step (fun k => by simp only [codec_Split.j1]; rfl) ?_
 rw [pred_w h]
 refine Ev.bind (Run_ev (x := x) (n := n - 1) hx (by omega) (by omega)) ?_
 simp only [eL, eB, eF]
 by_cases ht : topB x (n - 1) = true
 ·
  rw [if_pos ht]
  refine Ev.bindp f1 (Ev.bindp f2 ?_)
  simp only [eE, ht]
  rw [show wrap64 ((runN x (n - 1) : Int) - 1) = rgI x (n - 1) by unfold rgI; rw [if_pos ht, w64 (by omega) (by omega)]]
  exact Ev.now _
 ·
  rw [if_neg ht]
  refine Ev.bindp f1 (Ev.bindp f2 ?_)
  simp only [eE]
  rw [show topB x (n - 1) = false by simpa using ht, show wrap64 (-(runN x (n - 1) : Int)) = rgI x (n - 1) by unfold rgI; rw [if_neg ht, w64 (by omega) (by omega)]]
  exact Ev.now _
theorem Split_ev {n p : Nat} (h : Wd n) (hp : p < 18446744073709551616) : Ev (fun k => codec_Split.f k (n : Int) (p : Int)) (splitT n p none) := by
 unfold codec_Split.f
 rw [Kind_eq h hp]
 simp only [Option.bind_some, Option.isNone_none, ↓reduceIte]
 unfold splitT
 by_cases hk : kindN n p = 1
 ·
  rw [if_pos hk, hk]
  refine Ev.step (f := fun k => if ext p n < 0 then codec_Split.j1 k (n : Int) (ngN p : Int) true false 0 0 0 0 0 0 else codec_Split.j1 k (n : Int) (p : Int) false false 0 0 0 0 0 0) (fun k => ?_) ?_
  ·
   simp only [codec_Split.j0]
   rw [if_neg (by decide), Rank_eq h hp, Option.bind_some, neg_word hp]
  ·
   by_cases ht : topB p n = true
   ·
    have e : abN n p = ngN p := by unfold abN; rw [if_pos ht]
    rw [e, ht]
    exact Ev.congr (fun k => if_pos ((ext_neg h.pos p).mpr ht)) (Split_j1 h (ngN_lt p) true)
   ·
    have e : abN n p = p := by unfold abN; rw [if_neg ht]
    rw [e, show topB p n = false by simpa using ht]
    exact Ev.congr (fun k => if_neg (fun hh => ht ((ext_neg h.pos p).mp hh))) (Split_j1 h hp false)
 ·
  rw [if_neg hk]
  refine Ev.step (f := fun k => some (false, false, 0, 0, 0, 0, 0, 0, none)) (fun k => ?_) (Ev.now _)
  simp only [codec_Split.j0]
  rw [if_pos (by simpa using hk)]
def meansT {ε : Type} (n p : Nat) (e : ε) : Int × Bool × Int × Int × ε :=
 if kindN n p = 1 then (1, topB p n, scI (abN n p) (n - 1), (mtN (abN n p) (n - 1) : Int), e) else (kindN n p, false, 0, 0, e)
theorem sc_bound {x w : Nat} (h : w ≤ 63) : -1000 ≤ 4 * rgI x w ∧ 4 * rgI x w ≤ 1000 := by
 have := runN_le x w
 unfold rgI; split <;> omega
theorem Decode_ev {n p : Nat} (h : Wd n) (hp : p < 18446744073709551616) : Ev (fun k => codec_Decode.f k (n : Int) (p : Int)) (meansT n p none) := by
 have h1 := h.le
 have h2 := h.ge
 unfold codec_Decode.f
 rw [Kind_eq h hp]
 simp only [Option.bind_some, Option.isNone_none, ↓reduceIte]
 unfold meansT
 by_cases hk : kindN n p = 1
 ·
  rw [if_pos hk]
  refine Ev.congr (fun k => if_pos hk) ?_
  have hs := Split_ev h hp
  unfold splitT at hs
  rw [if_pos hk] at hs
  refine Ev.bind hs ?_
  have hb := sc_bound (x := abN n p) (w := n - 1) (by omega)
  have hx := exN_lt (abN n p) (n - 1)
  have hf := fb_le (x := abN n p) (w := n - 1) (by omega)
  have hm := mtN_lt (x := abN n p) (w := n - 1) (by omega) (by omega)
  have e1 : wrap64 (63 - (fbN (abN n p) (n - 1) : Int)) = ((63 - fbN (abN n p) (n - 1) : Nat) : Int) := by rw [w64 (by omega) (by omega)]; omega
  simp only [e1]
  have e2 : wrap64 (wrap64 (4 * rgI (abN n p) (n - 1)) + (exN (abN n p) (n - 1) : Int)) = scI (abN n p) (n - 1) := by
   rw [w64 (x := 4 * rgI (abN n p) (n - 1)) (by omega) (by omega), w64 (by omega) (by omega)]; rfl
  have e3 : Go.bits .or .u64 9223372036854775808 (shl .u64 (frN (abN n p) (n - 1) : Int) ((63 - fbN (abN n p) (n - 1) : Nat) : Int)) = (mtN (abN n p) (n - 1) : Int) := by
   rw [shl_nat, Nat.mod_eq_of_lt (by omega)]
   exact or_add (a := 9223372036854775808) (n := 63) (by decide) (by decide) (by decide) hm
  refine Ev.congr (f := fun _ => some (1, topB p n, scI (abN n p) (n - 1), (mtN (abN n p) (n - 1) : Int), none)) (fun k => ?_) (Ev.now _)
  rw [if_pos (by omega), e2, e3, hk]
 ·
  rw [if_neg hk]
  exact Ev.congr (fun k => if_neg hk) (Ev.now _)
theorem Decode_no {n p : Int} (h : NoW n) : Ev (fun k => codec_Decode.f k n p) (0, false, 0, 0, some 2) := by
 unfold codec_Decode.f
 rw [Kind_no h]
 simp only [Option.bind_some, Option.isNone_some, Bool.false_eq_true, ↓reduceIte, Option.getD_some]
 exact Ev.now _
theorem top_bt {n p : Nat} (h : 0 < n) : (bt (txt p n) 0 = 49) ↔ topB p n = true := by rw [← top_sign h, beq_iff_eq]
theorem tail_txt (x n : Nat) (h : 0 < n) : (txt x n).extract 1 (txt x n).size = txt x (n - 1) := by
 rw [txt_size, txt_extract _ _ _ _ h (Nat.le_refl _), Nat.sub_self, Nat.pow_zero, Nat.div_one]
theorem String_ev {n p : Nat} (h : Wd n) (hp : p < 18446744073709551616) : Ev (fun k => vernierref06_String.f k (n : Int) (p : Int)) (txt (abN n p) (n - 1)) := by
 have h1 := h.le
 have h2 := h.ge
 unfold vernierref06_String.f
 refine Ev.bind (Text_ev hp h1) ?_
 refine Ev.congr (fun k => if_pos (by rw [txt_size]; omega)) ?_
 unfold abN
 by_cases ht : topB p n = true
 ·
  refine Ev.congr (fun k => if_pos ((top_bt h.pos).mpr ht)) ?_
  rw [neg_word hp, if_pos ht]
  refine Ev.bind (Text_ev (ngN_lt p) h1) ?_
  refine Ev.congr (fun k => if_pos (by rw [txt_size]; omega)) ?_
  rw [tail_txt _ _ h.pos]
  exact Ev.now _
 ·
  refine Ev.congr (fun k => if_neg (fun hh => ht ((top_bt h.pos).mp hh))) ?_
  rw [if_neg ht]
  refine Ev.congr (fun k => if_pos (by rw [txt_size]; omega)) ?_
  rw [tail_txt _ _ h.pos]
  exact Ev.now _
theorem run06_l0 {x n : Nat} (h1 : 0 < n) (h2 : n ≤ 64) : ∀ d i : Nat, runN x n - i ≤ d → i ≤ runN x n → Ev (fun k => vernierref06_run.l0 k (txt x n) (i : Int)) (runN x n : Int) := by
 have hrn := runN_le x n
 intro d
 induction d with
 | zero =>
  intro i hd hi
  obtain rfl : i = runN x n := by omega
  refine Ev.step (f := fun k => some (runN x n : Int)) (fun k => ?_) (Ev.now _)
  simp only [vernierref06_run.l0, txt_size]
  by_cases hlt : runN x n < n
  ·
   have hs := run_stop h1 hlt
   rw [if_pos (by omega), if_pos (by omega), if_pos (by omega), txt_bt hlt, bt_first h1, if_neg (by omega)]
  ·
   rw [if_neg (by omega)]
 | succ d ih =>
  intro i hd hi
  by_cases hgo : i < runN x n
  ·
   have hs := run_same h1 hgo
   refine Ev.step (f := fun k => vernierref06_run.l0 k (txt x n) ((i + 1 : Nat) : Int)) (fun k => ?_) (ih (i + 1) (by omega) (by omega))
   simp only [vernierref06_run.l0, txt_size]
   rw [if_pos (by omega), if_pos (by omega), if_pos (by omega), txt_bt (show i < n by omega), bt_first h1, if_pos (by omega), w64 (by omega) (by omega)]
   rfl
  ·
   exact ih i (by omega) hi
theorem run06_ev {x n : Nat} (h1 : 0 < n) (h2 : n ≤ 64) : Ev (fun k => vernierref06_run.f k (txt x n)) (runN x n : Int) := run06_l0 h1 h2 _ 0 (Nat.le_refl _) (by omega)
theorem zeros2 : (⟨#[48, 48]⟩ : ByteArray) = txt 0 2 := by decide +kernel
theorem Split06_j2 {x w : Nat} (hw : 7 ≤ w) (h63 : w ≤ 63) (a b : Bool) (r g : Int) : Ev (fun k => vernierref06_Split.j2 k (txt x (lfN x w)) a b r g 0 0 0 0) (a, b, r, g, (ebN x w : Int), (exN x w : Int), (fbN x w : Int), (frN x w : Int), 0) := by
 have hs := lf_split x w
 have heb := eb_le x w
 have hlf := lfN_lt (x := x) (w := w) (by omega)
 have ex4 := exN_lt x w
 have pe : 0 < 2 ^ ebN x w := Nat.pow_pos (by decide)
 have e4 : x / 2 ^ fbN x w * 4 / 2 ^ ebN x w % 2 ^ 2 = exN x w := by
  unfold exN eN
  have e4 : 4 = 2 ^ ebN x w * 2 ^ (2 - ebN x w) := by rw [← Nat.pow_add, show ebN x w + (2 - ebN x w) = 2 by omega]
  rw [show (2 : Nat) ^ 2 = 4 from rfl]
  generalize x / 2 ^ fbN x w = y
  rw [show y * 4 / 2 ^ ebN x w = y * 2 ^ (2 - ebN x w) by rw [e4, Nat.mul_left_comm, Nat.mul_div_cancel_left _ pe]]
  conv => lhs; rw [e4]
  rw [Nat.mul_mod_mul_right]
 have m1 : Ev (fun k => vernierref01_Number.f k (((txt x (lfN x w)).extract 0 (ebN x w) ++ (⟨#[48, 48]⟩ : ByteArray)).extract 0 2)) (exN x w : Int) := by
  rw [txt_extract _ _ _ _ (by omega) (by omega), zeros2, txt_append, txt_extract _ _ _ _ (by omega) (by omega), Nat.zero_mod, Nat.add_zero, show lfN x w - ebN x w = fbN x w by omega, show ebN x w - 0 + 2 - 2 = ebN x w by omega, ← e4]
  exact Number_ev' (by decide)
 have m2 : Ev (fun k => vernierref01_Number.f k ((txt x (lfN x w)).extract (ebN x w) (lfN x w))) (frN x w : Int) := by
  rw [txt_extract _ _ _ _ (by omega) (by omega), Nat.sub_self, Nat.pow_zero, Nat.div_one, show lfN x w - ebN x w = fbN x w by omega]
  exact Number_ev' (by omega)
 have z1 : ((txt x (lfN x w)).extract 0 (ebN x w)).size = ebN x w := by rw [txt_extract _ _ _ _ (by omega) (by omega), txt_size]; omega
 have z2 : ((txt x (lfN x w)).extract 0 (ebN x w) ++ (⟨#[48, 48]⟩ : ByteArray)).size = ebN x w + 2 := by rw [ByteArray.size_append, z1]; rfl
 have e1 : wrap64 ((lfN x w : Int) - (ebN x w : Int)) = (fbN x w : Int) := by rw [w64 (by omega) (by omega)]; omega
 have e5 : wrap64 (exN x w : Int) = (exN x w : Int) := w64 (by omega) (by omega)
 by_cases h2 : 2 < lfN x w
 ·
  have hb : ebN x w = 2 := by unfold ebN; omega
  rw [hb] at m1 m2 z1 z2 e1 ⊢
  refine Ev.step (f := fun k => (vernierref01_Number.f k (((txt x (lfN x w)).extract 0 2 ++ (⟨#[48, 48]⟩ : ByteArray)).extract 0 2)).bind fun t => (vernierref01_Number.f k ((txt x (lfN x w)).extract 2 (lfN x w))).bind fun u => some (a, b, r, g, 2, wrap64 t, wrap64 ((lfN x w : Int) - 2), u, 0)) (fun k => ?_) (Ev.bind m1 (Ev.bind m2 ?_))
  ·
   simp only [vernierref06_Split.j2, txt_size]
   rw [if_pos (by omega), if_pos (by omega), if_pos (by omega), if_pos (by rw [z1]; omega), if_pos (by rw [z2]; omega)]
  ·
   rw [e5, show wrap64 ((lfN x w : Int) - 2) = (fbN x w : Int) from e1]
   exact Ev.now _
 ·
  have hb : ebN x w = lfN x w := by unfold ebN; omega
  rw [hb] at m1 m2 z1 z2 e1 ⊢
  refine Ev.step (f := fun k => (vernierref01_Number.f k (((txt x (lfN x w)).extract 0 (lfN x w) ++ (⟨#[48, 48]⟩ : ByteArray)).extract 0 2)).bind fun t => (vernierref01_Number.f k ((txt x (lfN x w)).extract (lfN x w) (lfN x w))).bind fun u => some (a, b, r, g, (lfN x w : Int), wrap64 t, wrap64 ((lfN x w : Int) - (lfN x w : Int)), u, 0)) (fun k => ?_) (Ev.bind m1 (Ev.bind m2 ?_))
  ·
   simp only [vernierref06_Split.j2, txt_size, Int.toNat_natCast]
   rw [if_neg (by omega), if_pos (by omega), if_pos (by omega), if_pos (by rw [z1]; omega), if_pos (by omega), if_pos (by rw [z2]; omega)]
  ·
   rw [e5, e1]
   exact Ev.now _
theorem Split06_j1 {x w : Nat} (hw : 7 ≤ w) (h63 : w ≤ 63) (a b : Bool) (g : Int) : Ev (fun k => vernierref06_Split.j1 k (txt x w) a b (runN x w : Int) g 0 0 0 0) (a, b, (runN x w : Int), g, (ebN x w : Int), (exN x w : Int), (fbN x w : Int), (frN x w : Int), 0) := by
 have hr := runN_le x w
 refine Ev.step (f := fun k => vernierref06_Split.j2 k (txt x (lfN x w)) a b (runN x w : Int) g 0 0 0 0) (fun k => ?_) (Split06_j2 hw h63 a b _ g)
 simp only [vernierref06_Split.j1, txt_size]
 have e1 : wrap64 ((runN x w : Int) + 1) = ((runN x w + 1 : Nat) : Int) := by rw [w64 (by omega) (by omega)]; rfl
 by_cases h : runN x w < w
 ·
  rw [if_pos (by omega), e1, if_pos (by omega), if_pos (by omega), Int.toNat_natCast, txt_extract _ _ _ _ (by omega) (by omega), Nat.sub_self, Nat.pow_zero, Nat.div_one, show w - (runN x w + 1) = lfN x w by unfold lfN; omega]
 ·
  rw [if_neg (by omega), show lfN x w = 0 by unfold lfN; omega]
  rfl
theorem Split06_ev {n p : Nat} (h : Wd n) (hp : p < 18446744073709551616) : Ev (fun k => vernierref06_Split.f k (n : Int) (p : Int)) (splitT n p 0) := by
 have h1 := h.le
 have h2 := h.ge
 unfold vernierref06_Split.f
 refine Ev.bind (Kind05_ev h hp) ?_
 simp only [↓reduceIte]
 unfold splitT
 by_cases hk : kindN n p = 1
 ·
  rw [if_pos hk, hk]
  have hr := runN_le (abN n p) (n - 1)
  refine Ev.step (fun k => by simp only [vernierref06_Split.j0]; rw [if_neg (by decide)]) ?_
  refine Ev.bind (String_ev h hp) (Ev.bind (Text_ev hp h1) ?_)
  refine Ev.congr (fun k => by rw [if_pos (by rw [txt_size]; omega), if_pos (by rw [txt_size]; omega)]) ?_
  refine Ev.bind (run06_ev (by omega) (by omega)) ?_
  rw [top_sign (x := p) (n := n) (by omega), top_sign (x := abN n p) (n := n - 1) (by omega)]
  by_cases ht : topB (abN n p) (n - 1) = true
  ·
   refine Ev.congr (fun k => if_pos ((top_bt (by omega)).mpr ht)) ?_
   rw [show wrap64 ((runN (abN n p) (n - 1) : Int) - 1) = rgI (abN n p) (n - 1) by unfold rgI; rw [if_pos ht, w64 (by omega) (by omega)]]
   exact Split06_j1 (by omega) (by omega) _ _ _
  ·
   refine Ev.congr (fun k => if_neg (fun hh => ht ((top_bt (by omega)).mp hh))) ?_
   rw [show wrap64 (-(runN (abN n p) (n - 1) : Int)) = rgI (abN n p) (n - 1) by unfold rgI; rw [if_neg ht, w64 (by omega) (by omega)]]
   exact Split06_j1 (by omega) (by omega) _ _ _
 ·
  rw [if_neg hk]
  refine Ev.step (f := fun k => some (false, false, 0, 0, 0, 0, 0, 0, 0)) (fun k => ?_) (Ev.now _)
  simp only [vernierref06_Split.j0]
  rw [if_pos (by simpa using hk)]
theorem one1 : (⟨#[49]⟩ : ByteArray) = txt 1 1 := by decide +kernel
theorem zero1 : (⟨#[48]⟩ : ByteArray) = txt 0 1 := by decide +kernel
theorem Decodes_l0 {m : Nat} {x0 : Int} {x1 : Bool} {x2 : Int} : ∀ d b : Nat, d + b = 64 → m * 2 ^ d < 18446744073709551616 → Ev (fun k => vernierref06_Decodes.l0 k (txt m b) x0 x1 x2 0) (x0, x1, x2, ((m * 2 ^ d : Nat) : Int), 0) := by
 intro d
 induction d generalizing m with
 | zero =>
  intro b hb hm
  rw [Nat.pow_zero, Nat.mul_one] at hm ⊢
  refine Ev.step (f := fun k => (vernierref01_Number.f k (txt m b)).bind fun t => some (x0, x1, x2, t, 0)) (fun k => ?_) ?_
  ·
   simp only [vernierref06_Decodes.l0, txt_size]; rw [if_neg (by omega)]
  ·
   have := Number_ev' (x := m) (n := b) (by omega)
   rw [show b = 64 by omega, p64', Nat.mod_eq_of_lt hm] at this
   rw [show b = 64 by omega]
   exact Ev.bind this (Ev.now _)
 | succ d ih =>
  intro b hb hm
  have e : m * 2 ^ (d + 1) = (m * 2 ^ 1 + 0 % 2 ^ 1) * 2 ^ d := by rw [Nat.pow_succ]; simp; rw [Nat.mul_assoc, Nat.mul_comm 2]
  rw [e] at hm ⊢
  refine Ev.step (f := fun k => vernierref06_Decodes.l0 k (txt (m * 2 ^ 1 + 0 % 2 ^ 1) (b + 1)) x0 x1 x2 0) (fun k => ?_) (ih (b + 1) (by omega) hm)
  simp only [vernierref06_Decodes.l0, txt_size]
  rw [if_pos (by omega), if_pos (by omega), zero1, txt_append]
theorem Decodes_ev {n p : Nat} (h : Wd n) (hp : p < 18446744073709551616) : Ev (fun k => vernierref06_Decodes.f k (n : Int) (p : Int)) (meansT n p 0) := by
 have h1 := h.le
 have h2 := h.ge
 unfold vernierref06_Decodes.f
 refine Ev.bind (Kind05_ev h hp) ?_
 simp only [↓reduceIte]
 unfold meansT
 by_cases hk : kindN n p = 1
 ·
  rw [if_pos hk, hk]
  have hs := Split06_ev h hp
  unfold splitT at hs
  rw [if_pos hk] at hs
  have hb := sc_bound (x := abN n p) (w := n - 1) (by omega)
  have hx := exN_lt (abN n p) (n - 1)
  have hf := fb_le (x := abN n p) (w := n - 1) (by omega)
  have hm := mtN_lt (x := abN n p) (w := n - 1) (by omega) (by omega)
  have hfl := frN_lt (abN n p) (n - 1)
  have hfp := pow_le64 (show fbN (abN n p) (n - 1) ≤ 64 by omega)
  have e2 : wrap64 (wrap64 (4 * rgI (abN n p) (n - 1)) + (exN (abN n p) (n - 1) : Int)) = scI (abN n p) (n - 1) := by
   rw [w64 (x := 4 * rgI (abN n p) (n - 1)) (by omega) (by omega), w64 (by omega) (by omega)]; rfl
  refine Ev.step (fun k => by simp only [vernierref06_Decodes.j0]; rw [if_neg (by decide)]) ?_
  refine Ev.bind hs (Ev.bind (Text_ev (by omega) (by omega)) ?_)
  refine Ev.congr (fun k => if_pos (by rw [txt_size]; omega)) ?_
  rw [e2, one1, txt_append, Nat.mod_eq_of_lt hfl, Nat.one_mul]
  have e3 : (2 ^ fbN (abN n p) (n - 1) + frN (abN n p) (n - 1)) * 2 ^ (63 - fbN (abN n p) (n - 1)) = mtN (abN n p) (n - 1) := by
   unfold mtN
   rw [Nat.add_mul, ← Nat.pow_add, show fbN (abN n p) (n - 1) + (63 - fbN (abN n p) (n - 1)) = 63 by omega]
  have := Decodes_l0 (m := 2 ^ fbN (abN n p) (n - 1) + frN (abN n p) (n - 1)) (x0 := 1) (x1 := topB p n) (x2 := scI (abN n p) (n - 1)) (63 - fbN (abN n p) (n - 1)) (1 + fbN (abN n p) (n - 1)) (by omega) (by rw [e3]; unfold mtN; omega)
  rw [e3] at this
  exact this
 ·
  rw [if_neg hk]
  refine Ev.step (f := fun k => some (kindN n p, false, 0, 0, 0)) (fun k => ?_) (Ev.now _)
  simp only [vernierref06_Decodes.j0]
  rw [if_pos (by simpa using hk)]
end Go.Proofs.Ytjlaijaadclghaa.M
