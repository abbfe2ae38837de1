/- Sums, products and comparisons of numbers M * .. -/
import Derived.Test.YtjlaijaadclghaaF12Q
import Derived.Test.YtjlaijaadclghaaR02Q
namespace Go.Proofs.Ytjlaijaadclghaa.M
open RowKit YtjlaijaadclghaaW PrintWords PrintLast PrintMore F
set_option linter.all false
theorem Ev.use {α : Type} {g : Nat → Option α} {r s : α} (h : Ev g r) (e : r = s) : Ev g s := e ▸ h
theorem Ev.both {α β : Type} {g : Nat → Option α} {f : Nat → Option β} {a : α} {b : β} (h : Ev g a) (k : Ev f b) : ∃ K, ∀ n, K ≤ n → g n = some a ∧ f n = some b := by
 obtain ⟨A, hA⟩ := h
 obtain ⟨B, hB⟩ := k
 exact ⟨A + B, fun n hn => ⟨hA n (by omega), hB n (by omega)⟩⟩
def atU (U : Int) (v : Nat) (E : Int) : Nat := v * 2 ^ (E - U).toNat
def sgV (n : Bool) (x : Nat) : Int := if n = true then -(x : Int) else (x : Int)
theorem sgV_abs (n : Bool) (x : Nat) : (sgV n x).natAbs = x := by unfold sgV; split <;> omega
theorem atU_ge (U : Int) (v : Nat) (E : Int) : v ≤ atU U v E := Nat.le_mul_of_pos_right _ (Nat.pow_pos (by decide))
theorem atU_shift {U E F : Int} (v : Nat) (h0 : U ≤ F) (h1 : F ≤ E) : atU U (v * 2 ^ (E - F).toNat) F = atU U v E := by
 unfold atU
 rw [Nat.mul_assoc, ← Nat.pow_add, show (E - F).toNat + (F - U).toNat = (E - U).toNat by omega]
theorem atU_zero (U : Int) (v : Nat) (E : Int) : atU U v E = 0 ↔ v = 0 := by
 have : 0 < 2 ^ (E - U).toNat := Nat.pow_pos (by decide)
 unfold atU
 constructor
 ·
  intro h
  rcases Nat.mul_eq_zero.mp h with h | h
  ·
   exact h
  ·
   omega
 ·
  intro h; rw [h, Nat.zero_mul]
theorem sm_len {v : Nat} (h : v < 16777216 ^ 80) : (digs v).length < 1000 := len_le h 1000 (by decide)
theorem down_ev {U E0 E1 : Int} {v0 v1 : Nat} (n0 n1 : Bool) (hU : -4000 ≤ U) (h0 : U ≤ E0) (h0' : E0 ≤ 4000) (h1 : U ≤ E1) (h1' : E1 ≤ 4000) (b0 : atU U v0 E0 < 16777216 ^ 80) (b1 : atU U v1 E1 < 16777216 ^ 80) :
  ∃ (a b : Nat) (E : Int), U ≤ E ∧ E ≤ 4000 ∧ atU U a E = atU U v0 E0 ∧ atU U b E = atU U v1 E1 ∧ Ev (fun k => verniertop_down.f k n0 (digs v0) E0 n1 (digs v1) E1) (digs a, digs b, E) := by
 have l0 := sm_len (Nat.lt_of_le_of_lt (atU_ge U v0 E0) b0)
 have l1 := sm_len (Nat.lt_of_le_of_lt (atU_ge U v1 E1) b1)
 by_cases c : E0 ≥ E1
 ·
  refine ⟨v0 * 2 ^ (E0 - E1).toNat, v1, E1, h1, h1', atU_shift v0 h1 c, rfl, ?_⟩
  have hs := Shl_ev (x := v0) (k := (E0 - E1).toNat) (by omega) (by omega)
  refine Ev.congr (fun k => ?_) (Ev.bind (f := fun _ t => some (t, digs v1, E1)) hs (Ev.now _))
  unfold verniertop_down.f
  rw [if_pos c, w64 (by omega) (by omega), Int.toNat_of_nonneg (by omega)]
 ·
  refine ⟨v0, v1 * 2 ^ (E1 - E0).toNat, E0, h0, h0', rfl, atU_shift v1 h0 (by omega), ?_⟩
  have hs := Shl_ev (x := v1) (k := (E1 - E0).toNat) (by omega) (by omega)
  refine Ev.congr (fun k => ?_) (Ev.bind (f := fun _ t => some (digs v0, t, E0)) hs (Ev.now _))
  unfold verniertop_down.f
  rw [if_neg c, w64 (by omega) (by omega), Int.toNat_of_nonneg (by omega)]
def VR (U : Int) (n : Bool) (l : List Int) (E : Int) (X : Int) : Prop := ∃ v : Nat, l = digs v ∧ U ≤ E ∧ E ≤ 4000 ∧ X = sgV n (atU U v E)
theorem VR.zero {U : Int} (h0 : U ≤ 0) : VR U false [] 0 0 := ⟨0, rfl, h0, by decide, by unfold sgV atU; simp⟩
theorem ge_cmp (a b : Nat) : (cmp a b ≥ 0) ↔ b ≤ a := by unfold cmp; split <;> (try split) <;> omega
theorem plus_ev {U : Int} {n0 n1 : Bool} {l0 l1 : List Int} {E0 E1 X Y : Int} (hU : -4000 ≤ U) (h0 : VR U n0 l0 E0 X) (h1 : VR U n1 l1 E1 Y) (bX : X.natAbs < 16777216 ^ 80) (bY : Y.natAbs < 16777216 ^ 80) :
  ∃ (n : Bool) (l : List Int) (E : Int), Ev (fun k => verniertop_plus.f k n0 l0 E0 n1 l1 E1) (n, l, E) ∧ VR U n l E (X + Y) := by
 obtain ⟨v0, rfl, a0, a0', rfl⟩ := h0
 obtain ⟨v1, rfl, a1, a1', rfl⟩ := h1
 rw [sgV_abs] at bX bY
 obtain ⟨a, b, E, e0, e1, ea, eb, hd⟩ := down_ev (v0 := v0) (v1 := v1) n0 n1 hU a0 a0' a1 a1' bX bY
 rw [← ea] at bX
 rw [← eb] at bY
 have la := sm_len (Nat.lt_of_le_of_lt (atU_ge U a E) bX)
 have lb := sm_len (Nat.lt_of_le_of_lt (atU_ge U b E) bY)
 rw [← ea, ← eb]
 clear ea eb bX bY
 by_cases c : (n0 == n1) = true
 ·
  have hn : n0 = n1 := by simpa using c
  subst hn
  refine ⟨n0, digs (a + b), E, ?_, a + b, rfl, e0, e1, ?_⟩
  ·
   refine Ev.bind hd (Ev.congr (fun k => if_pos c) (Ev.bind (Add_ev (by omega) (by omega)) (Ev.now _)))
  ·
   unfold sgV atU
   rw [Nat.add_mul]
   split <;> omega
 ·
  have hn : n1 = !n0 := by cases n0 <;> cases n1 <;> simp_all
  by_cases d : b ≤ a
  ·
   refine ⟨n0, digs (a - b), E, ?_, a - b, rfl, e0, e1, ?_⟩
   ·
    exact Ev.bind hd (Ev.congr (fun k => if_neg c) (Ev.bind (Cmp_ev (by omega) (by omega)) (Ev.congr (fun k => if_pos ((ge_cmp a b).mpr d)) (Ev.bind (Sub_ev d (by omega)) (Ev.now _)))))
   ·
    have hle := Nat.mul_le_mul_right (2 ^ (E - U).toNat) d
    rw [hn]
    unfold sgV atU
    rw [Nat.sub_mul]
    generalize a * 2 ^ (E - U).toNat = A at hle ⊢
    generalize b * 2 ^ (E - U).toNat = B at hle ⊢
    cases n0 <;> simp <;> omega
  ·
   refine ⟨n1, digs (b - a), E, ?_, b - a, rfl, e0, e1, ?_⟩
   ·
    exact Ev.bind hd (Ev.congr (fun k => if_neg c) (Ev.bind (Cmp_ev (by omega) (by omega)) (Ev.congr (fun k => if_neg (fun hh => d ((ge_cmp a b).mp hh))) (Ev.bind (Sub_ev (by omega) (by omega)) (Ev.now _)))))
   ·
    have hle := Nat.mul_le_mul_right (2 ^ (E - U).toNat) (show a ≤ b by omega)
    rw [hn]
    unfold sgV atU
    rw [Nat.sub_mul]
    generalize a * 2 ^ (E - U).toNat = A at hle ⊢
    generalize b * 2 ^ (E - U).toNat = B at hle ⊢
    cases n0 <;> simp <;> omega
theorem size_ev {U : Int} {n0 n1 : Bool} {v0 v1 : Nat} {E0 E1 : Int} (hU : -4000 ≤ U) (h0 : U ≤ E0) (h0' : E0 ≤ 4000) (h1 : U ≤ E1) (h1' : E1 ≤ 4000) (b0 : atU U v0 E0 < 16777216 ^ 80) (b1 : atU U v1 E1 < 16777216 ^ 80) :
  Ev (fun k => verniertop_size.f k n0 (digs v0) E0 n1 (digs v1) E1) (cmp (atU U v0 E0) (atU U v1 E1)) := by
 obtain ⟨a, b, E, e0, e1, ea, eb, hd⟩ := down_ev (v0 := v0) (v1 := v1) n0 n1 hU h0 h0' h1 h1' b0 b1
 rw [← ea] at b0
 rw [← eb] at b1
 have la := sm_len (Nat.lt_of_le_of_lt (atU_ge U a E) b0)
 have lb := sm_len (Nat.lt_of_le_of_lt (atU_ge U b E) b1)
 refine Ev.use (Ev.bind hd (Ev.bind (Cmp_ev (by omega) (by omega)) (Ev.now _))) ?_
 rw [← ea, ← eb]
 have hp : 0 < 2 ^ (E - U).toNat := Nat.pow_pos (by decide)
 unfold cmp atU
 have e1 : (a * 2 ^ (E - U).toNat < b * 2 ^ (E - U).toNat) ↔ a < b := Nat.mul_lt_mul_right hp
 have e2 : (a * 2 ^ (E - U).toNat = b * 2 ^ (E - U).toNat) ↔ a = b := ⟨fun h => Nat.eq_of_mul_eq_mul_right hp h, fun h => by rw [h]⟩
 by_cases c : a < b
 ·
  rw [if_pos c, if_pos (e1.mpr c)]
 ·
  rw [if_neg c, if_neg (fun h => c (e1.mp h))]
  by_cases d : a = b
  ·
   rw [if_pos d, if_pos (e2.mpr d)]
  ·
   rw [if_neg d, if_neg (fun h => d (e2.mp h))]
theorem sign_eq (n : Bool) (v : Nat) (E : Int) : verniertop_sign.f n (digs v) E = some (if v = 0 then 0 else if n = true then -1 else 1) := by
 unfold verniertop_sign.f
 by_cases h : v = 0
 ·
  subst h; rfl
 ·
  have hl := digs_length_pos.mpr (show 0 < v by omega)
  rw [if_neg (by omega), if_neg h]
  split <;> rfl
theorem valOf_real {n : Bool} {s : Int} {f : Nat} (h0 : -4000 ≤ s) (h1 : s ≤ 4000) (hf : f < 18446744073709551616) : Ev (fun k => verniertop_valOf.f k 1 n s (f : Int)) (n, digs f, s - 63) := by
 refine Ev.congr (fun k => ?_) (Ev.bind (f := fun _ t => some (n, t, s - 63)) (Of_ev hf) (Ev.now _))
 unfold verniertop_valOf.f
 rw [if_pos rfl, w64 (by omega) (by omega)]
theorem valOf_none {c : Int} (hc : c ≠ 1) (n : Bool) (s f : Int) : Ev (fun k => verniertop_valOf.f k c n s f) (false, [], 0) := by
 refine Ev.congr (fun k => ?_) (Ev.now _)
 unfold verniertop_valOf.f
 rw [if_neg hc]
theorem times_ev' {n0 n1 : Bool} {v0 v1 : Nat} {E0 E1 : Int} (b0 : v0 < 16777216 ^ 80) (b1 : v1 < 16777216 ^ 80) (h0 : -4000 ≤ E0 ∧ E0 ≤ 4000) (h1 : -4000 ≤ E1 ∧ E1 ≤ 4000) :
  Ev (fun k => verniertop_times.f k n0 (digs v0) E0 n1 (digs v1) E1) (n0 != n1, digs (v0 * v1), E0 + E1) := by
 have l0 := sm_len b0
 have l1 := sm_len b1
 refine Ev.congr (fun k => ?_) (Ev.bind (f := fun _ t => some (n0 != n1, t, E0 + E1)) (Mul_ev (by omega) (by omega)) (Ev.now _))
 unfold verniertop_times.f
 rw [w64 (by omega) (by omega)]
end Go.Proofs.Ytjlaijaadclghaa.M
