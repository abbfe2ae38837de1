/- The sixteenth layer: the numbers out of a pattern, and the head of its statements. -/
import Derived.Test.YtlllaoihpkdpmaaDoorF7a
import Derived.Test.YtlllaoihpkdpmaaDoorF11a
import Derived.Test.YtlllaoihpkdpmaaDoorF19a
import Derived.Test.YtlllaoihpkdpmaaDoorInts2a
namespace Go.Proofs.YtlllaoihpkdpmaaDoor.M
open Go.RowKit Go.Proofs.YtlllaoihpkdpmaaDoorW.PrintWords Go.Proofs.YtlllaoihpkdpmaaDoorW.PrintLast Go.Proofs.YtlllaoihpkdpmaaDoorW.PrintMore Go.Proofs.YtlllaoihpkdpmaaDoor.F
set_option linter.unusedVariables false
set_option linter.unusedSimpArgs false
theorem code24 : vernierlaw00_Code.f (some 24) = some 24 := by rfl
theorem code_all {e : Int} (h : e = 2 ∨ e = 24 ∨ e = 9 ∨ e = 10) : vernierlaw00_Code.f (some e) = some e := by
  rcases h with rfl | rfl | rfl | rfl <;> rfl
/-- The signed number, if it has room. -/
def inT {ε : Type} (neg : Bool) (w : Nat) (bad good : ε) : Int × ε := if 9223372036854775808 < w ∨ (w = 9223372036854775808 ∧ neg = false) then (0, bad) else (if neg = true then -(w : Int) else (w : Int), good)
theorem ToInt_err {a p mode e : Int} (h : Ev (fun k => ints_told.f k a p mode) (false, false, 0, some e)) : Ev (fun k => ints_ToInt.f k a p mode) (0, some e) := by
  unfold ints_ToInt.f; exact Ev.bind h (Ev.now _)
theorem ToInt_near {a p mode : Int} {neg : Bool} {w : Nat} (hw : w < 18446744073709551616) (h : Ev (fun k => ints_told.f k a p mode) (neg, false, (w : Int), none)) : Ev (fun k => ints_ToInt.f k a p mode) (inT neg w (some 10) none) := by
  unfold ints_ToInt.f inT
  refine Ev.bind h ?_
  simp only [Option.isNone_none, ↓reduceIte]
  refine Ev.congr (fun k => if_neg (show ¬ (false = true) by decide)) ?_
  have hfin : ¬ (9223372036854775808 < w ∨ (w = 9223372036854775808 ∧ neg = false)) → Ev (fun k => ints_ToInt.j0 k false neg false (w : Int)) (if neg = true then -(w : Int) else (w : Int), none) := by
    intro hn
    refine Ev.step (f := fun _ => some (if neg = true then -(w : Int) else (w : Int), none)) (fun k => ?_) (Ev.now _)
    simp only [ints_ToInt.j0]; rw [if_neg (by decide)]
    cases neg
    · rw [if_neg (by decide), if_neg (by decide), w64 (by omega) (by have : ¬ (w = 9223372036854775808) := fun c => hn (Or.inr ⟨c, rfl⟩); omega)]
    · rw [if_pos rfl, if_pos rfl]
      congr 2
      unfold wrap64
      rw [u64w]
      omega
  by_cases g1 : 9223372036854775808 < w
  · rw [if_pos (Or.inl g1)]
    refine Ev.congr (fun k => if_pos (by omega)) (Ev.step (f := fun _ => some (0, some 10)) (fun k => ?_) (Ev.now _))
    simp only [ints_ToInt.j0]; rw [if_pos trivial]
  · refine Ev.congr (fun k => if_neg (by omega)) ?_
    by_cases g2 : w = 9223372036854775808
    · refine Ev.congr (fun k => if_pos (by omega)) ?_
      cases neg
      · rw [if_pos (Or.inr ⟨g2, rfl⟩)]
        refine Ev.step (f := fun _ => some (0, some 10)) (fun k => ?_) (Ev.now _)
        simp only [ints_ToInt.j0]; rw [if_pos (by decide)]
      · have hn : ¬ (9223372036854775808 < w ∨ (w = 9223372036854775808 ∧ true = false)) := by rintro (c | ⟨_, c⟩); exact g1 c; cases c
        rw [if_neg hn]
        exact hfin hn
    · have hn : ¬ (9223372036854775808 < w ∨ (w = 9223372036854775808 ∧ neg = false)) := by rintro (c | ⟨c, _⟩); exact g1 c; exact g2 c
      rw [if_neg hn]
      exact Ev.congr (fun k => if_neg (by omega)) (hfin hn)
/-- The head of this layer's statements. -/
theorem Whole_near {n : Nat} {p mode : Int} {neg : Bool} {w : Nat} (hn : Wd n) (hw : w < 18446744073709551616) (h : Ev (fun k => ints_told.f k (n : Int) p mode) (neg, false, (w : Int), none)) : Ev (fun k => ints_Whole.f k (n : Int) p mode) ((rdV n neg 0 w : Int), none) := by
  unfold ints_Whole.f
  refine Ev.bind h ?_
  simp only [Option.isNone_none, ↓reduceIte]
  exact Ev.congr (fun k => if_neg (show ¬ (false = true) by decide)) (Ev.bind (rounded_ev hn hw) (Ev.now _))
theorem shown_ev : Ev (fun k => vernierlaw16_shown.f k) true := by
  have w8 : Wd 8 := Or.inl rfl
  have e1 := FromInt_ev (n := 8) (v := 18) w8 (by decide) (by decide)
  have r1 : rdI 8 18 = 96 := by decide +kernel
  have t2 := told_real (n := 8) (p := 188) (mode := 1) w8 (by decide) (by decide) (by decide) (by decide +kernel) (by decide +kernel)
  have n2 : topB 188 8 = true := by decide +kernel
  have v2 : wM true 1 (scI (abN 8 188) 7) (mtN (abN 8 188) 7) = 2 := by decide +kernel
  rw [n2, v2] at t2
  have e2 := ToInt_near (neg := true) (w := 2) (by decide) t2
  have t3 := told_real (n := 8) (p := 68) (mode := 2) w8 (by decide) (by decide) (by decide) (by decide +kernel) (by decide +kernel)
  have n3 : topB 68 8 = false := by decide +kernel
  have v3 : wM false 2 (scI (abN 8 68) 7) (mtN (abN 8 68) 7) = 2 := by decide +kernel
  rw [n3, v3] at t3
  have e3 := Whole_near (neg := false) (w := 2) w8 (by decide) t3
  have r3 : rdV 8 false 0 2 = 72 := by decide +kernel
  have e4 := ToInt_err (told_nar (n := 8) (p := 128) (mode := 0) w8 (by decide) (by decide) (by decide) (by decide +kernel))
  rw [r1] at e1
  rw [r3] at e3
  unfold vernierlaw16_shown.f
  refine Ev.bind e1 (Ev.bind e2 (Ev.bind e3 (Ev.bind e4 ?_)))
  exact Ev.now _
end Go.Proofs.YtlllaoihpkdpmaaDoor.M
