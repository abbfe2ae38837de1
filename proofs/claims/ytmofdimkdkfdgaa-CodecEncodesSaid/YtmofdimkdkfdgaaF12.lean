/- Functions of the given program as plain Lean functions, and for each a proof that the program's call comes to just these answers; no further conditions. (Written by a program of this repo out of the translation.) -/
import Derived.Test.YtmofdimkdkfdgaaF0
import Derived.Test.YtmofdimkdkfdgaaF2
import Derived.Test.YtmofdimkdkfdgaaF10
import Derived.Test.YtmofdimkdkfdgaaF11
namespace Go.Proofs.Ytmofdimkdkfdgaa.F
open Go.RowKit Go.Proofs.YtmofdimkdkfdgaaW.PrintWords Go.Proofs.YtmofdimkdkfdgaaW.PrintLast Go.Proofs.YtmofdimkdkfdgaaW.PrintMore
attribute [local go_sem high] xor_u64 xor_u32 eqErr27 neErr27 eqErrL27 neErrL27
attribute [local go_sem] max2_int min2_int max_two min_two max_three min_three max_four min_four   -- for this text's walks alone
set_option linter.unusedVariables false
set_option linter.unusedSimpArgs false

attribute [local go_sem high] eqA40
/-! ### vernierref06_String: function 27 -/
def vernierref06_String.f (k : Nat) (a0 : Int) (a1 : Int) : Option (ByteArray) := (vernierref01_Text.f k a1 a0).bind fun t225 => (if 0 < (t225.size : Int) then (if (bt t225 0) = 49 then ((vernierref01_Text.f k (IntKind.u64.wrap (-a1)) a0).bind fun t226 => (if 1 ≤ (t226.size : Int) then (some (t226.extract 1 t226.size)) else (none))) else (if 1 ≤ (t225.size : Int) then (some (t225.extract 1 t225.size)) else (none))) else (none))
theorem vernierref06_String.mono : ∀ a0 a1 k, LeO (vernierref06_String.f k a0 a1) (vernierref06_String.f (k + 1) a0 a1) := by
  intro a0 a1 k
  unfold vernierref06_String.f
  repeat' first
      | (with_reducible exact vernierref01_Text.mono _ _ _)
      | (with_reducible exact LeO.refl _)
      | (with_reducible exact LeO.none _)
      | (with_reducible refine LeO.ite ?_ ?_)
      | (with_reducible refine LeO.bind ?_ (fun _ => ?_))
      | exact vernierref01_Text.mono _ _ _
      | exact LeO.none _
      | refine LeO.ite ?_ ?_
      | refine LeO.bind ?_ (fun _ => ?_)
set_option maxHeartbeats 8000000 in
set_option maxRecDepth 100000 in
theorem vernierref06_String.calls (k : Nat) (a0 : Int) (a1 : Int) (r : ByteArray) (w : World) (h : vernierref06_String.f k a0 a1 = some r) :
    Calls Try.prog 27 #[.int .i64 a0, .int .u64 a1] w fun e w' => e = .returned (.string r) ∧ Below w.heap.size w w' := by
  have HB := Aside0.mk (Below.refl w.heap.size w)
  have H : ((vernierref01_Text.f k a1 a0).bind fun t225 => (if 0 < (t225.size : Int) then (if (bt t225 0) = 49 then ((vernierref01_Text.f k (IntKind.u64.wrap (-a1)) a0).bind fun t226 => (if 1 ≤ (t226.size : Int) then (some (t226.extract 1 t226.size)) else (none))) else (if 1 ≤ (t225.size : Int) then (some (t225.extract 1 t225.size)) else (none))) else (none))) = some r := h
  clear h
  replace H := Option.bind_eq_some_iff.mp H
  obtain ⟨t225, A30, H⟩ := H
  replace H : (if 0 < (t225.size : Int) then (if (bt t225 0) = 49 then ((vernierref01_Text.f k (IntKind.u64.wrap (-a1)) a0).bind fun t226 => (if 1 ≤ (t226.size : Int) then (some (t226.extract 1 t226.size)) else (none))) else (if 1 ≤ (t225.size : Int) then (some (t225.extract 1 t225.size)) else (none))) else (none)) = some r := H
  have A3 := Aside0.mk A30
  clear A30
  by_cases c4 : 0 < (t225.size : Int)
  · rw [if_pos c4] at H
    have c4b0 : decide (0 < (t225.size : Int)) = true := decide_eq_true c4
    have c4b1 : decide (0 < t225.size) = true := decide_eq_true (by omega)
    clear c4
    by_cases c6 : (bt t225 0) = 49
    · rw [if_pos c6] at H
      have c6b0 : ((bt t225 0) == 49) = true := beq_iff_eq.mpr c6
      have c6b1 : ((bt t225 0) != 49) = false := bne_eq_false_iff_eq.mpr c6
      clear c6
      replace H := Option.bind_eq_some_iff.mp H
      obtain ⟨t226, A70, H⟩ := H
      replace H : (if 1 ≤ (t226.size : Int) then (some (t226.extract 1 t226.size)) else (none)) = some r := H
      have A7 := Aside0.mk A70
      clear A70
      by_cases c8 : 1 ≤ (t226.size : Int)
      · rw [if_pos c8] at H
        have c8b0 := eq_true c8
        have c8b1 : decide (1 ≤ (t226.size : Int)) = true := decide_eq_true c8
        clear c8
        obtain rfl := Option.some.inj H
        go_enter Try.func27, Try.ntmps27
        go_wp2_with (first | ((with_reducible refine gC (f := 28) rfl ?_); (with_reducible refine gD (N := 8) rfl ?_); refine goesY_ (some 8) Try.func28 #[.int .u64 a1, .int .i64 a0] ?_; (with_reducible refine (vernierref01_Text.calls k a1 a0 t225 _ A3.out).mono ?_); rintro e w9 ⟨rfl, hb⟩; refine ⟨_, rfl, ?_⟩; have n0_ := Aside0.mk (bS3 HB.out hb); clear HB; have HB := n0_; clear n0_; (try clear hb); (try clear hb2); (try clear hk); (try clear hi); have p5 : 0 ≤ (0 : Int) := (by omega); have q5 : 0 < t225.size := (by have : (0 : Int) < (t225.size : Int) := of_decide_eq_true (by first | (with_reducible assumption) | assumption); omega); have hx5 : ∀ h : 0 < t225.size, ((t225[0]'h).toNat : Int) = bt t225 0 := bt_at t225 0; clear p5; have qi5 : (0 < (t225.size : Int)) = True := eq_true (of_decide_eq_true (by first | (with_reducible assumption) | assumption)); replace q5 := eq_true q5) | ((with_reducible refine gC (f := 28) rfl ?_); (with_reducible refine gD (N := 15) rfl ?_); refine goesY_ (some 15) Try.func28 #[.int .u64 (IntKind.u64.wrap (-a1)), .int .i64 a0] ?_; (with_reducible refine (vernierref01_Text.calls k (IntKind.u64.wrap (-a1)) a0 t226 _ A7.out).mono ?_); rintro e w10 ⟨rfl, hb⟩; refine ⟨_, rfl, ?_⟩; have n0_ := Aside0.mk (bS3 HB.out hb); clear HB; have HB := n0_; clear n0_; (try clear hb); (try clear hb2); (try clear hk); (try clear hi)))
        go_ret
        exact ⟨by first | rfl | (simp [errW_none, errW_some] <;> rfl) | (simp [*, errW_none, errW_some] <;> rfl), by repeat (first | (with_reducible first | exact HB.out | apply pA | apply pN | apply p1) | exact HB.out)⟩
      · rw [if_neg c8] at H
        exact absurd H (by simp)
    · rw [if_neg c6] at H
      have c6b0 : ((bt t225 0) == 49) = false := beq_eq_false_iff_ne.mpr c6
      have c6b1 : ((bt t225 0) != 49) = true := bne_iff_ne.mpr c6
      by_cases c11 : 1 ≤ (t225.size : Int)
      · rw [if_pos c11] at H
        have c11b0 := eq_true c11
        have c11b1 : decide (1 ≤ (t225.size : Int)) = true := decide_eq_true c11
        clear c11
        obtain rfl := Option.some.inj H
        go_enter Try.func27, Try.ntmps27
        go_wp2_with (first | ((with_reducible refine gC (f := 28) rfl ?_); (with_reducible refine gD (N := 8) rfl ?_); refine goesY_ (some 8) Try.func28 #[.int .u64 a1, .int .i64 a0] ?_; (with_reducible refine (vernierref01_Text.calls k a1 a0 t225 _ A3.out).mono ?_); rintro e w12 ⟨rfl, hb⟩; refine ⟨_, rfl, ?_⟩; have n0_ := Aside0.mk (bS3 HB.out hb); clear HB; have HB := n0_; clear n0_; (try clear hb); (try clear hb2); (try clear hk); (try clear hi); have p5 : 0 ≤ (0 : Int) := (by omega); have q5 : 0 < t225.size := (by have : (0 : Int) < (t225.size : Int) := of_decide_eq_true (by first | (with_reducible assumption) | assumption); omega); have hx5 : ∀ h : 0 < t225.size, ((t225[0]'h).toNat : Int) = bt t225 0 := bt_at t225 0; clear p5; have qi5 : (0 < (t225.size : Int)) = True := eq_true (of_decide_eq_true (by first | (with_reducible assumption) | assumption)); replace q5 := eq_true q5))
        go_ret
        exact ⟨by first | rfl | (simp [errW_none, errW_some] <;> rfl) | (simp [*, errW_none, errW_some] <;> rfl), by repeat (first | (with_reducible first | exact HB.out | apply pA | apply pN | apply p1) | exact HB.out)⟩
      · rw [if_neg c11] at H
        exact absurd H (by simp)
  · rw [if_neg c4] at H
    exact absurd H (by simp)

/-! ### vernierref06_run: function 29 -/
def vernierref06_run.l0 : Nat → ByteArray → Int → Option (Int)
  | 0, _, _ => none
  | k + 1, x0, x3 => if x3 < (x0.size : Int) then (if 0 ≤ x3 then (if 0 < (x0.size : Int) then (if (bt x0 x3) = (bt x0 0) then (vernierref06_run.l0 k x0 (wrap64 (x3 + 1))) else (some x3)) else (none)) else (none)) else (some x3)
def vernierref06_run.f (k : Nat) (a0 : ByteArray) : Option (Int) := vernierref06_run.l0 k a0 0
theorem vernierref06_run.mono_l : ∀ k, (∀ y0 y1, LeO (vernierref06_run.l0 k y0 y1) (vernierref06_run.l0 (k + 1) y0 y1))
  | 0 => fun _ _ r h => by simp [vernierref06_run.l0] at h
  | k + 1 => by
    have ih0 := vernierref06_run.mono_l k
    · intro y0 y1
      unfold vernierref06_run.l0
      repeat' first
      | (with_reducible exact ih0 _ _)
      | (with_reducible exact LeO.refl _)
      | (with_reducible exact LeO.none _)
      | (with_reducible refine LeO.ite ?_ ?_)
      | (with_reducible refine LeO.bind ?_ (fun _ => ?_))
      | exact ih0 _ _
      | exact LeO.none _
      | refine LeO.ite ?_ ?_
      | refine LeO.bind ?_ (fun _ => ?_)
theorem vernierref06_run.mono : ∀ a0 k, LeO (vernierref06_run.f k a0) (vernierref06_run.f (k + 1) a0) := by
  intro a0 k
  have ih0 := vernierref06_run.mono_l k
  unfold vernierref06_run.f
  repeat' first
      | (with_reducible exact ih0 _ _)
      | (with_reducible exact LeO.refl _)
      | (with_reducible exact LeO.none _)
      | (with_reducible refine LeO.ite ?_ ?_)
      | (with_reducible refine LeO.bind ?_ (fun _ => ?_))
      | exact ih0 _ _
      | exact LeO.none _
      | refine LeO.ite ?_ ?_
      | refine LeO.bind ?_ (fun _ => ?_)
set_option maxHeartbeats 8000000 in
set_option maxRecDepth 100000 in
theorem vernierref06_run.calls (k : Nat) (a0 : ByteArray) (r : Int) (w : World) (h : vernierref06_run.f k a0 = some r) :
    Calls Try.prog 29 #[.string a0] w fun e w' => e = .returned (.int .i64 r) ∧ Drawn0 w w' := by
  have H : (vernierref06_run.l0 k a0 0) = some r := h
  clear h
  have H' := Aside0.mk H
  clear H
  go_enter Try.func29, Try.ntmps29
  go_wp2
  repeat (go_quiet (fail); try go_wp2)
  go_loopg [3] k (fun kq v3 w' => ∃ (x3_1 : Int), v3 = .int .i64 x3_1 ∧ Aside0 (vernierref06_run.l0 kq a0 x3_1 = some r) ∧ Aside0 (kq ≤ k) ∧ Drawn0 w w')
  case atStart => exact ⟨(0), (by first | rfl | (simp; done) | (simp [*]; done)), H', ⟨Nat.le_refl _⟩, by repeat (first | exact Drawn0.refl _ | apply Drawn0.step)⟩
  case round =>
    clear H'
    obtain ⟨x3_1, rfl, HA, HK1, ⟨m1, rfl⟩⟩ := hrel
    cases gk with
    | zero => exact absurd HA.out (by simp [vernierref06_run.l0])
    | succ k1 =>
      have H := HA.out
      clear HA
      simp only [vernierref06_run.l0] at H
      by_cases c2 : x3_1 < (a0.size : Int)
      · rw [if_pos c2] at H
        have c2b0 : decide (x3_1 < (a0.size : Int)) = true := decide_eq_true c2
        clear c2
        by_cases c3 : 0 ≤ x3_1
        · rw [if_pos c3] at H
          have c3b0 : decide (0 ≤ x3_1) = true := decide_eq_true c3
          clear c3
          by_cases c5 : 0 < (a0.size : Int)
          · rw [if_pos c5] at H
            have c5b0 : decide (0 < (a0.size : Int)) = true := decide_eq_true c5
            have c5b1 : decide (0 < a0.size) = true := decide_eq_true (by omega)
            clear c5
            by_cases c7 : (bt a0 x3_1) = (bt a0 0)
            · rw [if_pos c7] at H
              have c7b0 : ((bt a0 x3_1) == (bt a0 0)) = true := beq_iff_eq.mpr c7
              have c7b1 : ((bt a0 x3_1) != (bt a0 0)) = false := bne_eq_false_iff_eq.mpr c7
              clear c7
              have H' := Aside0.mk H
              clear H
              have p4 : 0 ≤ (x3_1 : Int) := of_decide_eq_true (by first | (with_reducible assumption) | assumption)
              have q4 : x3_1 < (a0.size : Int) := of_decide_eq_true (by first | (with_reducible assumption) | assumption)
              have hx4 := bt_at a0 x3_1
              replace p4 := eq_true p4
              replace q4 := eq_true q4
              have p6 : 0 ≤ (0 : Int) := (by omega)
              have q6 : 0 < a0.size := (by have : (0 : Int) < (a0.size : Int) := of_decide_eq_true (by first | (with_reducible assumption) | assumption); omega)
              have hx6 : ∀ h : 0 < a0.size, ((a0[0]'h).toNat : Int) = bt a0 0 := bt_at a0 0
              clear p6
              have qi6 : (0 < (a0.size : Int)) = True := eq_true (of_decide_eq_true (by first | (with_reducible assumption) | assumption))
              replace q6 := eq_true q6
              go_wp2
              repeat (go_quiet (fail); try go_wp2)
              go_roundg k1
              case measure => have := HK1.out; omega
              case rel => exact ⟨(wrap64 (x3_1 + 1)), (by first | rfl | (simp; done) | (simp [*]; done)), H', ⟨by have := HK1.out; omega⟩, by repeat (first | exact Drawn0.refl _ | apply Drawn0.step)⟩
            · rw [if_neg c7] at H
              have c7b0 : ((bt a0 x3_1) == (bt a0 0)) = false := beq_eq_false_iff_ne.mpr c7
              have c7b1 : ((bt a0 x3_1) != (bt a0 0)) = true := bne_iff_ne.mpr c7
              obtain rfl := Option.some.inj H
              have p4 : 0 ≤ (x3_1 : Int) := of_decide_eq_true (by first | (with_reducible assumption) | assumption)
              have q4 : x3_1 < (a0.size : Int) := of_decide_eq_true (by first | (with_reducible assumption) | assumption)
              have hx4 := bt_at a0 x3_1
              replace p4 := eq_true p4
              replace q4 := eq_true q4
              have p6 : 0 ≤ (0 : Int) := (by omega)
              have q6 : 0 < a0.size := (by have : (0 : Int) < (a0.size : Int) := of_decide_eq_true (by first | (with_reducible assumption) | assumption); omega)
              have hx6 : ∀ h : 0 < a0.size, ((a0[0]'h).toNat : Int) = bt a0 0 := bt_at a0 0
              clear p6
              have qi6 : (0 < (a0.size : Int)) = True := eq_true (of_decide_eq_true (by first | (with_reducible assumption) | assumption))
              replace q6 := eq_true q6
              go_wp2
              repeat (go_quiet (fail); try go_wp2)
              go_ret
              exact ⟨by first | rfl | (simp; done) | (simp [*]; done), by repeat (first | exact Drawn0.refl _ | apply Drawn0.step)⟩
          · rw [if_neg c5] at H
            exact absurd H (by simp)
        · rw [if_neg c3] at H
          exact absurd H (by simp)
      · rw [if_neg c2] at H
        have c2b0 : decide (x3_1 < (a0.size : Int)) = false := decide_eq_false c2
        clear c2
        obtain rfl := Option.some.inj H
        go_wp2
        repeat (go_quiet (fail); try go_wp2)
        go_ret
        exact ⟨by first | rfl | (simp; done) | (simp [*]; done), by repeat (first | exact Drawn0.refl _ | apply Drawn0.step)⟩

/-! ### vernierref06_Split: function 12 -/
mutual
def vernierref06_Split.j0 : Nat → Int → Int → Int → Bool → Option (Bool × Bool × Int × Int × Int × Int × Int × Int × Int)
  | 0, _, _, _, _ => none
  | k + 1, x0, x1, x7, x23 => if x23 = true then (some (false, false, 0, 0, 0, 0, 0, 0, x7)) else ((vernierref06_String.f k x0 x1).bind fun t230 => ((vernierref01_Text.f k x1 x0).bind fun t231 => (if 0 < (t231.size : Int) then (if 0 < (t230.size : Int) then ((vernierref06_run.f k t230).bind fun t232 => (if (bt t230 0) = 49 then (vernierref06_Split.j1 k t230 ((bt t231 0) == 49) ((bt t230 0) == 49) t232 (wrap64 (t232 - 1)) 0 0 0 0) else (vernierref06_Split.j1 k t230 ((bt t231 0) == 49) ((bt t230 0) == 49) t232 (wrap64 (-t232)) 0 0 0 0))) else (none)) else (none))))
def vernierref06_Split.j1 : Nat → ByteArray → Bool → Bool → Int → Int → Int → Int → Int → Int → Option (Bool × Bool × Int × Int × Int × Int × Int × Int × Int)
  | 0, _, _, _, _, _, _, _, _, _ => none
  | k + 1, x8, x234000, x234001, x234002, x234003, x234004, x234005, x234006, x234007 => if x234002 < (x8.size : Int) then (if 0 ≤ (wrap64 (x234002 + 1)) then (if (wrap64 (x234002 + 1)) ≤ (x8.size : Int) then (vernierref06_Split.j2 k (x8.extract ((wrap64 (x234002 + 1)) : Int).toNat x8.size) x234000 x234001 x234002 x234003 x234004 x234005 x234006 x234007) else (none)) else (none)) else (vernierref06_Split.j2 k (⟨#[]⟩ : ByteArray) x234000 x234001 x234002 x234003 x234004 x234005 x234006 x234007)
def vernierref06_Split.j2 : Nat → ByteArray → Bool → Bool → Int → Int → Int → Int → Int → Int → Option (Bool × Bool × Int × Int × Int × Int × Int × Int × Int)
  | 0, _, _, _, _, _, _, _, _, _ => none
  | k + 1, x10, x234000, x234001, x234002, x234003, x234004, x234005, x234006, x234007 => if (x10.size : Int) > 2 then (if 0 ≤ 2 then (if 2 ≤ (x10.size : Int) then (if (x10.extract 0 2).size + 2 ≤ 9223372036854775807 then (if 2 ≤ (((x10.extract 0 2) ++ (⟨#[48, 48]⟩ : ByteArray)).size : Int) then ((vernierref01_Number.f k (((x10.extract 0 2) ++ (⟨#[48, 48]⟩ : ByteArray)).extract 0 2)).bind fun t234 => ((vernierref01_Number.f k (x10.extract 2 x10.size)).bind fun t235 => (some (x234000, x234001, x234002, x234003, 2, wrap64 (t234), wrap64 ((x10.size : Int) - 2), t235, 0)))) else (none)) else (none)) else (none)) else (none)) else (if 0 ≤ (x10.size : Int) then (if (x10.size : Int) ≤ (x10.size : Int) then (if (x10.extract 0 ((x10.size : Int) : Int).toNat).size + 2 ≤ 9223372036854775807 then (if 0 ≤ 2 then (if 2 ≤ (((x10.extract 0 ((x10.size : Int) : Int).toNat) ++ (⟨#[48, 48]⟩ : ByteArray)).size : Int) then ((vernierref01_Number.f k (((x10.extract 0 ((x10.size : Int) : Int).toNat) ++ (⟨#[48, 48]⟩ : ByteArray)).extract 0 2)).bind fun t236 => ((vernierref01_Number.f k (x10.extract ((x10.size : Int) : Int).toNat x10.size)).bind fun t237 => (some (x234000, x234001, x234002, x234003, (x10.size : Int), wrap64 (t236), wrap64 ((x10.size : Int) - (x10.size : Int)), t237, 0)))) else (none)) else (none)) else (none)) else (none)) else (none))
end
def vernierref06_Split.f (k : Nat) (a0 : Int) (a1 : Int) : Option (Bool × Bool × Int × Int × Int × Int × Int × Int × Int) := (vernierref05_Kind.f k a0 a1).bind fun bt228 => (if bt228.2 = 0 then (vernierref06_Split.j0 k a0 a1 bt228.2 (bt228.1 != 1)) else (vernierref06_Split.j0 k a0 a1 bt228.2 true))
theorem vernierref06_Split.mono_l : ∀ k, (∀ y0 y1 y2 y3, LeO (vernierref06_Split.j0 k y0 y1 y2 y3) (vernierref06_Split.j0 (k + 1) y0 y1 y2 y3)) ∧ (∀ y0 y1 y2 y3 y4 y5 y6 y7 y8, LeO (vernierref06_Split.j1 k y0 y1 y2 y3 y4 y5 y6 y7 y8) (vernierref06_Split.j1 (k + 1) y0 y1 y2 y3 y4 y5 y6 y7 y8)) ∧ (∀ y0 y1 y2 y3 y4 y5 y6 y7 y8, LeO (vernierref06_Split.j2 k y0 y1 y2 y3 y4 y5 y6 y7 y8) (vernierref06_Split.j2 (k + 1) y0 y1 y2 y3 y4 y5 y6 y7 y8))
  | 0 => ⟨fun _ _ _ _ r h => by simp [vernierref06_Split.j0] at h, fun _ _ _ _ _ _ _ _ _ r h => by simp [vernierref06_Split.j1] at h, fun _ _ _ _ _ _ _ _ _ r h => by simp [vernierref06_Split.j2] at h⟩
  | k + 1 => by
    obtain ⟨ih0, ih1, ih2⟩ := vernierref06_Split.mono_l k
    refine ⟨?_, ?_, ?_⟩
    · intro y0 y1 y2 y3
      unfold vernierref06_Split.j0
      repeat' first
      | (with_reducible exact ih0 _ _ _ _)
      | (with_reducible exact ih1 _ _ _ _ _ _ _ _ _)
      | (with_reducible exact ih2 _ _ _ _ _ _ _ _ _)
      | (with_reducible exact vernierref01_Number.mono _ _)
      | (with_reducible exact vernierref01_Text.mono _ _ _)
      | (with_reducible exact vernierref05_Kind.mono _ _ _)
      | (with_reducible exact vernierref06_String.mono _ _ _)
      | (with_reducible exact vernierref06_run.mono _ _)
      | (with_reducible exact LeO.refl _)
      | (with_reducible exact LeO.none _)
      | (with_reducible refine LeO.ite ?_ ?_)
      | (with_reducible refine LeO.bind ?_ (fun _ => ?_))
      | exact ih0 _ _ _ _
      | exact ih1 _ _ _ _ _ _ _ _ _
      | exact ih2 _ _ _ _ _ _ _ _ _
      | exact vernierref01_Number.mono _ _
      | exact vernierref01_Text.mono _ _ _
      | exact vernierref05_Kind.mono _ _ _
      | exact vernierref06_String.mono _ _ _
      | exact vernierref06_run.mono _ _
      | exact LeO.none _
      | refine LeO.ite ?_ ?_
      | refine LeO.bind ?_ (fun _ => ?_)
    · intro y0 y1 y2 y3 y4 y5 y6 y7 y8
      unfold vernierref06_Split.j1
      repeat' first
      | (with_reducible exact ih0 _ _ _ _)
      | (with_reducible exact ih1 _ _ _ _ _ _ _ _ _)
      | (with_reducible exact ih2 _ _ _ _ _ _ _ _ _)
      | (with_reducible exact vernierref01_Number.mono _ _)
      | (with_reducible exact vernierref01_Text.mono _ _ _)
      | (with_reducible exact vernierref05_Kind.mono _ _ _)
      | (with_reducible exact vernierref06_String.mono _ _ _)
      | (with_reducible exact vernierref06_run.mono _ _)
      | (with_reducible exact LeO.refl _)
      | (with_reducible exact LeO.none _)
      | (with_reducible refine LeO.ite ?_ ?_)
      | (with_reducible refine LeO.bind ?_ (fun _ => ?_))
      | exact ih0 _ _ _ _
      | exact ih1 _ _ _ _ _ _ _ _ _
      | exact ih2 _ _ _ _ _ _ _ _ _
      | exact vernierref01_Number.mono _ _
      | exact vernierref01_Text.mono _ _ _
      | exact vernierref05_Kind.mono _ _ _
      | exact vernierref06_String.mono _ _ _
      | exact vernierref06_run.mono _ _
      | exact LeO.none _
      | refine LeO.ite ?_ ?_
      | refine LeO.bind ?_ (fun _ => ?_)
    · intro y0 y1 y2 y3 y4 y5 y6 y7 y8
      unfold vernierref06_Split.j2
      repeat' first
      | (with_reducible exact ih0 _ _ _ _)
      | (with_reducible exact ih1 _ _ _ _ _ _ _ _ _)
      | (with_reducible exact ih2 _ _ _ _ _ _ _ _ _)
      | (with_reducible exact vernierref01_Number.mono _ _)
      | (with_reducible exact vernierref01_Text.mono _ _ _)
      | (with_reducible exact vernierref05_Kind.mono _ _ _)
      | (with_reducible exact vernierref06_String.mono _ _ _)
      | (with_reducible exact vernierref06_run.mono _ _)
      | (with_reducible exact LeO.refl _)
      | (with_reducible exact LeO.none _)
      | (with_reducible refine LeO.ite ?_ ?_)
      | (with_reducible refine LeO.bind ?_ (fun _ => ?_))
      | exact ih0 _ _ _ _
      | exact ih1 _ _ _ _ _ _ _ _ _
      | exact ih2 _ _ _ _ _ _ _ _ _
      | exact vernierref01_Number.mono _ _
      | exact vernierref01_Text.mono _ _ _
      | exact vernierref05_Kind.mono _ _ _
      | exact vernierref06_String.mono _ _ _
      | exact vernierref06_run.mono _ _
      | exact LeO.none _
      | refine LeO.ite ?_ ?_
      | refine LeO.bind ?_ (fun _ => ?_)
theorem vernierref06_Split.mono : ∀ a0 a1 k, LeO (vernierref06_Split.f k a0 a1) (vernierref06_Split.f (k + 1) a0 a1) := by
  intro a0 a1 k
  obtain ⟨ih0, ih1, ih2⟩ := vernierref06_Split.mono_l k
  unfold vernierref06_Split.f
  repeat' first
      | (with_reducible exact ih0 _ _ _ _)
      | (with_reducible exact ih1 _ _ _ _ _ _ _ _ _)
      | (with_reducible exact ih2 _ _ _ _ _ _ _ _ _)
      | (with_reducible exact vernierref01_Number.mono _ _)
      | (with_reducible exact vernierref01_Text.mono _ _ _)
      | (with_reducible exact vernierref05_Kind.mono _ _ _)
      | (with_reducible exact vernierref06_String.mono _ _ _)
      | (with_reducible exact vernierref06_run.mono _ _)
      | (with_reducible exact LeO.refl _)
      | (with_reducible exact LeO.none _)
      | (with_reducible refine LeO.ite ?_ ?_)
      | (with_reducible refine LeO.bind ?_ (fun _ => ?_))
      | exact ih0 _ _ _ _
      | exact ih1 _ _ _ _ _ _ _ _ _
      | exact ih2 _ _ _ _ _ _ _ _ _
      | exact vernierref01_Number.mono _ _
      | exact vernierref01_Text.mono _ _ _
      | exact vernierref05_Kind.mono _ _ _
      | exact vernierref06_String.mono _ _ _
      | exact vernierref06_run.mono _ _
      | exact LeO.none _
      | refine LeO.ite ?_ ?_
      | refine LeO.bind ?_ (fun _ => ?_)
def vernierref06_Split.T5 : Bool × List (List Nat × List Nat) := (true, [([], []), ([], []), ([0, 1], [0, 1]), ([2], [2]), ([3], [3]), ([], []), ([5], [5]), ([6], [6]), ([], []), ([8, 2], [8]), ([4, 7, 9], [4, 7, 9]), ([], []), ([11, 10, 9, 0, 1, 2, 3, 4, 5, 6, 7, 8, 9, 10, 11], [10, 11])])
def vernierref06_Split.B5 : List Nat := [0, 0, 3, 7, 15, 0, 32, 96, 0, 263, 1023, 0, 4095]
theorem vernierref06_Split.tab5 : rtab .any (opsOf Try.f12 5) = vernierref06_Split.T5 := by kernel_rfl
theorem vernierref06_Split.bits5 : waitsOk vernierref06_Split.T5.2 vernierref06_Split.B5 = true := by kernel_rfl
set_option maxHeartbeats 8000000 in
set_option maxRecDepth 100000 in
theorem vernierref06_Split.calls (k : Nat) (a0 : Int) (a1 : Int) (r1 : Bool) (r2 : Bool) (r3 : Int) (r4 : Int) (r5 : Int) (r6 : Int) (r7 : Int) (r8 : Int) (r9 : Int) (w : World) (h : vernierref06_Split.f k a0 a1 = some (r1, r2, r3, r4, r5, r6, r7, r8, r9)) :
    Calls Try.prog 12 #[.int .i64 a0, .int .u64 a1] w fun e w' => e = .returned (.tuple #[.agg #[.bool r1, .bool r2, .int .i64 r3, .int .i64 r4, .int .i64 r5, .int .i64 r6, .int .i64 r7, .int .u64 r8], .int .i64 r9]) ∧ Below w.heap.size w w' := by
  have hu25 := Try.underlying25
  have HB := Aside0.mk (Below.refl w.heap.size w)
  have H : ((vernierref05_Kind.f k a0 a1).bind fun bt228 => (if bt228.2 = 0 then (vernierref06_Split.j0 k a0 a1 bt228.2 (bt228.1 != 1)) else (vernierref06_Split.j0 k a0 a1 bt228.2 true))) = some (r1, r2, r3, r4, r5, r6, r7, r8, r9) := h
  clear h
  replace H := Option.bind_eq_some_iff.mp H
  obtain ⟨⟨t228, t229⟩, A30, H⟩ := H
  replace H : (if t229 = 0 then (vernierref06_Split.j0 k a0 a1 t229 (t228 != 1)) else (vernierref06_Split.j0 k a0 a1 t229 true)) = some (r1, r2, r3, r4, r5, r6, r7, r8, r9) := H
  have A3 := Aside0.mk A30
  clear A30
  have HC4 := Aside0.mk H
  clear H
  go_enter Try.func12, Try.ntmps12
  go_upto_region 2 with (first | ((with_reducible refine gD (N := 4) rfl ?_); refine bE3 4 #[.bool false, .bool false, .int .i64 0, .int .i64 0, .int .i64 0, .int .i64 0, .int .i64 0, .int .u64 0] 25 ?hr ?_; (case hr => first | (go_simp; done) | (go_simp; rfl)); intro gb227 hg w5 hbox hb; have n0_ := Aside0.mk (bS3 HB.out hb); have n1_ := Aside0.mk (hbox); have n2_ := Aside0.mk ((bZ3 hg HB.out)); have n3_ := Aside0.mk ((bZ3 hg HB.out)); clear HB; have HB := n0_; have BK227 := n1_; have GW227 := n2_; have GE227 := n3_; clear n0_ n1_ n2_ n3_; clear hb hbox hg) | ((with_reducible refine gC (f := 26) rfl ?_); (with_reducible refine gD (N := 15) rfl ?_); refine goesY_ (some 15) Try.func26 #[.int .i64 a0, .int .u64 a1] ?_; (with_reducible refine (vernierref05_Kind.calls k a0 a1 t228 t229 _ A3.out).mono ?_); rintro e w6 ⟨rfl, hb⟩; refine ⟨_, rfl, ?_⟩; have n0_ := Aside0.mk (bB3 BK227.out hb); have n1_ := Aside0.mk (bS3 HB.out hb); clear BK227; clear HB; have BK227 := n0_; have HB := n1_; clear n0_ n1_; (try clear hb); (try clear hb2); (try clear hk); (try clear hi)))
  (try simp only [Act.put, List.setIfInBounds_toArray, List.set_cons_zero, List.set_cons_succ])
  go_cut [23] (fun v23 wc => ∃ (kq : Nat) (x23_3 : Bool), v23 = .bool x23_3 ∧ Aside0 (vernierref06_Split.j0 kq a0 a1 t229 x23_3 = some (r1, r2, r3, r4, r5, r6, r7, r8, r9)) ∧ Aside0 (kq ≤ k) ∧ Aside0 (wc.heap[gb227]? = some (.cells #[.bool false, .bool false, .int .i64 0, .int .i64 0, .int .i64 0, .int .i64 0, .int .i64 0, .int .u64 0] 25 (0, 0))) ∧ Aside0 (Below w.heap.size w wc))
  case first =>
    have H := HC4.out
    clear HC4
    by_cases c7 : t229 = 0
    · rw [if_pos c7] at H
      have c7b0 : (t229 == 0) = true := beq_iff_eq.mpr c7
      have c7b1 : (t229 != 0) = false := bne_eq_false_iff_eq.mpr c7
      clear c7
      (first | rw [c7b0] | (simp only [i64_w, i32_w]; rw [c7b0]) | skip)
      have H' := Aside0.mk H
      clear H
      go_wp2
      go_meet
      case rel => exact ⟨_, ((t228 != 1)), (by first | rfl | (simp; done) | (simp [*]; done)), H', ⟨by first | omega | exact Nat.le_refl _⟩, ⟨by (with_reducible repeat (first | refine bN ?_ _ | refine bD ?_ | refine bA ?_ _)); exact BK227.out⟩, ⟨by repeat (first | (with_reducible first | exact HB.out | apply pA | apply pN | apply p1 | refine pS ?_ GE227.out) | exact HB.out)⟩⟩
    · rw [if_neg c7] at H
      have c7b0 : (t229 == 0) = false := beq_eq_false_iff_ne.mpr c7
      have c7b1 : (t229 != 0) = true := bne_iff_ne.mpr c7
      (first | rw [c7b0] | (simp only [i64_w, i32_w]; rw [c7b0]) | skip)
      have H' := Aside0.mk H
      clear H
      go_wp2
      go_meet
      case rel => exact ⟨_, (true), (by first | rfl | (simp; done) | (simp [*]; done)), H', ⟨by first | omega | exact Nat.le_refl _⟩, ⟨by (with_reducible repeat (first | refine bN ?_ _ | refine bD ?_ | refine bA ?_ _)); exact BK227.out⟩, ⟨by repeat (first | (with_reducible first | exact HB.out | apply pA | apply pN | apply p1 | refine pS ?_ GE227.out) | exact HB.out)⟩⟩
  case rest =>
    clear HC4
    try clear c1
    try clear c2
    try clear p2
    try clear c7
    try clear c7b0
    try clear c7b1
    obtain ⟨kq, x23_3, rfl, HA, HJ3, BK227, HB⟩ := hcut
    cases kq with
    | zero => exact absurd HA.out (by simp [vernierref06_Split.j0])
    | succ kj3 =>
      have H := HA.out
      clear HA
      simp only [vernierref06_Split.j0] at H
      by_cases c8 : x23_3 = true
      · subst c8
        have H1 : (some (false, false, 0, 0, 0, 0, 0, 0, t229)) = some (r1, r2, r3, r4, r5, r6, r7, r8, r9) := by rw [if_pos rfl] at H; exact H
        clear H
        have H := H1
        clear H1
        simp only [Option.some.injEq, Prod.mk.injEq] at H
        obtain ⟨rfl, rfl, rfl, rfl, rfl, rfl, rfl, rfl, rfl⟩ := H
        have hcz9_0 : wc.cell? ⟨gb227, 0, none⟩ = some (.bool false) := (blk_cell BK227.out 0).trans rfl
        have hcz9_1 : wc.cell? ⟨gb227, 1, none⟩ = some (.bool false) := (blk_cell BK227.out 1).trans rfl
        have hcz9_2 : wc.cell? ⟨gb227, 2, none⟩ = some (.int .i64 0) := (blk_cell BK227.out 2).trans rfl
        have hcz9_3 : wc.cell? ⟨gb227, 3, none⟩ = some (.int .i64 0) := (blk_cell BK227.out 3).trans rfl
        have hcz9_4 : wc.cell? ⟨gb227, 4, none⟩ = some (.int .i64 0) := (blk_cell BK227.out 4).trans rfl
        have hcz9_5 : wc.cell? ⟨gb227, 5, none⟩ = some (.int .i64 0) := (blk_cell BK227.out 5).trans rfl
        have hcz9_6 : wc.cell? ⟨gb227, 6, none⟩ = some (.int .i64 0) := (blk_cell BK227.out 6).trans rfl
        have hcz9_7 : wc.cell? ⟨gb227, 7, none⟩ = some (.int .u64 0) := (blk_cell BK227.out 7).trans rfl
        have hfz9_0 := blk_frozen BK227.out 0
        have hfz9_1 := blk_frozen BK227.out 1
        have hfz9_2 := blk_frozen BK227.out 2
        have hfz9_3 := blk_frozen BK227.out 3
        have hfz9_4 := blk_frozen BK227.out 4
        have hfz9_5 := blk_frozen BK227.out 5
        have hfz9_6 := blk_frozen BK227.out 6
        have hfz9_7 := blk_frozen BK227.out 7
        go_wp2
        refine bodyPost_ret (results_ct rfl _ _ gb227 25 #[.bool false, .bool false, .int .i64 0, .int .i64 0, .int .i64 0, .int .i64 0, .int .i64 0, .int .u64 0] (0, 0) _ rfl (by (with_reducible repeat (first | refine bN ?_ _ | refine bD ?_ | refine bA ?_ _)); refine blk_put (cs := #[.bool false, .bool false, .int .i64 0, .int .i64 0, .int .i64 0, .int .i64 0, .int .i64 0, .int .u64 0]) ?_ 7 _ rfl; (with_reducible repeat (first | refine bN ?_ _ | refine bD ?_ | refine bA ?_ _)); refine blk_put (cs := #[.bool false, .bool false, .int .i64 0, .int .i64 0, .int .i64 0, .int .i64 0, .int .i64 0, .int .u64 0]) ?_ 6 _ rfl; (with_reducible repeat (first | refine bN ?_ _ | refine bD ?_ | refine bA ?_ _)); refine blk_put (cs := #[.bool false, .bool false, .int .i64 0, .int .i64 0, .int .i64 0, .int .i64 0, .int .i64 0, .int .u64 0]) ?_ 5 _ rfl; (with_reducible repeat (first | refine bN ?_ _ | refine bD ?_ | refine bA ?_ _)); refine blk_put (cs := #[.bool false, .bool false, .int .i64 0, .int .i64 0, .int .i64 0, .int .i64 0, .int .i64 0, .int .u64 0]) ?_ 4 _ rfl; (with_reducible repeat (first | refine bN ?_ _ | refine bD ?_ | refine bA ?_ _)); refine blk_put (cs := #[.bool false, .bool false, .int .i64 0, .int .i64 0, .int .i64 0, .int .i64 0, .int .i64 0, .int .u64 0]) ?_ 3 _ rfl; (with_reducible repeat (first | refine bN ?_ _ | refine bD ?_ | refine bA ?_ _)); refine blk_put (cs := #[.bool false, .bool false, .int .i64 0, .int .i64 0, .int .i64 0, .int .i64 0, .int .i64 0, .int .u64 0]) ?_ 2 _ rfl; (with_reducible repeat (first | refine bN ?_ _ | refine bD ?_ | refine bA ?_ _)); refine blk_put (cs := #[.bool false, .bool false, .int .i64 0, .int .i64 0, .int .i64 0, .int .i64 0, .int .i64 0, .int .u64 0]) ?_ 1 _ rfl; (with_reducible repeat (first | refine bN ?_ _ | refine bD ?_ | refine bA ?_ _)); refine blk_put (cs := #[.bool false, .bool false, .int .i64 0, .int .i64 0, .int .i64 0, .int .i64 0, .int .i64 0, .int .u64 0]) ?_ 0 _ rfl; (with_reducible repeat (first | refine bN ?_ _ | refine bD ?_ | refine bA ?_ _)); exact BK227.out) Try.underlying25 rfl (by kernel_rfl)) rfl ?_
        exact ⟨by first | rfl | (simp [errW_none, errW_some] <;> rfl) | (simp [*, errW_none, errW_some] <;> rfl), by repeat (first | (with_reducible first | exact HB.out | apply pA | apply pN | apply p1 | refine pS ?_ GE227.out) | exact HB.out)⟩
      · replace c8 := Bool.eq_false_iff.mpr c8
        subst c8
        have H1 : ((vernierref06_String.f kj3 a0 a1).bind fun t230 => ((vernierref01_Text.f kj3 a1 a0).bind fun t231 => (if 0 < (t231.size : Int) then (if 0 < (t230.size : Int) then ((vernierref06_run.f kj3 t230).bind fun t232 => (if (bt t230 0) = 49 then (vernierref06_Split.j1 kj3 t230 ((bt t231 0) == 49) ((bt t230 0) == 49) t232 (wrap64 (t232 - 1)) 0 0 0 0) else (vernierref06_Split.j1 kj3 t230 ((bt t231 0) == 49) ((bt t230 0) == 49) t232 (wrap64 (-t232)) 0 0 0 0))) else (none)) else (none)))) = some (r1, r2, r3, r4, r5, r6, r7, r8, r9) := by rw [if_neg (show ¬ (false = true) by decide)] at H; exact H
        clear H
        have H := H1
        clear H1
        replace H := Option.bind_eq_some_iff.mp H
        obtain ⟨t230, A100, H⟩ := H
        replace H : ((vernierref01_Text.f kj3 a1 a0).bind fun t231 => (if 0 < (t231.size : Int) then (if 0 < (t230.size : Int) then ((vernierref06_run.f kj3 t230).bind fun t232 => (if (bt t230 0) = 49 then (vernierref06_Split.j1 kj3 t230 ((bt t231 0) == 49) ((bt t230 0) == 49) t232 (wrap64 (t232 - 1)) 0 0 0 0) else (vernierref06_Split.j1 kj3 t230 ((bt t231 0) == 49) ((bt t230 0) == 49) t232 (wrap64 (-t232)) 0 0 0 0))) else (none)) else (none))) = some (r1, r2, r3, r4, r5, r6, r7, r8, r9) := H
        have A10 := Aside0.mk A100
        clear A100
        replace H := Option.bind_eq_some_iff.mp H
        obtain ⟨t231, A110, H⟩ := H
        replace H : (if 0 < (t231.size : Int) then (if 0 < (t230.size : Int) then ((vernierref06_run.f kj3 t230).bind fun t232 => (if (bt t230 0) = 49 then (vernierref06_Split.j1 kj3 t230 ((bt t231 0) == 49) ((bt t230 0) == 49) t232 (wrap64 (t232 - 1)) 0 0 0 0) else (vernierref06_Split.j1 kj3 t230 ((bt t231 0) == 49) ((bt t230 0) == 49) t232 (wrap64 (-t232)) 0 0 0 0))) else (none)) else (none)) = some (r1, r2, r3, r4, r5, r6, r7, r8, r9) := H
        have A11 := Aside0.mk A110
        clear A110
        by_cases c12 : 0 < (t231.size : Int)
        · rw [if_pos c12] at H
          have c12b0 : decide (0 < (t231.size : Int)) = true := decide_eq_true c12
          have c12b1 : decide (0 < t231.size) = true := decide_eq_true (by omega)
          clear c12
          by_cases c14 : 0 < (t230.size : Int)
          · rw [if_pos c14] at H
            have c14b0 : decide (0 < (t230.size : Int)) = true := decide_eq_true c14
            have c14b1 : decide (0 < t230.size) = true := decide_eq_true (by omega)
            clear c14
            replace H := Option.bind_eq_some_iff.mp H
            obtain ⟨t232, A160, H⟩ := H
            replace H : (if (bt t230 0) = 49 then (vernierref06_Split.j1 kj3 t230 ((bt t231 0) == 49) ((bt t230 0) == 49) t232 (wrap64 (t232 - 1)) 0 0 0 0) else (vernierref06_Split.j1 kj3 t230 ((bt t231 0) == 49) ((bt t230 0) == 49) t232 (wrap64 (-t232)) 0 0 0 0)) = some (r1, r2, r3, r4, r5, r6, r7, r8, r9) := H
            have A16 := Aside0.mk A160
            clear A160
            have HC17 := Aside0.mk H
            clear H
            try go_wp2_with (first | ((with_reducible refine gC (f := 27) rfl ?_); (with_reducible refine gD (N := 28) rfl ?_); refine goesY_ (some 28) Try.func27 #[.int .i64 a0, .int .u64 a1] ?_; (with_reducible refine (vernierref06_String.calls kj3 a0 a1 t230 _ A10.out).mono ?_); rintro e w18 ⟨rfl, hb⟩; refine ⟨_, rfl, ?_⟩; have n0_ := Aside0.mk (bB3 BK227.out hb); have n1_ := Aside0.mk (bS3 HB.out hb); clear BK227; clear HB; have BK227 := n0_; have HB := n1_; clear n0_ n1_; (try clear hb); (try clear hb2); (try clear hk); (try clear hi)))
            have n0_ := Aside0.mk (bD BK227.out)
            have n1_ := Aside0.mk (p1 HB.out)
            clear BK227
            clear HB
            have BK227 := n0_
            have HB := n1_
            clear n0_ n1_
            have p15 : 0 ≤ (0 : Int) := (by omega)
            have q15 : 0 < t230.size := (by have : (0 : Int) < (t230.size : Int) := of_decide_eq_true (by first | (with_reducible assumption) | assumption); omega)
            have hx15 : ∀ h : 0 < t230.size, ((t230[0]'h).toNat : Int) = bt t230 0 := bt_at t230 0
            clear p15
            have qi15 : (0 < (t230.size : Int)) = True := eq_true (of_decide_eq_true (by first | (with_reducible assumption) | assumption))
            replace q15 := eq_true q15
            refine start_ (n := 13) (S := fun w' => True) (ds := []) #[false, false, false, false, false, false, false, false, false, false, false, false, false] (by kernel_rfl) rfl rfl trivial (fun hHeld => ?_); refine with_tabW vernierref06_Split.tab5 vernierref06_Split.bits5 (fun HT_ HW_ => ?_)
            generalize w18.drew = w19 at BK227 HB hHeld ⊢
            refine pure_ (i := 0) (N := some 29) (v := ?_) (a' := ?_) #[true, false, false, false, false, false, false, false, false, false, false, false, false] rfl rfl (any_of HT_.out (by kernel_rfl)) (fun _ _ _ h => h) (Or.inl ⟨by rfl, ?_⟩) ?_ ?_
            rotate_left
            · intro w'
              go_simp
              with_reducible rfl
            rotate_left
            · simp only [Act.put, List.setIfInBounds_toArray, List.set_cons_zero, List.set_cons_succ, i64_w, i32_w]
              rfl
            refine pure_ (i := 1) (N := some 30) (v := ?_) (a' := ?_) #[true, true, false, false, false, false, false, false, false, false, false, false, false] rfl rfl (any_of HT_.out (by kernel_rfl)) (fun _ _ _ h => h) (Or.inl ⟨by rfl, ?_⟩) ?_ ?_
            rotate_left
            · intro w'
              go_simp
              with_reducible rfl
            rotate_left
            · simp only [Act.put, List.setIfInBounds_toArray, List.set_cons_zero, List.set_cons_succ, i64_w, i32_w]
              rfl
            refine pure_ (i := 5) (N := some 34) (v := ?_) (a' := ?_) #[true, true, false, false, false, true, false, false, false, false, false, false, false] rfl rfl (any_of HT_.out (by kernel_rfl)) (fun _ _ _ h => h) (Or.inl ⟨by rfl, ?_⟩) ?_ ?_
            rotate_left
            · intro w'
              go_simp
              with_reducible rfl
            rotate_left
            · simp only [Act.put, List.setIfInBounds_toArray, List.set_cons_zero, List.set_cons_succ, i64_w, i32_w]
              rfl
            refine pure_ (i := 8) (N := some 37) (v := ?_) (a' := ?_) #[true, true, false, false, false, true, false, false, true, false, false, false, false] rfl rfl (any_of HT_.out (by kernel_rfl)) (fun _ _ _ h => h) (Or.inl ⟨by rfl, ?_⟩) ?_ ?_
            rotate_left
            · intro w'
              go_simp
              with_reducible rfl
            rotate_left
            · simp only [Act.put, List.setIfInBounds_toArray, List.set_cons_zero, List.set_cons_succ, i64_w, i32_w]
              rfl
            refine take_ (i := 6) (N := some 35) (v := ?_) (a' := ?_) #[true, true, false, false, false, true, true, false, true, false, false, false, false] rfl rfl (take_ofW HT_.out HW_.out (by kernel_rfl)) (fun _ _ _ h => h) (Or.inl ⟨by rfl, ?_⟩) hHeld ?_ ?_
            rotate_left
            · intro w' _
              go_simp
              with_reducible rfl
            rotate_left
            · simp only [Act.put, List.setIfInBounds_toArray, List.set_cons_zero, List.set_cons_succ, i64_w, i32_w]
              rfl
            refine pure_ (i := 7) (N := some 36) (v := ?_) (a' := ?_) #[true, true, false, false, false, true, true, true, true, false, false, false, false] rfl rfl (any_of HT_.out (by kernel_rfl)) (fun _ _ _ h => h) (Or.inl ⟨by rfl, ?_⟩) ?_ ?_
            rotate_left
            · intro w'
              go_simp
              with_reducible rfl
            rotate_left
            · simp only [Act.put, List.setIfInBounds_toArray, List.set_cons_zero, List.set_cons_succ, i64_w, i32_w]
              rfl
            have p13 : 0 ≤ (0 : Int) := (by omega)
            have q13 : 0 < t231.size := (by have : (0 : Int) < (t231.size : Int) := of_decide_eq_true (by first | (with_reducible assumption) | assumption); omega)
            have hx13 : ∀ h : 0 < t231.size, ((t231[0]'h).toNat : Int) = bt t231 0 := bt_at t231 0
            clear p13
            have qi13 : (0 < (t231.size : Int)) = True := eq_true (of_decide_eq_true (by first | (with_reducible assumption) | assumption))
            replace q13 := eq_true q13
            refine join_ (σ := Nat) 1 #[true, true, true, true, true, true, true, true, true, true, true, true, false] (fun s_ => [(31, .string t231), (38, .int .i64 t232), (9, .pointer (some ⟨s_, 0, none⟩)), (32, .int .u8 (bt t231 0)), (33, .bool ((bt t231 0) == 49)), (39, .agg #[.bool ((bt t231 0) == 49), .bool ((bt t230 0) == 49), .int .i64 t232, .int .i64 0, .int .i64 0, .int .i64 0, .int .i64 0, .int .u64 0])]) (fun s_ w' => (w'.heap[gb227]? = some (.cells #[.bool false, .bool false, .int .i64 0, .int .i64 0, .int .i64 0, .int .i64 0, .int .i64 0, .int .u64 0] 25 (0, 0))) ∧ (w'.heap[s_]? = some (.cells #[.bool false, .bool false, .int .i64 0, .int .i64 0, .int .i64 0, .int .i64 0, .int .i64 0, .int .u64 0] 25 (0, 0))) ∧ (w.heap.size ≤ s_) ∧ (w.heap.size ≤ s_) ∧ (gb227 ≠ s_) ∧ (s_ ≠ gb227) ∧ (Below w.heap.size w w')) ?_ ?_
            rotate_left
            · intro hCont
              refine two_ (i := 2) (j := 11) (Ni := some 31) (Nj := some 9) #[true, true, true, false, false, true, true, true, true, false, false, false, false] #[true, true, false, false, false, true, true, true, true, false, false, true, false] rfl rfl rfl rfl (two_of HT_.out (by kernel_rfl)) (by decide) (by decide) (fun K hK => ?_) (fun K hK => ?_)
              · skip
                refine goes_ Try.func28 (by kernel_rfl) rfl #[.int .u64 a1, .int .i64 a0] (by rfl) rfl rfl (by (try simp only [List.map_toArray, List.map_cons, List.map_nil]); first | done | rfl | (simp only [List.length_drop, List.length_take]; rfl)) ?_
                with_reducible refine (vernierref01_Text.calls kj3 a1 a0 t231 _ A11.out).mono ?_
                rintro e w20 ⟨rfl, hb⟩
                refine ⟨_, rfl, ?_⟩
                have n0_ := Aside0.mk (bB3 BK227.out hb)
                have n1_ := Aside0.mk (bS3 HB.out hb)
                clear BK227
                clear HB
                have BK227 := n0_
                have HB := n1_
                clear n0_ n1_
                (try clear hb)
                (try clear hb2)
                (try clear hk)
                (try clear hi)
                refine hK.out _ _ trivial (fun hHeld => ?_)
                clear hK K
                refine norm_ (a' := ?_) ?_ ?_
                rotate_left
                · show Act.put _ (some 31) _ = _
                  simp only [Act.put, List.setIfInBounds_toArray, List.set_cons_zero, List.set_cons_succ, i64_w, i32_w]
                  rfl
                refine take_ (i := 3) (N := some 32) (v := ?_) (a' := ?_) #[true, true, true, true, false, true, true, true, true, false, false, false, false] rfl rfl (take_ofW HT_.out HW_.out (by kernel_rfl)) (fun _ _ _ h => h) (Or.inl ⟨by rfl, ?_⟩) hHeld ?_ ?_
                rotate_left
                · intro w' _
                  go_simp
                  with_reducible rfl
                rotate_left
                · simp only [Act.put, List.setIfInBounds_toArray, List.set_cons_zero, List.set_cons_succ, i64_w, i32_w]
                  rfl
                refine pure_ (i := 4) (N := some 33) (v := ?_) (a' := ?_) #[true, true, true, true, true, true, true, true, true, false, false, false, false] rfl rfl (any_of HT_.out (by kernel_rfl)) (fun _ _ _ h => h) (Or.inl ⟨by rfl, ?_⟩) ?_ ?_
                rotate_left
                · intro w'
                  go_simp
                  with_reducible rfl
                rotate_left
                · simp only [Act.put, List.setIfInBounds_toArray, List.set_cons_zero, List.set_cons_succ, i64_w, i32_w]
                  rfl
                refine two_ (i := 9) (j := 11) (Ni := some 38) (Nj := some 9) #[true, true, true, true, true, true, true, true, true, true, false, false, false] #[true, true, true, true, true, true, true, true, true, false, false, true, false] rfl rfl rfl rfl (two_of HT_.out (by kernel_rfl)) (by decide) (by decide) (fun K hK => ?_) (fun K hK => ?_)
                · skip
                  refine goes_ Try.func29 (by kernel_rfl) rfl #[.string t230] (by rfl) rfl rfl (by (try simp only [List.map_toArray, List.map_cons, List.map_nil]); first | done | rfl | (simp only [List.length_drop, List.length_take]; rfl)) ?_
                  with_reducible refine (vernierref06_run.calls kj3 t230 t232 _ A16.out).mono ?_
                  rintro e w' ⟨rfl, ⟨nd, rfl⟩⟩
                  refine ⟨_, rfl, ?_⟩
                  refine hK.out _ _ trivial (fun hHeld => ?_)
                  clear hK K
                  refine norm_ (a' := ?_) ?_ ?_
                  rotate_left
                  · show Act.put _ (some 38) _ = _
                    simp only [Act.put, List.setIfInBounds_toArray, List.set_cons_zero, List.set_cons_succ, i64_w, i32_w]
                    rfl
                  refine pure_ (i := 10) (N := some 39) (v := ?_) (a' := ?_) #[true, true, true, true, true, true, true, true, true, true, true, false, false] rfl rfl (any_of HT_.out (by kernel_rfl)) (fun _ _ _ h => h) (Or.inl ⟨by rfl, ?_⟩) ?_ ?_
                  rotate_left
                  · intro w'
                    go_simp
                    with_reducible rfl
                  rotate_left
                  · simp only [Act.put, List.setIfInBounds_toArray, List.set_cons_zero, List.set_cons_succ, i64_w, i32_w]
                    rfl
                  refine one_ (i := 11) (N := some 9) #[true, true, true, true, true, true, true, true, true, true, true, true, false] rfl rfl (one_of HT_.out (by kernel_rfl)) (by decide) (fun K hK => ?_)
                  refine box_step ?hg (N := 9) ?hd (cs := #[.bool false, .bool false, .int .i64 0, .int .i64 0, .int .i64 0, .int .i64 0, .int .i64 0, .int .u64 0]) (t := 25) ?hr ?_; (case hd => rfl); (case hg => rfl); (case hr => first | (go_simp; done) | (go_simp; rfl))
                  intro gb233 hg w21 hbox hb
                  have n0_ := Aside0.mk (bB3 BK227.out hb)
                  have n1_ := Aside0.mk (bS3 HB.out hb)
                  have n2_ := Aside0.mk (hbox)
                  have n3_ := Aside0.mk ((bZ3 hg HB.out))
                  have n4_ := Aside0.mk ((bZ3 hg HB.out))
                  have n5_ := Aside0.mk ((bL3 hg BK227.out))
                  have n6_ := Aside0.mk ((bG3 hg BK227.out))
                  clear BK227
                  clear HB
                  have BK227 := n0_
                  have HB := n1_
                  have BK233 := n2_
                  have GW233 := n3_
                  have GE233 := n4_
                  have NB227_233 := n5_
                  have NB233_227 := n6_
                  clear n0_ n1_ n2_ n3_ n4_ n5_ n6_
                  clear hb hbox hg
                  refine hK.out _ _ trivial (fun hHeld => ?_)
                  clear hK K
                  refine norm_ (a' := ?_) ?_ ?_
                  rotate_left
                  · show Act.put _ (some 9) _ = _
                    simp only [Act.put, List.setIfInBounds_toArray, List.set_cons_zero, List.set_cons_succ, i64_w, i32_w]
                    rfl
                  exact norm_ (by simp only [putAll, Act.put, List.setIfInBounds_toArray, List.set_cons_zero, List.set_cons_succ]) (hCont (gb233) _ ⟨(by (with_reducible repeat (first | refine bN ?_ _ | refine bD ?_ | refine bA ?_ _)); exact BK227.out), (by (with_reducible repeat (first | refine bN ?_ _ | refine bD ?_ | refine bA ?_ _)); exact BK233.out), GW233.out, GE233.out, NB227_233.out, NB233_227.out, (by repeat (first | (with_reducible first | exact HB.out | apply pA | apply pN | apply p1 | refine pS ?_ GE227.out | refine pS ?_ GE233.out) | exact HB.out))⟩)
                · skip
                  refine box_step ?hg (N := 9) ?hd (cs := #[.bool false, .bool false, .int .i64 0, .int .i64 0, .int .i64 0, .int .i64 0, .int .i64 0, .int .u64 0]) (t := 25) ?hr ?_; (case hd => rfl); (case hg => rfl); (case hr => first | (go_simp; done) | (go_simp; rfl))
                  intro gb233 hg w21 hbox hb
                  have n0_ := Aside0.mk (bB3 BK227.out hb)
                  have n1_ := Aside0.mk (bS3 HB.out hb)
                  have n2_ := Aside0.mk (hbox)
                  have n3_ := Aside0.mk ((bZ3 hg HB.out))
                  have n4_ := Aside0.mk ((bZ3 hg HB.out))
                  have n5_ := Aside0.mk ((bL3 hg BK227.out))
                  have n6_ := Aside0.mk ((bG3 hg BK227.out))
                  clear BK227
                  clear HB
                  have BK227 := n0_
                  have HB := n1_
                  have BK233 := n2_
                  have GW233 := n3_
                  have GE233 := n4_
                  have NB227_233 := n5_
                  have NB233_227 := n6_
                  clear n0_ n1_ n2_ n3_ n4_ n5_ n6_
                  clear hb hbox hg
                  refine hK.out _ _ trivial (fun hHeld => ?_)
                  clear hK K
                  refine norm_ (a' := ?_) ?_ ?_
                  rotate_left
                  · show Act.put _ (some 9) _ = _
                    simp only [Act.put, List.setIfInBounds_toArray, List.set_cons_zero, List.set_cons_succ, i64_w, i32_w]
                    rfl
                  refine one_ (i := 9) (N := some 38) #[true, true, true, true, true, true, true, true, true, true, false, true, false] rfl rfl (one_of HT_.out (by kernel_rfl)) (by decide) (fun K hK => ?_)
                  refine goes_ Try.func29 (by kernel_rfl) rfl #[.string t230] (by rfl) rfl rfl (by (try simp only [List.map_toArray, List.map_cons, List.map_nil]); first | done | rfl | (simp only [List.length_drop, List.length_take]; rfl)) ?_
                  with_reducible refine (vernierref06_run.calls kj3 t230 t232 _ A16.out).mono ?_
                  rintro e w' ⟨rfl, ⟨nd, rfl⟩⟩
                  refine ⟨_, rfl, ?_⟩
                  refine hK.out _ _ trivial (fun hHeld => ?_)
                  clear hK K
                  refine norm_ (a' := ?_) ?_ ?_
                  rotate_left
                  · show Act.put _ (some 38) _ = _
                    simp only [Act.put, List.setIfInBounds_toArray, List.set_cons_zero, List.set_cons_succ, i64_w, i32_w]
                    rfl
                  refine pure_ (i := 10) (N := some 39) (v := ?_) (a' := ?_) #[true, true, true, true, true, true, true, true, true, true, true, true, false] rfl rfl (any_of HT_.out (by kernel_rfl)) (fun _ _ _ h => h) (Or.inl ⟨by rfl, ?_⟩) ?_ ?_
                  rotate_left
                  · intro w'
                    go_simp
                    with_reducible rfl
                  rotate_left
                  · simp only [Act.put, List.setIfInBounds_toArray, List.set_cons_zero, List.set_cons_succ, i64_w, i32_w]
                    rfl
                  exact norm_ (by simp only [putAll, Act.put, List.setIfInBounds_toArray, List.set_cons_zero, List.set_cons_succ]) (hCont (gb233) _ ⟨(by (with_reducible repeat (first | refine bN ?_ _ | refine bD ?_ | refine bA ?_ _)); exact BK227.out), (by (with_reducible repeat (first | refine bN ?_ _ | refine bD ?_ | refine bA ?_ _)); exact BK233.out), GW233.out, GE233.out, NB227_233.out, NB233_227.out, (by repeat (first | (with_reducible first | exact HB.out | apply pA | apply pN | apply p1 | refine pS ?_ GE227.out | refine pS ?_ GE233.out) | exact HB.out))⟩)
              · skip
                refine box_step ?hg (N := 9) ?hd (cs := #[.bool false, .bool false, .int .i64 0, .int .i64 0, .int .i64 0, .int .i64 0, .int .i64 0, .int .u64 0]) (t := 25) ?hr ?_; (case hd => rfl); (case hg => rfl); (case hr => first | (go_simp; done) | (go_simp; rfl))
                intro gb233 hg w20 hbox hb
                have n0_ := Aside0.mk (bB3 BK227.out hb)
                have n1_ := Aside0.mk (bS3 HB.out hb)
                have n2_ := Aside0.mk (hbox)
                have n3_ := Aside0.mk ((bZ3 hg HB.out))
                have n4_ := Aside0.mk ((bZ3 hg HB.out))
                have n5_ := Aside0.mk ((bL3 hg BK227.out))
                have n6_ := Aside0.mk ((bG3 hg BK227.out))
                clear BK227
                clear HB
                have BK227 := n0_
                have HB := n1_
                have BK233 := n2_
                have GW233 := n3_
                have GE233 := n4_
                have NB227_233 := n5_
                have NB233_227 := n6_
                clear n0_ n1_ n2_ n3_ n4_ n5_ n6_
                clear hb hbox hg
                refine hK.out _ _ trivial (fun hHeld => ?_)
                clear hK K
                refine norm_ (a' := ?_) ?_ ?_
                rotate_left
                · show Act.put _ (some 9) _ = _
                  simp only [Act.put, List.setIfInBounds_toArray, List.set_cons_zero, List.set_cons_succ, i64_w, i32_w]
                  rfl
                refine one_ (i := 2) (N := some 31) #[true, true, true, false, false, true, true, true, true, false, false, true, false] rfl rfl (one_of HT_.out (by kernel_rfl)) (by decide) (fun K hK => ?_)
                refine goes_ Try.func28 (by kernel_rfl) rfl #[.int .u64 a1, .int .i64 a0] (by rfl) rfl rfl (by (try simp only [List.map_toArray, List.map_cons, List.map_nil]); first | done | rfl | (simp only [List.length_drop, List.length_take]; rfl)) ?_
                with_reducible refine (vernierref01_Text.calls kj3 a1 a0 t231 _ A11.out).mono ?_
                rintro e w21 ⟨rfl, hb⟩
                refine ⟨_, rfl, ?_⟩
                have n0_ := Aside0.mk (bB3 BK227.out hb)
                have n1_ := Aside0.mk (bB3 BK233.out hb)
                have n2_ := Aside0.mk (bS3 HB.out hb)
                clear BK227
                clear BK233
                clear HB
                have BK227 := n0_
                have BK233 := n1_
                have HB := n2_
                clear n0_ n1_ n2_
                (try clear hb)
                (try clear hb2)
                (try clear hk)
                (try clear hi)
                refine hK.out _ _ trivial (fun hHeld => ?_)
                clear hK K
                refine norm_ (a' := ?_) ?_ ?_
                rotate_left
                · show Act.put _ (some 31) _ = _
                  simp only [Act.put, List.setIfInBounds_toArray, List.set_cons_zero, List.set_cons_succ, i64_w, i32_w]
                  rfl
                refine take_ (i := 3) (N := some 32) (v := ?_) (a' := ?_) #[true, true, true, true, false, true, true, true, true, false, false, true, false] rfl rfl (take_ofW HT_.out HW_.out (by kernel_rfl)) (fun _ _ _ h => h) (Or.inl ⟨by rfl, ?_⟩) hHeld ?_ ?_
                rotate_left
                · intro w' _
                  go_simp
                  with_reducible rfl
                rotate_left
                · simp only [Act.put, List.setIfInBounds_toArray, List.set_cons_zero, List.set_cons_succ, i64_w, i32_w]
                  rfl
                refine pure_ (i := 4) (N := some 33) (v := ?_) (a' := ?_) #[true, true, true, true, true, true, true, true, true, false, false, true, false] rfl rfl (any_of HT_.out (by kernel_rfl)) (fun _ _ _ h => h) (Or.inl ⟨by rfl, ?_⟩) ?_ ?_
                rotate_left
                · intro w'
                  go_simp
                  with_reducible rfl
                rotate_left
                · simp only [Act.put, List.setIfInBounds_toArray, List.set_cons_zero, List.set_cons_succ, i64_w, i32_w]
                  rfl
                refine one_ (i := 9) (N := some 38) #[true, true, true, true, true, true, true, true, true, true, false, true, false] rfl rfl (one_of HT_.out (by kernel_rfl)) (by decide) (fun K hK => ?_)
                refine goes_ Try.func29 (by kernel_rfl) rfl #[.string t230] (by rfl) rfl rfl (by (try simp only [List.map_toArray, List.map_cons, List.map_nil]); first | done | rfl | (simp only [List.length_drop, List.length_take]; rfl)) ?_
                with_reducible refine (vernierref06_run.calls kj3 t230 t232 _ A16.out).mono ?_
                rintro e w' ⟨rfl, ⟨nd, rfl⟩⟩
                refine ⟨_, rfl, ?_⟩
                refine hK.out _ _ trivial (fun hHeld => ?_)
                clear hK K
                refine norm_ (a' := ?_) ?_ ?_
                rotate_left
                · show Act.put _ (some 38) _ = _
                  simp only [Act.put, List.setIfInBounds_toArray, List.set_cons_zero, List.set_cons_succ, i64_w, i32_w]
                  rfl
                refine pure_ (i := 10) (N := some 39) (v := ?_) (a' := ?_) #[true, true, true, true, true, true, true, true, true, true, true, true, false] rfl rfl (any_of HT_.out (by kernel_rfl)) (fun _ _ _ h => h) (Or.inl ⟨by rfl, ?_⟩) ?_ ?_
                rotate_left
                · intro w'
                  go_simp
                  with_reducible rfl
                rotate_left
                · simp only [Act.put, List.setIfInBounds_toArray, List.set_cons_zero, List.set_cons_succ, i64_w, i32_w]
                  rfl
                exact norm_ (by simp only [putAll, Act.put, List.setIfInBounds_toArray, List.set_cons_zero, List.set_cons_succ]) (hCont (gb233) _ ⟨(by (with_reducible repeat (first | refine bN ?_ _ | refine bD ?_ | refine bA ?_ _)); exact BK227.out), (by (with_reducible repeat (first | refine bN ?_ _ | refine bD ?_ | refine bA ?_ _)); exact BK233.out), GW233.out, GE233.out, NB227_233.out, NB233_227.out, (by repeat (first | (with_reducible first | exact HB.out | apply pA | apply pN | apply p1 | refine pS ?_ GE227.out | refine pS ?_ GE233.out) | exact HB.out))⟩)
            rintro gb233 w22 ⟨h0_, h1_, h2_, h3_, h4_, h5_, h6_⟩
            have n0_ : Aside0 (w22.heap[gb227]? = some (.cells #[.bool false, .bool false, .int .i64 0, .int .i64 0, .int .i64 0, .int .i64 0, .int .i64 0, .int .u64 0] 25 (0, 0))) := ⟨h0_⟩
            have n1_ : Aside0 (w22.heap[gb233]? = some (.cells #[.bool false, .bool false, .int .i64 0, .int .i64 0, .int .i64 0, .int .i64 0, .int .i64 0, .int .u64 0] 25 (0, 0))) := ⟨h1_⟩
            have n2_ : Aside0 (w.heap.size ≤ gb233) := ⟨h2_⟩
            have n3_ : Aside0 (w.heap.size ≤ gb233) := ⟨h3_⟩
            have n4_ : Aside0 (gb227 ≠ gb233) := ⟨h4_⟩
            have n5_ : Aside0 (gb233 ≠ gb227) := ⟨h5_⟩
            have n6_ : Aside0 (Below w.heap.size w w22) := ⟨h6_⟩
            clear BK227
            clear HB
            clear h0_ h1_ h2_ h3_ h4_ h5_ h6_
            have BK227 := n0_
            have BK233 := n1_
            have GW233 := n2_
            have GE233 := n3_
            have NB227_233 := n4_
            have NB233_227 := n5_
            have HB := n6_
            clear n0_ n1_ n2_ n3_ n4_ n5_ n6_
            have hHeld := trivial
            have p13 : 0 ≤ (0 : Int) := (by omega)
            have q13 : 0 < t231.size := (by have : (0 : Int) < (t231.size : Int) := of_decide_eq_true (by first | (with_reducible assumption) | assumption); omega)
            have hx13 : ∀ h : 0 < t231.size, ((t231[0]'h).toNat : Int) = bt t231 0 := bt_at t231 0
            clear p13
            have qi13 : (0 < (t231.size : Int)) = True := eq_true (of_decide_eq_true (by first | (with_reducible assumption) | assumption))
            replace q13 := eq_true q13
            refine norm_ (a' := ?_) ?_ ?_
            rotate_left
            · simp only [putAll, Act.put, List.setIfInBounds_toArray, List.set_cons_zero, List.set_cons_succ]
              rfl
            refine one_ (i := 12) (N := none) #[true, true, true, true, true, true, true, true, true, true, true, true, true] rfl rfl (one_of HT_.out (by kernel_rfl)) (by decide) (fun K hK => ?_)
            have hs23 : w22.cell? ⟨gb233, 0, none⟩ = some (.bool false) := (blk_cell BK233.out 0).trans rfl
            have hfs23 := blk_frozen BK233.out 0
            have hns23_0 := NB227_233.out
            have hms23_0 := NB233_227.out
            have hs24 : w22.cell? ⟨gb233, 1, none⟩ = some (.bool false) := (blk_cell BK233.out 1).trans rfl
            have hfs24 := blk_frozen BK233.out 1
            have hns24_0 := NB227_233.out
            have hms24_0 := NB233_227.out
            have hs25 : w22.cell? ⟨gb233, 2, none⟩ = some (.int .i64 0) := (blk_cell BK233.out 2).trans rfl
            have hfs25 := blk_frozen BK233.out 2
            have hns25_0 := NB227_233.out
            have hms25_0 := NB233_227.out
            have hs26 : w22.cell? ⟨gb233, 3, none⟩ = some (.int .i64 0) := (blk_cell BK233.out 3).trans rfl
            have hfs26 := blk_frozen BK233.out 3
            have hns26_0 := NB227_233.out
            have hms26_0 := NB233_227.out
            have hs27 : w22.cell? ⟨gb233, 4, none⟩ = some (.int .i64 0) := (blk_cell BK233.out 4).trans rfl
            have hfs27 := blk_frozen BK233.out 4
            have hns27_0 := NB227_233.out
            have hms27_0 := NB233_227.out
            have hs28 : w22.cell? ⟨gb233, 5, none⟩ = some (.int .i64 0) := (blk_cell BK233.out 5).trans rfl
            have hfs28 := blk_frozen BK233.out 5
            have hns28_0 := NB227_233.out
            have hms28_0 := NB233_227.out
            have hs29 : w22.cell? ⟨gb233, 6, none⟩ = some (.int .i64 0) := (blk_cell BK233.out 6).trans rfl
            have hfs29 := blk_frozen BK233.out 6
            have hns29_0 := NB227_233.out
            have hms29_0 := NB233_227.out
            have hs30 : w22.cell? ⟨gb233, 7, none⟩ = some (.int .u64 0) := (blk_cell BK233.out 7).trans rfl
            have hfs30 := blk_frozen BK233.out 7
            have hns30_0 := NB227_233.out
            have hms30_0 := NB233_227.out
            refine skip_ (w1 := ?_) (by rfl) rfl ?_ ?_
            rotate_left
            · go_simp
              rfl
            refine hK.out _ _ trivial (fun hHeld => ?_)
            clear hK K
            refine done_ (done_of HT_.out (by kernel_rfl)) ?_
            have hnb31 := NB233_227.out
            have hnc31 := NB227_233.out
            have hcz32_0 : w22.cell? ⟨gb233, 0, none⟩ = some (.bool false) := (blk_cell BK233.out 0).trans rfl
            have hcz32_1 : w22.cell? ⟨gb233, 1, none⟩ = some (.bool false) := (blk_cell BK233.out 1).trans rfl
            have hcz32_2 : w22.cell? ⟨gb233, 2, none⟩ = some (.int .i64 0) := (blk_cell BK233.out 2).trans rfl
            have hcz32_3 : w22.cell? ⟨gb233, 3, none⟩ = some (.int .i64 0) := (blk_cell BK233.out 3).trans rfl
            have hcz32_4 : w22.cell? ⟨gb233, 4, none⟩ = some (.int .i64 0) := (blk_cell BK233.out 4).trans rfl
            have hcz32_5 : w22.cell? ⟨gb233, 5, none⟩ = some (.int .i64 0) := (blk_cell BK233.out 5).trans rfl
            have hcz32_6 : w22.cell? ⟨gb233, 6, none⟩ = some (.int .i64 0) := (blk_cell BK233.out 6).trans rfl
            have hcz32_7 : w22.cell? ⟨gb233, 7, none⟩ = some (.int .u64 0) := (blk_cell BK233.out 7).trans rfl
            have hfz32_0 := blk_frozen BK233.out 0
            have hfz32_1 := blk_frozen BK233.out 1
            have hfz32_2 := blk_frozen BK233.out 2
            have hfz32_3 := blk_frozen BK233.out 3
            have hfz32_4 := blk_frozen BK233.out 4
            have hfz32_5 := blk_frozen BK233.out 5
            have hfz32_6 := blk_frozen BK233.out 6
            have hfz32_7 := blk_frozen BK233.out 7
            go_upto_if 45 with (fail)
            go_cut [] (fun wc => ∃ (kq : Nat) (x234003_16 : Int), Aside0 (vernierref06_Split.j1 kq t230 ((bt t231 0) == 49) ((bt t230 0) == 49) t232 x234003_16 0 0 0 0 = some (r1, r2, r3, r4, r5, r6, r7, r8, r9)) ∧ Aside0 (kq ≤ kj3) ∧ Aside0 (wc.heap[gb227]? = some (.cells #[.bool false, .bool false, .int .i64 0, .int .i64 0, .int .i64 0, .int .i64 0, .int .i64 0, .int .u64 0] 25 (0, 0))) ∧ Aside0 (wc.heap[gb233]? = some (.cells #[.bool ((bt t231 0) == 49), .bool ((bt t230 0) == 49), .int .i64 t232, .int .i64 x234003_16, .int .i64 0, .int .i64 0, .int .i64 0, .int .u64 0] 25 (0, 0))) ∧ Aside0 (Below w.heap.size w wc))
            case first =>
              have H := HC17.out
              clear HC17
              by_cases c33 : (bt t230 0) = 49
              · rw [if_pos c33] at H
                have c33b0 : ((bt t230 0) == 49) = true := beq_iff_eq.mpr c33
                have c33b1 : ((bt t230 0) != 49) = false := bne_eq_false_iff_eq.mpr c33
                clear c33
                (first | rw [c33b0] | (simp only [i64_w, i32_w]; rw [c33b0]) | skip)
                have H' := Aside0.mk H
                clear H
                have hnb34 := NB233_227.out
                have hnc34 := NB227_233.out
                have hcz35_0 : w22.cell? ⟨gb233, 0, none⟩ = some (.bool false) := (blk_cell BK233.out 0).trans rfl
                have hcz35_1 : w22.cell? ⟨gb233, 1, none⟩ = some (.bool false) := (blk_cell BK233.out 1).trans rfl
                have hcz35_2 : w22.cell? ⟨gb233, 2, none⟩ = some (.int .i64 0) := (blk_cell BK233.out 2).trans rfl
                have hcz35_3 : w22.cell? ⟨gb233, 3, none⟩ = some (.int .i64 0) := (blk_cell BK233.out 3).trans rfl
                have hcz35_4 : w22.cell? ⟨gb233, 4, none⟩ = some (.int .i64 0) := (blk_cell BK233.out 4).trans rfl
                have hcz35_5 : w22.cell? ⟨gb233, 5, none⟩ = some (.int .i64 0) := (blk_cell BK233.out 5).trans rfl
                have hcz35_6 : w22.cell? ⟨gb233, 6, none⟩ = some (.int .i64 0) := (blk_cell BK233.out 6).trans rfl
                have hcz35_7 : w22.cell? ⟨gb233, 7, none⟩ = some (.int .u64 0) := (blk_cell BK233.out 7).trans rfl
                have hfz35_0 := blk_frozen BK233.out 0
                have hfz35_1 := blk_frozen BK233.out 1
                have hfz35_2 := blk_frozen BK233.out 2
                have hfz35_3 := blk_frozen BK233.out 3
                have hfz35_4 := blk_frozen BK233.out 4
                have hfz35_5 := blk_frozen BK233.out 5
                have hfz35_6 := blk_frozen BK233.out 6
                have hfz35_7 := blk_frozen BK233.out 7
                apply anewC_ gb233
                · repeat (first | (with_reducible refine bN ?_ _) | (with_reducible refine bD ?_) | (with_reducible refine blk_drewN ?_ _) | (with_reducible refine blk_drew ?_) | (with_reducible apply blk_set) | (with_reducible exact BK233.out))
                intro wz t_ k1_
                have told_ := Aside0.mk t_
                clear t_
                simp only [List.setIfInBounds_toArray, List.set_cons_zero, List.set_cons_succ] at k1_
                have hy1_0 := blk_cellL k1_ 0 _ rfl
                have hy1_1 := blk_cellL k1_ 1 _ rfl
                have hy1_2 := blk_cellL k1_ 2 _ rfl
                have hy1_3 := blk_cellL k1_ 3 _ rfl
                have hy1_4 := blk_cellL k1_ 4 _ rfl
                have hy1_5 := blk_cellL k1_ 5 _ rfl
                have hy1_6 := blk_cellL k1_ 6 _ rfl
                have hy1_7 := blk_cellL k1_ 7 _ rfl
                have hy3_0 := blk_frozen k1_ 0
                have hy3_1 := blk_frozen k1_ 1
                have hy3_2 := blk_frozen k1_ 2
                have hy3_3 := blk_frozen k1_ 3
                have hy3_4 := blk_frozen k1_ 4
                have hy3_5 := blk_frozen k1_ 5
                have hy3_6 := blk_frozen k1_ 6
                have hy3_7 := blk_frozen k1_ 7
                clear k1_
                go_wp2
                have t_ := told_.out
                clear told_
                subst t_
                go_meet
                case rel => exact ⟨_, (wrap64 (t232 - 1)), H', ⟨by have := HJ3.out; first | omega | exact Nat.le_refl _⟩, ⟨by (with_reducible repeat (first | refine bN ?_ _ | refine bD ?_ | refine bA ?_ _)); refine blk_far ?_ NB227_233.out _; (with_reducible repeat (first | refine bN ?_ _ | refine bD ?_ | refine bA ?_ _)); refine blk_far ?_ NB227_233.out _; (with_reducible repeat (first | refine bN ?_ _ | refine bD ?_ | refine bA ?_ _)); refine blk_far ?_ NB227_233.out _; (with_reducible repeat (first | refine bN ?_ _ | refine bD ?_ | refine bA ?_ _)); refine blk_far ?_ NB227_233.out _; (with_reducible repeat (first | refine bN ?_ _ | refine bD ?_ | refine bA ?_ _)); refine blk_far ?_ NB227_233.out _; (with_reducible repeat (first | refine bN ?_ _ | refine bD ?_ | refine bA ?_ _)); refine blk_far ?_ NB227_233.out _; (with_reducible repeat (first | refine bN ?_ _ | refine bD ?_ | refine bA ?_ _)); refine blk_far ?_ NB227_233.out _; (with_reducible repeat (first | refine bN ?_ _ | refine bD ?_ | refine bA ?_ _)); refine blk_far ?_ NB227_233.out _; (with_reducible repeat (first | refine bN ?_ _ | refine bD ?_ | refine bA ?_ _)); refine blk_far ?_ NB227_233.out _; (with_reducible repeat (first | refine bN ?_ _ | refine bD ?_ | refine bA ?_ _)); refine blk_far ?_ NB227_233.out _; (with_reducible repeat (first | refine bN ?_ _ | refine bD ?_ | refine bA ?_ _)); exact BK227.out⟩, ⟨by (with_reducible repeat (first | refine bN ?_ _ | refine bD ?_ | refine bA ?_ _)); refine blk_put (cs := #[.bool ((bt t231 0) == 49), .bool ((bt t230 0) == 49), .int .i64 t232, .int .i64 (wrap64 (-t232)), .int .i64 0, .int .i64 0, .int .i64 0, .int .u64 0]) ?_ 3 _ rfl; (with_reducible repeat (first | refine bN ?_ _ | refine bD ?_ | refine bA ?_ _)); refine blk_put (cs := #[.bool ((bt t231 0) == 49), .bool ((bt t230 0) == 49), .int .i64 t232, .int .i64 0, .int .i64 0, .int .i64 0, .int .i64 0, .int .u64 0]) ?_ 3 _ rfl; (with_reducible repeat (first | refine bN ?_ _ | refine bD ?_ | refine bA ?_ _)); refine blk_put (cs := #[.bool ((bt t231 0) == 49), .bool ((bt t230 0) == 49), .int .i64 t232, .int .i64 0, .int .i64 0, .int .i64 0, .int .i64 0, .int .u64 0]) ?_ 7 _ rfl; (with_reducible repeat (first | refine bN ?_ _ | refine bD ?_ | refine bA ?_ _)); refine blk_put (cs := #[.bool ((bt t231 0) == 49), .bool ((bt t230 0) == 49), .int .i64 t232, .int .i64 0, .int .i64 0, .int .i64 0, .int .i64 0, .int .u64 0]) ?_ 6 _ rfl; (with_reducible repeat (first | refine bN ?_ _ | refine bD ?_ | refine bA ?_ _)); refine blk_put (cs := #[.bool ((bt t231 0) == 49), .bool ((bt t230 0) == 49), .int .i64 t232, .int .i64 0, .int .i64 0, .int .i64 0, .int .i64 0, .int .u64 0]) ?_ 5 _ rfl; (with_reducible repeat (first | refine bN ?_ _ | refine bD ?_ | refine bA ?_ _)); refine blk_put (cs := #[.bool ((bt t231 0) == 49), .bool ((bt t230 0) == 49), .int .i64 t232, .int .i64 0, .int .i64 0, .int .i64 0, .int .i64 0, .int .u64 0]) ?_ 4 _ rfl; (with_reducible repeat (first | refine bN ?_ _ | refine bD ?_ | refine bA ?_ _)); refine blk_put (cs := #[.bool ((bt t231 0) == 49), .bool ((bt t230 0) == 49), .int .i64 t232, .int .i64 0, .int .i64 0, .int .i64 0, .int .i64 0, .int .u64 0]) ?_ 3 _ rfl; (with_reducible repeat (first | refine bN ?_ _ | refine bD ?_ | refine bA ?_ _)); refine blk_put (cs := #[.bool ((bt t231 0) == 49), .bool ((bt t230 0) == 49), .int .i64 0, .int .i64 0, .int .i64 0, .int .i64 0, .int .i64 0, .int .u64 0]) ?_ 2 _ rfl; (with_reducible repeat (first | refine bN ?_ _ | refine bD ?_ | refine bA ?_ _)); refine blk_put (cs := #[.bool ((bt t231 0) == 49), .bool false, .int .i64 0, .int .i64 0, .int .i64 0, .int .i64 0, .int .i64 0, .int .u64 0]) ?_ 1 _ (by first | rfl | (rw [c33b0]; rfl)); (with_reducible repeat (first | refine bN ?_ _ | refine bD ?_ | refine bA ?_ _)); refine blk_put (cs := #[.bool false, .bool false, .int .i64 0, .int .i64 0, .int .i64 0, .int .i64 0, .int .i64 0, .int .u64 0]) ?_ 0 _ rfl; (with_reducible repeat (first | refine bN ?_ _ | refine bD ?_ | refine bA ?_ _)); exact BK233.out⟩, ⟨by repeat (first | (with_reducible first | exact HB.out | apply pA | apply pN | apply p1 | refine pS ?_ GE227.out | refine pS ?_ GE233.out) | exact HB.out)⟩⟩
              · rw [if_neg c33] at H
                have c33b0 : ((bt t230 0) == 49) = false := beq_eq_false_iff_ne.mpr c33
                have c33b1 : ((bt t230 0) != 49) = true := bne_iff_ne.mpr c33
                (first | rw [c33b0] | (simp only [i64_w, i32_w]; rw [c33b0]) | skip)
                have H' := Aside0.mk H
                clear H
                apply anewC_ gb233
                · repeat (first | (with_reducible refine bN ?_ _) | (with_reducible refine bD ?_) | (with_reducible refine blk_drewN ?_ _) | (with_reducible refine blk_drew ?_) | (with_reducible apply blk_set) | (with_reducible exact BK233.out))
                intro wz t_ k1_
                have told_ := Aside0.mk t_
                clear t_
                simp only [List.setIfInBounds_toArray, List.set_cons_zero, List.set_cons_succ] at k1_
                have hy1_0 := blk_cellL k1_ 0 _ rfl
                have hy1_1 := blk_cellL k1_ 1 _ rfl
                have hy1_2 := blk_cellL k1_ 2 _ rfl
                have hy1_3 := blk_cellL k1_ 3 _ rfl
                have hy1_4 := blk_cellL k1_ 4 _ rfl
                have hy1_5 := blk_cellL k1_ 5 _ rfl
                have hy1_6 := blk_cellL k1_ 6 _ rfl
                have hy1_7 := blk_cellL k1_ 7 _ rfl
                have hy3_0 := blk_frozen k1_ 0
                have hy3_1 := blk_frozen k1_ 1
                have hy3_2 := blk_frozen k1_ 2
                have hy3_3 := blk_frozen k1_ 3
                have hy3_4 := blk_frozen k1_ 4
                have hy3_5 := blk_frozen k1_ 5
                have hy3_6 := blk_frozen k1_ 6
                have hy3_7 := blk_frozen k1_ 7
                clear k1_
                go_wp2
                have t_ := told_.out
                clear told_
                subst t_
                go_meet
                case rel => exact ⟨_, (wrap64 (-t232)), H', ⟨by have := HJ3.out; first | omega | exact Nat.le_refl _⟩, ⟨by (with_reducible repeat (first | refine bN ?_ _ | refine bD ?_ | refine bA ?_ _)); refine blk_far ?_ NB227_233.out _; (with_reducible repeat (first | refine bN ?_ _ | refine bD ?_ | refine bA ?_ _)); refine blk_far ?_ NB227_233.out _; (with_reducible repeat (first | refine bN ?_ _ | refine bD ?_ | refine bA ?_ _)); refine blk_far ?_ NB227_233.out _; (with_reducible repeat (first | refine bN ?_ _ | refine bD ?_ | refine bA ?_ _)); refine blk_far ?_ NB227_233.out _; (with_reducible repeat (first | refine bN ?_ _ | refine bD ?_ | refine bA ?_ _)); refine blk_far ?_ NB227_233.out _; (with_reducible repeat (first | refine bN ?_ _ | refine bD ?_ | refine bA ?_ _)); refine blk_far ?_ NB227_233.out _; (with_reducible repeat (first | refine bN ?_ _ | refine bD ?_ | refine bA ?_ _)); refine blk_far ?_ NB227_233.out _; (with_reducible repeat (first | refine bN ?_ _ | refine bD ?_ | refine bA ?_ _)); refine blk_far ?_ NB227_233.out _; (with_reducible repeat (first | refine bN ?_ _ | refine bD ?_ | refine bA ?_ _)); refine blk_far ?_ NB227_233.out _; (with_reducible repeat (first | refine bN ?_ _ | refine bD ?_ | refine bA ?_ _)); exact BK227.out⟩, ⟨by (with_reducible repeat (first | refine bN ?_ _ | refine bD ?_ | refine bA ?_ _)); refine blk_put (cs := #[.bool ((bt t231 0) == 49), .bool ((bt t230 0) == 49), .int .i64 t232, .int .i64 0, .int .i64 0, .int .i64 0, .int .i64 0, .int .u64 0]) ?_ 3 _ rfl; (with_reducible repeat (first | refine bN ?_ _ | refine bD ?_ | refine bA ?_ _)); refine blk_put (cs := #[.bool ((bt t231 0) == 49), .bool ((bt t230 0) == 49), .int .i64 t232, .int .i64 0, .int .i64 0, .int .i64 0, .int .i64 0, .int .u64 0]) ?_ 7 _ rfl; (with_reducible repeat (first | refine bN ?_ _ | refine bD ?_ | refine bA ?_ _)); refine blk_put (cs := #[.bool ((bt t231 0) == 49), .bool ((bt t230 0) == 49), .int .i64 t232, .int .i64 0, .int .i64 0, .int .i64 0, .int .i64 0, .int .u64 0]) ?_ 6 _ rfl; (with_reducible repeat (first | refine bN ?_ _ | refine bD ?_ | refine bA ?_ _)); refine blk_put (cs := #[.bool ((bt t231 0) == 49), .bool ((bt t230 0) == 49), .int .i64 t232, .int .i64 0, .int .i64 0, .int .i64 0, .int .i64 0, .int .u64 0]) ?_ 5 _ rfl; (with_reducible repeat (first | refine bN ?_ _ | refine bD ?_ | refine bA ?_ _)); refine blk_put (cs := #[.bool ((bt t231 0) == 49), .bool ((bt t230 0) == 49), .int .i64 t232, .int .i64 0, .int .i64 0, .int .i64 0, .int .i64 0, .int .u64 0]) ?_ 4 _ rfl; (with_reducible repeat (first | refine bN ?_ _ | refine bD ?_ | refine bA ?_ _)); refine blk_put (cs := #[.bool ((bt t231 0) == 49), .bool ((bt t230 0) == 49), .int .i64 t232, .int .i64 0, .int .i64 0, .int .i64 0, .int .i64 0, .int .u64 0]) ?_ 3 _ rfl; (with_reducible repeat (first | refine bN ?_ _ | refine bD ?_ | refine bA ?_ _)); refine blk_put (cs := #[.bool ((bt t231 0) == 49), .bool ((bt t230 0) == 49), .int .i64 0, .int .i64 0, .int .i64 0, .int .i64 0, .int .i64 0, .int .u64 0]) ?_ 2 _ rfl; (with_reducible repeat (first | refine bN ?_ _ | refine bD ?_ | refine bA ?_ _)); refine blk_put (cs := #[.bool ((bt t231 0) == 49), .bool false, .int .i64 0, .int .i64 0, .int .i64 0, .int .i64 0, .int .i64 0, .int .u64 0]) ?_ 1 _ (by first | rfl | (rw [c33b0]; rfl)); (with_reducible repeat (first | refine bN ?_ _ | refine bD ?_ | refine bA ?_ _)); refine blk_put (cs := #[.bool false, .bool false, .int .i64 0, .int .i64 0, .int .i64 0, .int .i64 0, .int .i64 0, .int .u64 0]) ?_ 0 _ rfl; (with_reducible repeat (first | refine bN ?_ _ | refine bD ?_ | refine bA ?_ _)); exact BK233.out⟩, ⟨by repeat (first | (with_reducible first | exact HB.out | apply pA | apply pN | apply p1 | refine pS ?_ GE227.out | refine pS ?_ GE233.out) | exact HB.out)⟩⟩
            case rest =>
              clear HC17
              try clear c1
              try clear p1
              try clear q1
              try clear hx1
              try clear qi1
              try clear c2
              try clear p2
              try clear c3
              try clear p6
              try clear c7
              try clear c7b0
              try clear c7b1
              try clear c8
              try clear c12
              try clear c12b0
              try clear c12b1
              try clear p13
              try clear q13
              try clear hx13
              try clear qi13
              try clear c14
              try clear c14b0
              try clear c14b1
              try clear p15
              try clear q15
              try clear hx15
              try clear qi15
              try clear c26
              try clear c27
              try clear c28
              try clear c29
              try clear c31
              try clear c33
              try clear c33b0
              try clear c33b1
              try clear c34
              try clear hcz32_0
              try clear hcz32_1
              try clear hcz32_2
              try clear hcz32_3
              try clear hcz32_4
              try clear hcz32_5
              try clear hcz32_6
              try clear hcz32_7
              try clear hcz35_0
              try clear hcz35_1
              try clear hcz35_2
              try clear hcz35_3
              try clear hcz35_4
              try clear hcz35_5
              try clear hcz35_6
              try clear hcz35_7
              try clear hcz9_0
              try clear hcz9_1
              try clear hcz9_2
              try clear hcz9_3
              try clear hcz9_4
              try clear hcz9_5
              try clear hcz9_6
              try clear hcz9_7
              try clear hfz32_0
              try clear hfz32_1
              try clear hfz32_2
              try clear hfz32_3
              try clear hfz32_4
              try clear hfz32_5
              try clear hfz32_6
              try clear hfz32_7
              try clear hfz35_0
              try clear hfz35_1
              try clear hfz35_2
              try clear hfz35_3
              try clear hfz35_4
              try clear hfz35_5
              try clear hfz35_6
              try clear hfz35_7
              try clear hfz9_0
              try clear hfz9_1
              try clear hfz9_2
              try clear hfz9_3
              try clear hfz9_4
              try clear hfz9_5
              try clear hfz9_6
              try clear hfz9_7
              try clear p13
              try clear p15
              try clear p2
              try clear q13
              try clear q15
              obtain ⟨kq, x234003_16, HA, HJ16, BK227, BK233, HB⟩ := hcut
              cases kq with
              | zero => exact absurd HA.out (by simp [vernierref06_Split.j1])
              | succ kj16 =>
                have H := HA.out
                clear HA
                simp only [vernierref06_Split.j1] at H
                have HC36 := Aside0.mk H
                clear H
                have hnb37 := NB233_227.out
                have hnc37 := NB227_233.out
                have hcz38_0 : wc.cell? ⟨gb233, 0, none⟩ = some (.bool ((bt t231 0) == 49)) := (blk_cell BK233.out 0).trans rfl
                have hcz38_1 : wc.cell? ⟨gb233, 1, none⟩ = some (.bool ((bt t230 0) == 49)) := (blk_cell BK233.out 1).trans rfl
                have hcz38_2 : wc.cell? ⟨gb233, 2, none⟩ = some (.int .i64 t232) := (blk_cell BK233.out 2).trans rfl
                have hcz38_3 : wc.cell? ⟨gb233, 3, none⟩ = some (.int .i64 x234003_16) := (blk_cell BK233.out 3).trans rfl
                have hcz38_4 : wc.cell? ⟨gb233, 4, none⟩ = some (.int .i64 0) := (blk_cell BK233.out 4).trans rfl
                have hcz38_5 : wc.cell? ⟨gb233, 5, none⟩ = some (.int .i64 0) := (blk_cell BK233.out 5).trans rfl
                have hcz38_6 : wc.cell? ⟨gb233, 6, none⟩ = some (.int .i64 0) := (blk_cell BK233.out 6).trans rfl
                have hcz38_7 : wc.cell? ⟨gb233, 7, none⟩ = some (.int .u64 0) := (blk_cell BK233.out 7).trans rfl
                have hfz38_0 := blk_frozen BK233.out 0
                have hfz38_1 := blk_frozen BK233.out 1
                have hfz38_2 := blk_frozen BK233.out 2
                have hfz38_3 := blk_frozen BK233.out 3
                have hfz38_4 := blk_frozen BK233.out 4
                have hfz38_5 := blk_frozen BK233.out 5
                have hfz38_6 := blk_frozen BK233.out 6
                have hfz38_7 := blk_frozen BK233.out 7
                go_upto_if 54 with (fail)
                go_cut [10] (fun v10 wc => ∃ (kq : Nat) (x10_35 : ByteArray), v10 = .string x10_35 ∧ Aside0 (vernierref06_Split.j2 kq x10_35 ((bt t231 0) == 49) ((bt t230 0) == 49) t232 x234003_16 0 0 0 0 = some (r1, r2, r3, r4, r5, r6, r7, r8, r9)) ∧ Aside0 (kq ≤ kj16) ∧ Aside0 (wc.heap[gb227]? = some (.cells #[.bool false, .bool false, .int .i64 0, .int .i64 0, .int .i64 0, .int .i64 0, .int .i64 0, .int .u64 0] 25 (0, 0))) ∧ Aside0 (wc.heap[gb233]? = some (.cells #[.bool ((bt t231 0) == 49), .bool ((bt t230 0) == 49), .int .i64 t232, .int .i64 x234003_16, .int .i64 0, .int .i64 0, .int .i64 0, .int .u64 0] 25 (0, 0))) ∧ Aside0 (Below w.heap.size w wc))
                case first =>
                  have H := HC36.out
                  clear HC36
                  by_cases c39 : t232 < (t230.size : Int)
                  · rw [if_pos c39] at H
                    have c39b0 : decide (t232 < (t230.size : Int)) = true := decide_eq_true c39
                    clear c39
                    (first | rw [c39b0] | (simp only [i64_w, i32_w]; rw [c39b0]) | skip)
                    obtain ⟨ji40, hji40⟩ : ∃ j_ : Int, (wrap64 (t232 + 1)) = j_ := ⟨_, rfl⟩
                    replace H : (if 0 ≤ (ji40) then (if (ji40) ≤ (t230.size : Int) then (vernierref06_Split.j2 kj16 (t230.extract ((ji40) : Int).toNat t230.size) ((bt t231 0) == 49) ((bt t230 0) == 49) t232 x234003_16 0 0 0 0) else (none)) else (none)) = some (r1, r2, r3, r4, r5, r6, r7, r8, r9) := by first | (rw [hji40] at H; exact H) | (simp only [hji40] at H ⊢; exact H)
                    have hji40w : (IntKind.i64.wrap (t232 + 1)) = ji40 := (i64_w _).trans hji40
                    by_cases c41 : 0 ≤ (ji40)
                    · rw [if_pos c41] at H
                      have c41b0 := eq_true c41
                      have c41b1 : decide (0 ≤ (ji40)) = true := decide_eq_true c41
                      clear c41
                      by_cases c42 : (ji40) ≤ (t230.size : Int)
                      · rw [if_pos c42] at H
                        have c42b0 := eq_true c42
                        have c42b1 : decide ((ji40) ≤ (t230.size : Int)) = true := decide_eq_true c42
                        clear c42
                        have H' := Aside0.mk H
                        clear H
                        have hnb43 := NB233_227.out
                        have hnc43 := NB227_233.out
                        have hcz44_0 : wc.cell? ⟨gb233, 0, none⟩ = some (.bool ((bt t231 0) == 49)) := (blk_cell BK233.out 0).trans rfl
                        have hcz44_1 : wc.cell? ⟨gb233, 1, none⟩ = some (.bool ((bt t230 0) == 49)) := (blk_cell BK233.out 1).trans rfl
                        have hcz44_2 : wc.cell? ⟨gb233, 2, none⟩ = some (.int .i64 t232) := (blk_cell BK233.out 2).trans rfl
                        have hcz44_3 : wc.cell? ⟨gb233, 3, none⟩ = some (.int .i64 x234003_16) := (blk_cell BK233.out 3).trans rfl
                        have hcz44_4 : wc.cell? ⟨gb233, 4, none⟩ = some (.int .i64 0) := (blk_cell BK233.out 4).trans rfl
                        have hcz44_5 : wc.cell? ⟨gb233, 5, none⟩ = some (.int .i64 0) := (blk_cell BK233.out 5).trans rfl
                        have hcz44_6 : wc.cell? ⟨gb233, 6, none⟩ = some (.int .i64 0) := (blk_cell BK233.out 6).trans rfl
                        have hcz44_7 : wc.cell? ⟨gb233, 7, none⟩ = some (.int .u64 0) := (blk_cell BK233.out 7).trans rfl
                        have hfz44_0 := blk_frozen BK233.out 0
                        have hfz44_1 := blk_frozen BK233.out 1
                        have hfz44_2 := blk_frozen BK233.out 2
                        have hfz44_3 := blk_frozen BK233.out 3
                        have hfz44_4 := blk_frozen BK233.out 4
                        have hfz44_5 := blk_frozen BK233.out 5
                        have hfz44_6 := blk_frozen BK233.out 6
                        have hfz44_7 := blk_frozen BK233.out 7
                        go_wp2
                        go_meet
                        case rel => exact ⟨_, (t230.extract ((ji40) : Int).toNat t230.size), (by first | rfl | (simp; done) | (simp only [← hji40] <;> (first | rfl | simp)) | (simp [*]; done)), H', ⟨by have := HJ3.out; have := HJ16.out; first | omega | exact Nat.le_refl _⟩, ⟨by (with_reducible repeat (first | refine bN ?_ _ | refine bD ?_ | refine bA ?_ _)); exact BK227.out⟩, ⟨by (with_reducible repeat (first | refine bN ?_ _ | refine bD ?_ | refine bA ?_ _)); exact BK233.out⟩, ⟨by repeat (first | (with_reducible first | exact HB.out | apply pA | apply pN | apply p1 | refine pS ?_ GE227.out | refine pS ?_ GE233.out) | exact HB.out)⟩⟩
                      · rw [if_neg c42] at H
                        exact absurd H (by simp)
                    · rw [if_neg c41] at H
                      exact absurd H (by simp)
                  · rw [if_neg c39] at H
                    have c39b0 : decide (t232 < (t230.size : Int)) = false := decide_eq_false c39
                    clear c39
                    (first | rw [c39b0] | (simp only [i64_w, i32_w]; rw [c39b0]) | skip)
                    have H' := Aside0.mk H
                    clear H
                    go_wp2
                    go_meet
                    case rel => exact ⟨_, ((⟨#[]⟩ : ByteArray)), (by first | rfl | (simp; done) | (simp [*]; done)), H', ⟨by have := HJ3.out; have := HJ16.out; first | omega | exact Nat.le_refl _⟩, ⟨by (with_reducible repeat (first | refine bN ?_ _ | refine bD ?_ | refine bA ?_ _)); exact BK227.out⟩, ⟨by (with_reducible repeat (first | refine bN ?_ _ | refine bD ?_ | refine bA ?_ _)); exact BK233.out⟩, ⟨by repeat (first | (with_reducible first | exact HB.out | apply pA | apply pN | apply p1 | refine pS ?_ GE227.out | refine pS ?_ GE233.out) | exact HB.out)⟩⟩
                case rest =>
                  clear HC36
                  try clear c1
                  try clear p1
                  try clear q1
                  try clear hx1
                  try clear qi1
                  try clear c2
                  try clear p2
                  try clear c3
                  try clear c4
                  try clear p6
                  try clear c7
                  try clear c7b0
                  try clear c7b1
                  try clear c8
                  try clear c12
                  try clear c12b0
                  try clear c12b1
                  try clear p13
                  try clear q13
                  try clear hx13
                  try clear qi13
                  try clear c14
                  try clear c14b0
                  try clear c14b1
                  try clear p15
                  try clear q15
                  try clear hx15
                  try clear qi15
                  try clear c26
                  try clear c27
                  try clear c28
                  try clear c29
                  try clear c31
                  try clear c33
                  try clear c33b0
                  try clear c33b1
                  try clear c34
                  try clear c37
                  try clear c39
                  try clear c39b0
                  try clear c41
                  try clear c41b0
                  try clear c41b1
                  try clear c42
                  try clear c42b0
                  try clear c42b1
                  try clear c43
                  try clear hcz32_0
                  try clear hcz32_1
                  try clear hcz32_2
                  try clear hcz32_3
                  try clear hcz32_4
                  try clear hcz32_5
                  try clear hcz32_6
                  try clear hcz32_7
                  try clear hcz35_0
                  try clear hcz35_1
                  try clear hcz35_2
                  try clear hcz35_3
                  try clear hcz35_4
                  try clear hcz35_5
                  try clear hcz35_6
                  try clear hcz35_7
                  try clear hcz38_0
                  try clear hcz38_1
                  try clear hcz38_2
                  try clear hcz38_3
                  try clear hcz38_4
                  try clear hcz38_5
                  try clear hcz38_6
                  try clear hcz38_7
                  try clear hcz44_0
                  try clear hcz44_1
                  try clear hcz44_2
                  try clear hcz44_3
                  try clear hcz44_4
                  try clear hcz44_5
                  try clear hcz44_6
                  try clear hcz44_7
                  try clear hcz9_0
                  try clear hcz9_1
                  try clear hcz9_2
                  try clear hcz9_3
                  try clear hcz9_4
                  try clear hcz9_5
                  try clear hcz9_6
                  try clear hcz9_7
                  try clear hfz32_0
                  try clear hfz32_1
                  try clear hfz32_2
                  try clear hfz32_3
                  try clear hfz32_4
                  try clear hfz32_5
                  try clear hfz32_6
                  try clear hfz32_7
                  try clear hfz35_0
                  try clear hfz35_1
                  try clear hfz35_2
                  try clear hfz35_3
                  try clear hfz35_4
                  try clear hfz35_5
                  try clear hfz35_6
                  try clear hfz35_7
                  try clear hfz38_0
                  try clear hfz38_1
                  try clear hfz38_2
                  try clear hfz38_3
                  try clear hfz38_4
                  try clear hfz38_5
                  try clear hfz38_6
                  try clear hfz38_7
                  try clear hfz44_0
                  try clear hfz44_1
                  try clear hfz44_2
                  try clear hfz44_3
                  try clear hfz44_4
                  try clear hfz44_5
                  try clear hfz44_6
                  try clear hfz44_7
                  try clear hfz9_0
                  try clear hfz9_1
                  try clear hfz9_2
                  try clear hfz9_3
                  try clear hfz9_4
                  try clear hfz9_5
                  try clear hfz9_6
                  try clear hfz9_7
                  try clear p1
                  try clear p13
                  try clear p15
                  try clear p2
                  try clear p6
                  try clear q1
                  try clear q13
                  try clear q15
                  obtain ⟨kq, x10_35, rfl, HA, HJ35, BK227, BK233, HB⟩ := hcut
                  cases kq with
                  | zero => exact absurd HA.out (by simp [vernierref06_Split.j2])
                  | succ kj35 =>
                    have H := HA.out
                    clear HA
                    simp only [vernierref06_Split.j2] at H
                    by_cases c45 : (x10_35.size : Int) > 2
                    · rw [if_pos c45] at H
                      have c45b0 : decide (2 < (x10_35.size : Int)) = true := decide_eq_true c45
                      have c45b1 : decide (2 < x10_35.size) = true := decide_eq_true (by omega)
                      clear c45
                      by_cases c46 : 0 ≤ 2
                      · rw [if_pos c46] at H
                        have c46b0 := eq_true c46
                        have c46b1 : decide (0 ≤ 2) = true := decide_eq_true c46
                        clear c46
                        by_cases c47 : 2 ≤ (x10_35.size : Int)
                        · rw [if_pos c47] at H
                          have c47b0 := eq_true c47
                          have c47b1 : decide (2 ≤ (x10_35.size : Int)) = true := decide_eq_true c47
                          clear c47
                          by_cases c48 : (x10_35.extract 0 2).size + 2 ≤ 9223372036854775807
                          · rw [if_pos c48] at H
                            have c48b0 := eq_true c48
                            have c48b1 : decide ((x10_35.extract 0 2).size + 2 ≤ 9223372036854775807) = true := decide_eq_true c48
                            try have c48b2 : (9223372036854775807 < (x10_35.extract 0 2).size + 2) = False := eq_false (Nat.not_lt.2 c48)
                            have c49b0 := eq_true (of_decide_eq_true (by first | (with_reducible assumption) | assumption) : 0 ≤ 2)
                            by_cases c50 : 2 ≤ (((x10_35.extract 0 2) ++ (⟨#[48, 48]⟩ : ByteArray)).size : Int)
                            · rw [if_pos c50] at H
                              have c50b0 := eq_true c50
                              have c50b1 : decide (2 ≤ (((x10_35.extract 0 2) ++ (⟨#[48, 48]⟩ : ByteArray)).size : Int)) = true := decide_eq_true c50
                              replace H := Option.bind_eq_some_iff.mp H
                              obtain ⟨t234, A510, H⟩ := H
                              replace H : ((vernierref01_Number.f kj35 (x10_35.extract 2 x10_35.size)).bind fun t235 => (some (((bt t231 0) == 49), ((bt t230 0) == 49), t232, x234003_16, 2, wrap64 (t234), wrap64 ((x10_35.size : Int) - 2), t235, 0))) = some (r1, r2, r3, r4, r5, r6, r7, r8, r9) := H
                              have A51 := Aside0.mk A510
                              clear A510
                              have c52b0 := eq_true (of_decide_eq_true (by first | (with_reducible assumption) | assumption) : 2 ≤ (x10_35.size : Int))
                              replace H := Option.bind_eq_some_iff.mp H
                              obtain ⟨t235, A530, H⟩ := H
                              replace H : (some (((bt t231 0) == 49), ((bt t230 0) == 49), t232, x234003_16, 2, wrap64 (t234), wrap64 ((x10_35.size : Int) - 2), t235, 0)) = some (r1, r2, r3, r4, r5, r6, r7, r8, r9) := H
                              have A53 := Aside0.mk A530
                              clear A530
                              simp only [Option.some.injEq, Prod.mk.injEq] at H
                              obtain ⟨rfl, rfl, rfl, rfl, rfl, rfl, rfl, rfl, rfl⟩ := H
                              have hnb54 := NB233_227.out
                              have hnc54 := NB227_233.out
                              have hcz55_0 : wc.cell? ⟨gb233, 0, none⟩ = some (.bool ((bt t231 0) == 49)) := (blk_cell BK233.out 0).trans rfl
                              have hcz55_1 : wc.cell? ⟨gb233, 1, none⟩ = some (.bool ((bt t230 0) == 49)) := (blk_cell BK233.out 1).trans rfl
                              have hcz55_2 : wc.cell? ⟨gb233, 2, none⟩ = some (.int .i64 t232) := (blk_cell BK233.out 2).trans rfl
                              have hcz55_3 : wc.cell? ⟨gb233, 3, none⟩ = some (.int .i64 x234003_16) := (blk_cell BK233.out 3).trans rfl
                              have hcz55_4 : wc.cell? ⟨gb233, 4, none⟩ = some (.int .i64 0) := (blk_cell BK233.out 4).trans rfl
                              have hcz55_5 : wc.cell? ⟨gb233, 5, none⟩ = some (.int .i64 0) := (blk_cell BK233.out 5).trans rfl
                              have hcz55_6 : wc.cell? ⟨gb233, 6, none⟩ = some (.int .i64 0) := (blk_cell BK233.out 6).trans rfl
                              have hcz55_7 : wc.cell? ⟨gb233, 7, none⟩ = some (.int .u64 0) := (blk_cell BK233.out 7).trans rfl
                              have hfz55_0 := blk_frozen BK233.out 0
                              have hfz55_1 := blk_frozen BK233.out 1
                              have hfz55_2 := blk_frozen BK233.out 2
                              have hfz55_3 := blk_frozen BK233.out 3
                              have hfz55_4 := blk_frozen BK233.out 4
                              have hfz55_5 := blk_frozen BK233.out 5
                              have hfz55_6 := blk_frozen BK233.out 6
                              have hfz55_7 := blk_frozen BK233.out 7
                              go_wp2_with (first | ((with_reducible refine gate_dst (N := 89) rfl ?_); refine load_store_ (w0 := w) 89 gb233 gb227 #[.bool ((bt t231 0) == 49), .bool ((bt t230 0) == 49), .int .i64 t232, .int .i64 x234003_16, .int .i64 2, .int .i64 (wrap64 (t234)), .int .i64 (wrap64 ((x10_35.size : Int) - 2)), .int .u64 t235] #[.bool false, .bool false, .int .i64 0, .int .i64 0, .int .i64 0, .int .i64 0, .int .i64 0, .int .u64 0] 25 _ (by repeat (first | (with_reducible refine bN ?_ _) | (with_reducible refine bD ?_) | (with_reducible refine blk_drewN ?_ _) | (with_reducible refine blk_drew ?_) | (with_reducible apply blk_set) | (with_reducible exact BK233.out))) (by repeat (first | (with_reducible refine bN ?_ _) | (with_reducible refine bD ?_) | (with_reducible refine blk_drewN ?_ _) | (with_reducible refine blk_drew ?_) | (with_reducible refine blk_far ?_ NB227_233.out _) | (with_reducible exact BK227.out))) (by repeat (first | (with_reducible first | exact HB.out | apply pA | apply pN | apply p1 | refine pS ?_ GE227.out | refine pS ?_ GE233.out) | exact HB.out)) GE227.out Try.underlying25 (by kernel_rfl) ?_; intro wz kz_ HZ_) | ((with_reducible refine gC (f := 30) rfl ?_); (with_reducible refine gD (N := 74) rfl ?_); refine goesY_ (some 74) Try.func30 #[.string (((x10_35.extract 0 2) ++ (⟨#[48, 48]⟩ : ByteArray)).extract 0 2)] ?_; (with_reducible refine (vernierref01_Number.calls kj35 (((x10_35.extract 0 2) ++ (⟨#[48, 48]⟩ : ByteArray)).extract 0 2) t234 _ A51.out).mono ?_); rintro e w' ⟨rfl, ⟨nd, rfl⟩⟩; refine ⟨_, rfl, ?_⟩) | ((with_reducible refine gC (f := 30) rfl ?_); (with_reducible refine gD (N := 87) rfl ?_); refine goesY_ (some 87) Try.func30 #[.string (x10_35.extract 2 x10_35.size)] ?_; (with_reducible refine (vernierref01_Number.calls kj35 (x10_35.extract 2 x10_35.size) t235 _ A53.out).mono ?_); rintro e w' ⟨rfl, ⟨nd, rfl⟩⟩; refine ⟨_, rfl, ?_⟩; have hcz56_0 : wc.cell? ⟨gb227, 0, none⟩ = some (.bool false) := (blk_cell BK227.out 0).trans rfl; have hcz56_1 : wc.cell? ⟨gb227, 1, none⟩ = some (.bool false) := (blk_cell BK227.out 1).trans rfl; have hcz56_2 : wc.cell? ⟨gb227, 2, none⟩ = some (.int .i64 0) := (blk_cell BK227.out 2).trans rfl; have hcz56_3 : wc.cell? ⟨gb227, 3, none⟩ = some (.int .i64 0) := (blk_cell BK227.out 3).trans rfl; have hcz56_4 : wc.cell? ⟨gb227, 4, none⟩ = some (.int .i64 0) := (blk_cell BK227.out 4).trans rfl; have hcz56_5 : wc.cell? ⟨gb227, 5, none⟩ = some (.int .i64 0) := (blk_cell BK227.out 5).trans rfl; have hcz56_6 : wc.cell? ⟨gb227, 6, none⟩ = some (.int .i64 0) := (blk_cell BK227.out 6).trans rfl; have hcz56_7 : wc.cell? ⟨gb227, 7, none⟩ = some (.int .u64 0) := (blk_cell BK227.out 7).trans rfl; have hfz56_0 := blk_frozen BK227.out 0; have hfz56_1 := blk_frozen BK227.out 1; have hfz56_2 := blk_frozen BK227.out 2; have hfz56_3 := blk_frozen BK227.out 3; have hfz56_4 := blk_frozen BK227.out 4; have hfz56_5 := blk_frozen BK227.out 5; have hfz56_6 := blk_frozen BK227.out 6; have hfz56_7 := blk_frozen BK227.out 7))
                              refine bodyPost_ret (results_ct rfl _ _ gb227 25 #[.bool ((bt t231 0) == 49), .bool ((bt t230 0) == 49), .int .i64 t232, .int .i64 x234003_16, .int .i64 2, .int .i64 (wrap64 (t234)), .int .i64 (wrap64 ((x10_35.size : Int) - 2)), .int .u64 t235] (0, 0) _ rfl kz_ Try.underlying25 rfl (by kernel_rfl)) rfl ?_
                              exact ⟨by first | rfl | (simp [errW_none, errW_some] <;> rfl) | (simp [*, errW_none, errW_some] <;> rfl), HZ_⟩
                            · rw [if_neg c50] at H
                              exact absurd H (by simp)
                          · rw [if_neg c48] at H
                            exact absurd H (by simp)
                        · rw [if_neg c47] at H
                          exact absurd H (by simp)
                      · rw [if_neg c46] at H
                        exact absurd H (by simp)
                    · rw [if_neg c45] at H
                      have c45b0 : decide (2 < (x10_35.size : Int)) = false := decide_eq_false c45
                      have c45b1 : decide (2 < x10_35.size) = false := decide_eq_false (by omega)
                      clear c45
                      by_cases c57 : 0 ≤ (x10_35.size : Int)
                      · rw [if_pos c57] at H
                        have c57b0 := eq_true c57
                        have c57b1 : decide (0 ≤ (x10_35.size : Int)) = true := decide_eq_true c57
                        clear c57
                        by_cases c58 : (x10_35.size : Int) ≤ (x10_35.size : Int)
                        · rw [if_pos c58] at H
                          have c58b0 := eq_true c58
                          have c58b1 : decide ((x10_35.size : Int) ≤ (x10_35.size : Int)) = true := decide_eq_true c58
                          clear c58
                          by_cases c59 : (x10_35.extract 0 ((x10_35.size : Int) : Int).toNat).size + 2 ≤ 9223372036854775807
                          · rw [if_pos c59] at H
                            have c59b0 := eq_true c59
                            have c59b1 : decide ((x10_35.extract 0 ((x10_35.size : Int) : Int).toNat).size + 2 ≤ 9223372036854775807) = true := decide_eq_true c59
                            try have c59b2 : (9223372036854775807 < (x10_35.extract 0 ((x10_35.size : Int) : Int).toNat).size + 2) = False := eq_false (Nat.not_lt.2 c59)
                            by_cases c60 : 0 ≤ 2
                            · rw [if_pos c60] at H
                              have c60b0 := eq_true c60
                              have c60b1 : decide (0 ≤ 2) = true := decide_eq_true c60
                              clear c60
                              by_cases c61 : 2 ≤ (((x10_35.extract 0 ((x10_35.size : Int) : Int).toNat) ++ (⟨#[48, 48]⟩ : ByteArray)).size : Int)
                              · rw [if_pos c61] at H
                                have c61b0 := eq_true c61
                                have c61b1 : decide (2 ≤ (((x10_35.extract 0 ((x10_35.size : Int) : Int).toNat) ++ (⟨#[48, 48]⟩ : ByteArray)).size : Int)) = true := decide_eq_true c61
                                replace H := Option.bind_eq_some_iff.mp H
                                obtain ⟨t236, A620, H⟩ := H
                                replace H : ((vernierref01_Number.f kj35 (x10_35.extract ((x10_35.size : Int) : Int).toNat x10_35.size)).bind fun t237 => (some (((bt t231 0) == 49), ((bt t230 0) == 49), t232, x234003_16, (x10_35.size : Int), wrap64 (t236), wrap64 ((x10_35.size : Int) - (x10_35.size : Int)), t237, 0))) = some (r1, r2, r3, r4, r5, r6, r7, r8, r9) := H
                                have A62 := Aside0.mk A620
                                clear A620
                                have c63b0 := eq_true (of_decide_eq_true (by first | (with_reducible assumption) | assumption) : 0 ≤ (x10_35.size : Int))
                                have c64b0 := eq_true (of_decide_eq_true (by first | (with_reducible assumption) | assumption) : (x10_35.size : Int) ≤ (x10_35.size : Int))
                                replace H := Option.bind_eq_some_iff.mp H
                                obtain ⟨t237, A650, H⟩ := H
                                replace H : (some (((bt t231 0) == 49), ((bt t230 0) == 49), t232, x234003_16, (x10_35.size : Int), wrap64 (t236), wrap64 ((x10_35.size : Int) - (x10_35.size : Int)), t237, 0)) = some (r1, r2, r3, r4, r5, r6, r7, r8, r9) := H
                                have A65 := Aside0.mk A650
                                clear A650
                                simp only [Option.some.injEq, Prod.mk.injEq] at H
                                obtain ⟨rfl, rfl, rfl, rfl, rfl, rfl, rfl, rfl, rfl⟩ := H
                                have hnb66 := NB233_227.out
                                have hnc66 := NB227_233.out
                                have hcz67_0 : wc.cell? ⟨gb233, 0, none⟩ = some (.bool ((bt t231 0) == 49)) := (blk_cell BK233.out 0).trans rfl
                                have hcz67_1 : wc.cell? ⟨gb233, 1, none⟩ = some (.bool ((bt t230 0) == 49)) := (blk_cell BK233.out 1).trans rfl
                                have hcz67_2 : wc.cell? ⟨gb233, 2, none⟩ = some (.int .i64 t232) := (blk_cell BK233.out 2).trans rfl
                                have hcz67_3 : wc.cell? ⟨gb233, 3, none⟩ = some (.int .i64 x234003_16) := (blk_cell BK233.out 3).trans rfl
                                have hcz67_4 : wc.cell? ⟨gb233, 4, none⟩ = some (.int .i64 0) := (blk_cell BK233.out 4).trans rfl
                                have hcz67_5 : wc.cell? ⟨gb233, 5, none⟩ = some (.int .i64 0) := (blk_cell BK233.out 5).trans rfl
                                have hcz67_6 : wc.cell? ⟨gb233, 6, none⟩ = some (.int .i64 0) := (blk_cell BK233.out 6).trans rfl
                                have hcz67_7 : wc.cell? ⟨gb233, 7, none⟩ = some (.int .u64 0) := (blk_cell BK233.out 7).trans rfl
                                have hfz67_0 := blk_frozen BK233.out 0
                                have hfz67_1 := blk_frozen BK233.out 1
                                have hfz67_2 := blk_frozen BK233.out 2
                                have hfz67_3 := blk_frozen BK233.out 3
                                have hfz67_4 := blk_frozen BK233.out 4
                                have hfz67_5 := blk_frozen BK233.out 5
                                have hfz67_6 := blk_frozen BK233.out 6
                                have hfz67_7 := blk_frozen BK233.out 7
                                simp only [show x10_35.extract 0 ((x10_35.size : Int) : Int).toNat = x10_35 by simp, show x10_35.extract ((x10_35.size : Int) : Int).toNat x10_35.size = ByteArray.empty by simp, show wrap64 ((x10_35.size : Int) - (x10_35.size : Int)) = 0 by unfold wrap64; omega] at *
                                go_wp2_with (first | ((with_reducible refine gate_dst (N := 89) rfl ?_); refine load_store_ (w0 := w) 89 gb233 gb227 #[.bool ((bt t231 0) == 49), .bool ((bt t230 0) == 49), .int .i64 t232, .int .i64 x234003_16, .int .i64 (x10_35.size : Int), .int .i64 (wrap64 (t236)), .int .i64 0, .int .u64 t237] #[.bool false, .bool false, .int .i64 0, .int .i64 0, .int .i64 0, .int .i64 0, .int .i64 0, .int .u64 0] 25 _ (by repeat (first | (with_reducible refine bN ?_ _) | (with_reducible refine bD ?_) | (with_reducible refine blk_drewN ?_ _) | (with_reducible refine blk_drew ?_) | (with_reducible apply blk_set) | (with_reducible exact BK233.out))) (by repeat (first | (with_reducible refine bN ?_ _) | (with_reducible refine bD ?_) | (with_reducible refine blk_drewN ?_ _) | (with_reducible refine blk_drew ?_) | (with_reducible refine blk_far ?_ NB227_233.out _) | (with_reducible exact BK227.out))) (by repeat (first | (with_reducible first | exact HB.out | apply pA | apply pN | apply p1 | refine pS ?_ GE227.out | refine pS ?_ GE233.out) | exact HB.out)) GE227.out Try.underlying25 (by kernel_rfl) ?_; intro wz kz_ HZ_) | ((with_reducible refine gC (f := 30) rfl ?_); (with_reducible refine gD (N := 74) rfl ?_); refine goesY_ (some 74) Try.func30 #[.string ((x10_35 ++ (⟨#[48, 48]⟩ : ByteArray)).extract 0 2)] ?_; (with_reducible refine (vernierref01_Number.calls kj35 ((x10_35 ++ (⟨#[48, 48]⟩ : ByteArray)).extract 0 2) t236 _ A62.out).mono ?_); rintro e w' ⟨rfl, ⟨nd, rfl⟩⟩; refine ⟨_, rfl, ?_⟩) | ((with_reducible refine gC (f := 30) rfl ?_); (with_reducible refine gD (N := 87) rfl ?_); refine goesY_ (some 87) Try.func30 #[.string ByteArray.empty] ?_; (with_reducible refine (vernierref01_Number.calls kj35 ByteArray.empty t237 _ A65.out).mono ?_); rintro e w' ⟨rfl, ⟨nd, rfl⟩⟩; refine ⟨_, rfl, ?_⟩; have hcz68_0 : wc.cell? ⟨gb227, 0, none⟩ = some (.bool false) := (blk_cell BK227.out 0).trans rfl; have hcz68_1 : wc.cell? ⟨gb227, 1, none⟩ = some (.bool false) := (blk_cell BK227.out 1).trans rfl; have hcz68_2 : wc.cell? ⟨gb227, 2, none⟩ = some (.int .i64 0) := (blk_cell BK227.out 2).trans rfl; have hcz68_3 : wc.cell? ⟨gb227, 3, none⟩ = some (.int .i64 0) := (blk_cell BK227.out 3).trans rfl; have hcz68_4 : wc.cell? ⟨gb227, 4, none⟩ = some (.int .i64 0) := (blk_cell BK227.out 4).trans rfl; have hcz68_5 : wc.cell? ⟨gb227, 5, none⟩ = some (.int .i64 0) := (blk_cell BK227.out 5).trans rfl; have hcz68_6 : wc.cell? ⟨gb227, 6, none⟩ = some (.int .i64 0) := (blk_cell BK227.out 6).trans rfl; have hcz68_7 : wc.cell? ⟨gb227, 7, none⟩ = some (.int .u64 0) := (blk_cell BK227.out 7).trans rfl; have hfz68_0 := blk_frozen BK227.out 0; have hfz68_1 := blk_frozen BK227.out 1; have hfz68_2 := blk_frozen BK227.out 2; have hfz68_3 := blk_frozen BK227.out 3; have hfz68_4 := blk_frozen BK227.out 4; have hfz68_5 := blk_frozen BK227.out 5; have hfz68_6 := blk_frozen BK227.out 6; have hfz68_7 := blk_frozen BK227.out 7))
                                refine bodyPost_ret (results_ct rfl _ _ gb227 25 #[.bool ((bt t231 0) == 49), .bool ((bt t230 0) == 49), .int .i64 t232, .int .i64 x234003_16, .int .i64 (x10_35.size : Int), .int .i64 (wrap64 (t236)), .int .i64 0, .int .u64 t237] (0, 0) _ rfl kz_ Try.underlying25 rfl (by kernel_rfl)) rfl ?_
                                exact ⟨by first | rfl | (simp [errW_none, errW_some] <;> (unfold wrap64; omega)) | (simp [errW_none, errW_some] <;> rfl) | (simp [*, errW_none, errW_some] <;> rfl), HZ_⟩
                              · rw [if_neg c61] at H
                                exact absurd H (by simp)
                            · rw [if_neg c60] at H
                              exact absurd H (by simp)
                          · rw [if_neg c59] at H
                            exact absurd H (by simp)
                        · rw [if_neg c58] at H
                          exact absurd H (by simp)
                      · rw [if_neg c57] at H
                        exact absurd H (by simp)
          · rw [if_neg c14] at H
            exact absurd H (by simp)
        · rw [if_neg c12] at H
          exact absurd H (by simp)

/-! ### vernierref06_Fold: function 21 -/
def vernierref06_Fold.f (k : Nat) (a0 : Int) (a1 : Int) : Option (Int) := (vernierref05_Fold.f k a0 a1).bind fun bt273 => (some bt273.1)
theorem vernierref06_Fold.mono : ∀ a0 a1 k, LeO (vernierref06_Fold.f k a0 a1) (vernierref06_Fold.f (k + 1) a0 a1) := by
  intro a0 a1 k
  unfold vernierref06_Fold.f
  repeat' first
      | (with_reducible exact vernierref05_Fold.mono _ _ _)
      | (with_reducible exact LeO.refl _)
      | (with_reducible exact LeO.none _)
      | (with_reducible refine LeO.ite ?_ ?_)
      | (with_reducible refine LeO.bind ?_ (fun _ => ?_))
      | exact vernierref05_Fold.mono _ _ _
      | exact LeO.none _
      | refine LeO.ite ?_ ?_
      | refine LeO.bind ?_ (fun _ => ?_)
set_option maxHeartbeats 8000000 in
set_option maxRecDepth 100000 in
theorem vernierref06_Fold.calls (k : Nat) (a0 : Int) (a1 : Int) (r : Int) (w : World) (h : vernierref06_Fold.f k a0 a1 = some r) :
    Calls Try.prog 21 #[.int .i64 a0, .int .u64 a1] w fun e w' => e = .returned (.int .u64 r) ∧ Below w.heap.size w w' := by
  have HB := Aside0.mk (Below.refl w.heap.size w)
  have H : ((vernierref05_Fold.f k a0 a1).bind fun bt273 => (some bt273.1)) = some r := h
  clear h
  replace H := Option.bind_eq_some_iff.mp H
  obtain ⟨⟨t273, t274⟩, A30, H⟩ := H
  replace H : (some t273) = some r := H
  have A3 := Aside0.mk A30
  clear A30
  obtain rfl := Option.some.inj H
  go_enter Try.func21, Try.ntmps21
  go_wp2_with (first | ((with_reducible refine gC (f := 42) rfl ?_); (with_reducible refine gD (N := 10) rfl ?_); refine goesY_ (some 10) Try.func42 #[.int .i64 a0, .int .u64 a1] ?_; (with_reducible refine (vernierref05_Fold.calls k a0 a1 t273 t274 _ A3.out).mono ?_); rintro e w4 ⟨rfl, hb⟩; refine ⟨_, rfl, ?_⟩; have n0_ := Aside0.mk (bS3 HB.out hb); clear HB; have HB := n0_; clear n0_; (try clear hb); (try clear hb2); (try clear hk); (try clear hi)))
  go_ret
  exact ⟨by first | rfl | (simp [errW_none, errW_some] <;> rfl) | (simp [*, errW_none, errW_some] <;> rfl), by repeat (first | (with_reducible first | exact HB.out | apply pA | apply pN | apply p1) | exact HB.out)⟩

/-! ### vernierref06_Neg: function 36 -/
def vernierref06_Neg.f (k : Nat) (a0 : Int) (a1 : Int) : Option (Int) := (vernierref06_Fold.f k a0 (IntKind.u64.wrap (-a1))).bind fun t275 => (some t275)
theorem vernierref06_Neg.mono : ∀ a0 a1 k, LeO (vernierref06_Neg.f k a0 a1) (vernierref06_Neg.f (k + 1) a0 a1) := by
  intro a0 a1 k
  unfold vernierref06_Neg.f
  repeat' first
      | (with_reducible exact vernierref06_Fold.mono _ _ _)
      | (with_reducible exact LeO.refl _)
      | (with_reducible exact LeO.none _)
      | (with_reducible refine LeO.ite ?_ ?_)
      | (with_reducible refine LeO.bind ?_ (fun _ => ?_))
      | exact vernierref06_Fold.mono _ _ _
      | exact LeO.none _
      | refine LeO.ite ?_ ?_
      | refine LeO.bind ?_ (fun _ => ?_)
set_option maxHeartbeats 8000000 in
set_option maxRecDepth 100000 in
theorem vernierref06_Neg.calls (k : Nat) (a0 : Int) (a1 : Int) (r : Int) (w : World) (h : vernierref06_Neg.f k a0 a1 = some r) :
    Calls Try.prog 36 #[.int .i64 a0, .int .u64 a1] w fun e w' => e = .returned (.int .u64 r) ∧ Below w.heap.size w w' := by
  have HB := Aside0.mk (Below.refl w.heap.size w)
  have H : ((vernierref06_Fold.f k a0 (IntKind.u64.wrap (-a1))).bind fun t275 => (some t275)) = some r := h
  clear h
  replace H := Option.bind_eq_some_iff.mp H
  obtain ⟨t275, A30, H⟩ := H
  replace H : (some t275) = some r := H
  have A3 := Aside0.mk A30
  clear A30
  obtain rfl := Option.some.inj H
  go_enter Try.func36, Try.ntmps36
  go_wp2_with (first | ((with_reducible refine gC (f := 21) rfl ?_); (with_reducible refine gD (N := 8) rfl ?_); refine goesY_ (some 8) Try.func21 #[.int .i64 a0, .int .u64 (IntKind.u64.wrap (-a1))] ?_; (with_reducible refine (vernierref06_Fold.calls k a0 (IntKind.u64.wrap (-a1)) t275 _ A3.out).mono ?_); rintro e w4 ⟨rfl, hb⟩; refine ⟨_, rfl, ?_⟩; have n0_ := Aside0.mk (bS3 HB.out hb); clear HB; have HB := n0_; clear n0_; (try clear hb); (try clear hb2); (try clear hk); (try clear hi)))
  go_ret
  exact ⟨by first | rfl | (simp [errW_none, errW_some] <;> rfl) | (simp [*, errW_none, errW_some] <;> rfl), by repeat (first | (with_reducible first | exact HB.out | apply pA | apply pN | apply p1) | exact HB.out)⟩

/-! ### vernierref06_Decodes: function 17 -/
mutual
def vernierref06_Decodes.j0 : Nat → Int → Int → Int → Int → Bool → Option (Int × Bool × Int × Int × Int)
  | 0, _, _, _, _, _ => none
  | k + 1, x0, x1, x6, x7, x23 => if x23 = true then (some (x6, false, 0, 0, x7)) else ((vernierref06_Split.f k x0 x1).bind fun bt311 => ((vernierref01_Text.f k bt311.2.2.2.2.2.2.2.1 bt311.2.2.2.2.2.2.1).bind fun t322 => (if 1 + t322.size ≤ 9223372036854775807 then (vernierref06_Decodes.l0 k ((⟨#[49]⟩ : ByteArray) ++ t322) x6 bt311.1 (wrap64 ((wrap64 (4 * bt311.2.2.2.1)) + bt311.2.2.2.2.2.1)) 0) else (none))))
def vernierref06_Decodes.l0 : Nat → ByteArray → Int → Bool → Int → Int → Option (Int × Bool × Int × Int × Int)
  | 0, _, _, _, _, _ => none
  | k + 1, x11, x322000, x322001, x322002, x322003 => if (x11.size : Int) < 64 then (if x11.size + 1 ≤ 9223372036854775807 then (vernierref06_Decodes.l0 k (x11 ++ (⟨#[48]⟩ : ByteArray)) x322000 x322001 x322002 x322003) else (none)) else ((vernierref01_Number.f k x11).bind fun t323 => (some (x322000, x322001, x322002, t323, 0)))
end
def vernierref06_Decodes.f (k : Nat) (a0 : Int) (a1 : Int) : Option (Int × Bool × Int × Int × Int) := (vernierref05_Kind.f k a0 a1).bind fun bt309 => (if bt309.2 = 0 then (vernierref06_Decodes.j0 k a0 a1 bt309.1 bt309.2 (bt309.1 != 1)) else (vernierref06_Decodes.j0 k a0 a1 bt309.1 bt309.2 true))
theorem vernierref06_Decodes.mono_l : ∀ k, (∀ y0 y1 y2 y3 y4, LeO (vernierref06_Decodes.j0 k y0 y1 y2 y3 y4) (vernierref06_Decodes.j0 (k + 1) y0 y1 y2 y3 y4)) ∧ (∀ y0 y1 y2 y3 y4, LeO (vernierref06_Decodes.l0 k y0 y1 y2 y3 y4) (vernierref06_Decodes.l0 (k + 1) y0 y1 y2 y3 y4))
  | 0 => ⟨fun _ _ _ _ _ r h => by simp [vernierref06_Decodes.j0] at h, fun _ _ _ _ _ r h => by simp [vernierref06_Decodes.l0] at h⟩
  | k + 1 => by
    obtain ⟨ih0, ih1⟩ := vernierref06_Decodes.mono_l k
    refine ⟨?_, ?_⟩
    · intro y0 y1 y2 y3 y4
      unfold vernierref06_Decodes.j0
      repeat' first
      | (with_reducible exact ih0 _ _ _ _ _)
      | (with_reducible exact ih1 _ _ _ _ _)
      | (with_reducible exact vernierref01_Number.mono _ _)
      | (with_reducible exact vernierref01_Text.mono _ _ _)
      | (with_reducible exact vernierref05_Kind.mono _ _ _)
      | (with_reducible exact vernierref06_Split.mono _ _ _)
      | (with_reducible exact LeO.refl _)
      | (with_reducible exact LeO.none _)
      | (with_reducible refine LeO.ite ?_ ?_)
      | (with_reducible refine LeO.bind ?_ (fun _ => ?_))
      | exact ih0 _ _ _ _ _
      | exact ih1 _ _ _ _ _
      | exact vernierref01_Number.mono _ _
      | exact vernierref01_Text.mono _ _ _
      | exact vernierref05_Kind.mono _ _ _
      | exact vernierref06_Split.mono _ _ _
      | exact LeO.none _
      | refine LeO.ite ?_ ?_
      | refine LeO.bind ?_ (fun _ => ?_)
    · intro y0 y1 y2 y3 y4
      unfold vernierref06_Decodes.l0
      repeat' first
      | (with_reducible exact ih0 _ _ _ _ _)
      | (with_reducible exact ih1 _ _ _ _ _)
      | (with_reducible exact vernierref01_Number.mono _ _)
      | (with_reducible exact vernierref01_Text.mono _ _ _)
      | (with_reducible exact vernierref05_Kind.mono _ _ _)
      | (with_reducible exact vernierref06_Split.mono _ _ _)
      | (with_reducible exact LeO.refl _)
      | (with_reducible exact LeO.none _)
      | (with_reducible refine LeO.ite ?_ ?_)
      | (with_reducible refine LeO.bind ?_ (fun _ => ?_))
      | exact ih0 _ _ _ _ _
      | exact ih1 _ _ _ _ _
      | exact vernierref01_Number.mono _ _
      | exact vernierref01_Text.mono _ _ _
      | exact vernierref05_Kind.mono _ _ _
      | exact vernierref06_Split.mono _ _ _
      | exact LeO.none _
      | refine LeO.ite ?_ ?_
      | refine LeO.bind ?_ (fun _ => ?_)
theorem vernierref06_Decodes.mono : ∀ a0 a1 k, LeO (vernierref06_Decodes.f k a0 a1) (vernierref06_Decodes.f (k + 1) a0 a1) := by
  intro a0 a1 k
  obtain ⟨ih0, ih1⟩ := vernierref06_Decodes.mono_l k
  unfold vernierref06_Decodes.f
  repeat' first
      | (with_reducible exact ih0 _ _ _ _ _)
      | (with_reducible exact ih1 _ _ _ _ _)
      | (with_reducible exact vernierref01_Number.mono _ _)
      | (with_reducible exact vernierref01_Text.mono _ _ _)
      | (with_reducible exact vernierref05_Kind.mono _ _ _)
      | (with_reducible exact vernierref06_Split.mono _ _ _)
      | (with_reducible exact LeO.refl _)
      | (with_reducible exact LeO.none _)
      | (with_reducible refine LeO.ite ?_ ?_)
      | (with_reducible refine LeO.bind ?_ (fun _ => ?_))
      | exact ih0 _ _ _ _ _
      | exact ih1 _ _ _ _ _
      | exact vernierref01_Number.mono _ _
      | exact vernierref01_Text.mono _ _ _
      | exact vernierref05_Kind.mono _ _ _
      | exact vernierref06_Split.mono _ _ _
      | exact LeO.none _
      | refine LeO.ite ?_ ?_
      | refine LeO.bind ?_ (fun _ => ?_)
set_option maxHeartbeats 8000000 in
set_option maxRecDepth 100000 in
theorem vernierref06_Decodes.calls (k : Nat) (a0 : Int) (a1 : Int) (r1 : Int) (r2 : Bool) (r3 : Int) (r4 : Int) (r5 : Int) (w : World) (h : vernierref06_Decodes.f k a0 a1 = some (r1, r2, r3, r4, r5)) :
    Calls Try.prog 17 #[.int .i64 a0, .int .u64 a1] w fun e w' => e = .returned (.tuple #[.agg #[.int .i64 r1, .bool r2, .int .i64 r3, .int .u64 r4], .int .i64 r5]) ∧ Below w.heap.size w w' := by
  have hu40 := Try.underlying40
  have hu25 := Try.underlying25
  have HB := Aside0.mk (Below.refl w.heap.size w)
  have H : ((vernierref05_Kind.f k a0 a1).bind fun bt309 => (if bt309.2 = 0 then (vernierref06_Decodes.j0 k a0 a1 bt309.1 bt309.2 (bt309.1 != 1)) else (vernierref06_Decodes.j0 k a0 a1 bt309.1 bt309.2 true))) = some (r1, r2, r3, r4, r5) := h
  clear h
  replace H := Option.bind_eq_some_iff.mp H
  obtain ⟨⟨t309, t310⟩, A30, H⟩ := H
  replace H : (if t310 = 0 then (vernierref06_Decodes.j0 k a0 a1 t309 t310 (t309 != 1)) else (vernierref06_Decodes.j0 k a0 a1 t309 t310 true)) = some (r1, r2, r3, r4, r5) := H
  have A3 := Aside0.mk A30
  clear A30
  have HC4 := Aside0.mk H
  clear H
  go_enter Try.func17, Try.ntmps17
  go_upto_region 2 with (first | ((with_reducible refine gD (N := 4) rfl ?_); refine bE3 4 #[.int .i64 0, .bool false, .int .i64 0, .int .u64 0] 40 ?hr ?_; (case hr => first | (go_simp; done) | (go_simp; rfl)); intro gb308 hg w5 hbox hb; have n0_ := Aside0.mk (bS3 HB.out hb); have n1_ := Aside0.mk (hbox); have n2_ := Aside0.mk ((bZ3 hg HB.out)); have n3_ := Aside0.mk ((bZ3 hg HB.out)); clear HB; have HB := n0_; have BK308 := n1_; have GW308 := n2_; have GE308 := n3_; clear n0_ n1_ n2_ n3_; clear hb hbox hg) | ((with_reducible refine gC (f := 26) rfl ?_); (with_reducible refine gD (N := 15) rfl ?_); refine goesY_ (some 15) Try.func26 #[.int .i64 a0, .int .u64 a1] ?_; (with_reducible refine (vernierref05_Kind.calls k a0 a1 t309 t310 _ A3.out).mono ?_); rintro e w6 ⟨rfl, hb⟩; refine ⟨_, rfl, ?_⟩; have n0_ := Aside0.mk (bB3 BK308.out hb); have n1_ := Aside0.mk (bS3 HB.out hb); clear BK308; clear HB; have BK308 := n0_; have HB := n1_; clear n0_ n1_; (try clear hb); (try clear hb2); (try clear hk); (try clear hi)))
  (try simp only [Act.put, List.setIfInBounds_toArray, List.set_cons_zero, List.set_cons_succ])
  go_cut [23] (fun v23 wc => ∃ (kq : Nat) (x23_3 : Bool), v23 = .bool x23_3 ∧ Aside0 (vernierref06_Decodes.j0 kq a0 a1 t309 t310 x23_3 = some (r1, r2, r3, r4, r5)) ∧ Aside0 (kq ≤ k) ∧ Aside0 (wc.heap[gb308]? = some (.cells #[.int .i64 0, .bool false, .int .i64 0, .int .u64 0] 40 (0, 0))) ∧ Aside0 (Below w.heap.size w wc))
  case first =>
    have H := HC4.out
    clear HC4
    by_cases c7 : t310 = 0
    · rw [if_pos c7] at H
      have c7b0 : (t310 == 0) = true := beq_iff_eq.mpr c7
      have c7b1 : (t310 != 0) = false := bne_eq_false_iff_eq.mpr c7
      clear c7
      (first | rw [c7b0] | (simp only [i64_w, i32_w]; rw [c7b0]) | skip)
      have H' := Aside0.mk H
      clear H
      go_wp2
      go_meet
      case rel => exact ⟨_, ((t309 != 1)), (by first | rfl | (simp; done) | (simp [*]; done)), H', ⟨by first | omega | exact Nat.le_refl _⟩, ⟨by (with_reducible repeat (first | refine bN ?_ _ | refine bD ?_ | refine bA ?_ _)); exact BK308.out⟩, ⟨by repeat (first | (with_reducible first | exact HB.out | apply pA | apply pN | apply p1 | refine pS ?_ GE308.out) | exact HB.out)⟩⟩
    · rw [if_neg c7] at H
      have c7b0 : (t310 == 0) = false := beq_eq_false_iff_ne.mpr c7
      have c7b1 : (t310 != 0) = true := bne_iff_ne.mpr c7
      (first | rw [c7b0] | (simp only [i64_w, i32_w]; rw [c7b0]) | skip)
      have H' := Aside0.mk H
      clear H
      go_wp2
      go_meet
      case rel => exact ⟨_, (true), (by first | rfl | (simp; done) | (simp [*]; done)), H', ⟨by first | omega | exact Nat.le_refl _⟩, ⟨by (with_reducible repeat (first | refine bN ?_ _ | refine bD ?_ | refine bA ?_ _)); exact BK308.out⟩, ⟨by repeat (first | (with_reducible first | exact HB.out | apply pA | apply pN | apply p1 | refine pS ?_ GE308.out) | exact HB.out)⟩⟩
  case rest =>
    clear HC4
    try clear c1
    try clear c2
    try clear p2
    try clear c7
    try clear c7b0
    try clear c7b1
    obtain ⟨kq, x23_3, rfl, HA, HJ3, BK308, HB⟩ := hcut
    cases kq with
    | zero => exact absurd HA.out (by simp [vernierref06_Decodes.j0])
    | succ kj3 =>
      have H := HA.out
      clear HA
      simp only [vernierref06_Decodes.j0] at H
      by_cases c8 : x23_3 = true
      · subst c8
        have H1 : (some (t309, false, 0, 0, t310)) = some (r1, r2, r3, r4, r5) := by rw [if_pos rfl] at H; exact H
        clear H
        have H := H1
        clear H1
        simp only [Option.some.injEq, Prod.mk.injEq] at H
        obtain ⟨rfl, rfl, rfl, rfl, rfl⟩ := H
        have hcz9_0 : wc.cell? ⟨gb308, 0, none⟩ = some (.int .i64 0) := (blk_cell BK308.out 0).trans rfl
        have hcz9_1 : wc.cell? ⟨gb308, 1, none⟩ = some (.bool false) := (blk_cell BK308.out 1).trans rfl
        have hcz9_2 : wc.cell? ⟨gb308, 2, none⟩ = some (.int .i64 0) := (blk_cell BK308.out 2).trans rfl
        have hcz9_3 : wc.cell? ⟨gb308, 3, none⟩ = some (.int .u64 0) := (blk_cell BK308.out 3).trans rfl
        have hfz9_0 := blk_frozen BK308.out 0
        have hfz9_1 := blk_frozen BK308.out 1
        have hfz9_2 := blk_frozen BK308.out 2
        have hfz9_3 := blk_frozen BK308.out 3
        go_wp2
        refine bodyPost_ret (results_ct rfl _ _ gb308 40 #[.int .i64 t309, .bool false, .int .i64 0, .int .u64 0] (0, 0) _ rfl (by (with_reducible repeat (first | refine bN ?_ _ | refine bD ?_ | refine bA ?_ _)); refine blk_put (cs := #[.int .i64 t309, .bool false, .int .i64 0, .int .u64 0]) ?_ 3 _ rfl; (with_reducible repeat (first | refine bN ?_ _ | refine bD ?_ | refine bA ?_ _)); refine blk_put (cs := #[.int .i64 t309, .bool false, .int .i64 0, .int .u64 0]) ?_ 2 _ rfl; (with_reducible repeat (first | refine bN ?_ _ | refine bD ?_ | refine bA ?_ _)); refine blk_put (cs := #[.int .i64 t309, .bool false, .int .i64 0, .int .u64 0]) ?_ 1 _ rfl; (with_reducible repeat (first | refine bN ?_ _ | refine bD ?_ | refine bA ?_ _)); refine blk_put (cs := #[.int .i64 0, .bool false, .int .i64 0, .int .u64 0]) ?_ 0 _ rfl; (with_reducible repeat (first | refine bN ?_ _ | refine bD ?_ | refine bA ?_ _)); exact BK308.out) Try.underlying40 rfl (by kernel_rfl)) rfl ?_
        exact ⟨by first | rfl | (simp [errW_none, errW_some] <;> rfl) | (simp [*, errW_none, errW_some] <;> rfl), by repeat (first | (with_reducible first | exact HB.out | apply pA | apply pN | apply p1 | refine pS ?_ GE308.out) | exact HB.out)⟩
      · replace c8 := Bool.eq_false_iff.mpr c8
        subst c8
        have H1 : ((vernierref06_Split.f kj3 a0 a1).bind fun bt311 => ((vernierref01_Text.f kj3 bt311.2.2.2.2.2.2.2.1 bt311.2.2.2.2.2.2.1).bind fun t322 => (if 1 + t322.size ≤ 9223372036854775807 then (vernierref06_Decodes.l0 kj3 ((⟨#[49]⟩ : ByteArray) ++ t322) t309 bt311.1 (wrap64 ((wrap64 (4 * bt311.2.2.2.1)) + bt311.2.2.2.2.2.1)) 0) else (none)))) = some (r1, r2, r3, r4, r5) := by rw [if_neg (show ¬ (false = true) by decide)] at H; exact H
        clear H
        have H := H1
        clear H1
        replace H := Option.bind_eq_some_iff.mp H
        obtain ⟨⟨t311, t312, t313, t314, t315, t316, t317, t318, t319⟩, A100, H⟩ := H
        replace H : ((vernierref01_Text.f kj3 t318 t317).bind fun t322 => (if 1 + t322.size ≤ 9223372036854775807 then (vernierref06_Decodes.l0 kj3 ((⟨#[49]⟩ : ByteArray) ++ t322) t309 t311 (wrap64 ((wrap64 (4 * t314)) + t316)) 0) else (none))) = some (r1, r2, r3, r4, r5) := H
        have A10 := Aside0.mk A100
        clear A100
        replace H := Option.bind_eq_some_iff.mp H
        obtain ⟨t322, A110, H⟩ := H
        replace H : (if 1 + t322.size ≤ 9223372036854775807 then (vernierref06_Decodes.l0 kj3 ((⟨#[49]⟩ : ByteArray) ++ t322) t309 t311 (wrap64 ((wrap64 (4 * t314)) + t316)) 0) else (none)) = some (r1, r2, r3, r4, r5) := H
        have A11 := Aside0.mk A110
        clear A110
        by_cases c12 : 1 + t322.size ≤ 9223372036854775807
        · rw [if_pos c12] at H
          have c12b0 := eq_true c12
          have c12b1 : decide (1 + t322.size ≤ 9223372036854775807) = true := decide_eq_true c12
          try have c12b2 : (9223372036854775807 < 1 + t322.size) = False := eq_false (Nat.not_lt.2 c12)
          have H' := Aside0.mk H
          clear H
          go_wp2_with (first | ((with_reducible refine gC (f := 12) rfl ?_); (with_reducible refine gD (N := 30) rfl ?_); refine goesY_ (some 30) Try.func12 #[.int .i64 a0, .int .u64 a1] ?_; (with_reducible refine (vernierref06_Split.calls kj3 a0 a1 t311 t312 t313 t314 t315 t316 t317 t318 t319 _ A10.out).mono ?_); rintro e w13 ⟨rfl, hb⟩; refine ⟨_, rfl, ?_⟩; have n0_ := Aside0.mk (bB3 BK308.out hb); have n1_ := Aside0.mk (bS3 HB.out hb); clear BK308; clear HB; have BK308 := n0_; have HB := n1_; clear n0_ n1_; (try clear hb); (try clear hb2); (try clear hk); (try clear hi)) | ((with_reducible refine gD (N := 8) rfl ?_); refine bE3 8 #[.bool false, .bool false, .int .i64 0, .int .i64 0, .int .i64 0, .int .i64 0, .int .i64 0, .int .u64 0] 25 ?hr ?_; (case hr => first | (go_simp; done) | (go_simp; rfl)); intro gb320 hg w14 hbox hb; have n0_ := Aside0.mk (bB3 BK308.out hb); have n1_ := Aside0.mk (bS3 HB.out hb); have n2_ := Aside0.mk (hbox); have n3_ := Aside0.mk ((bZ3 hg HB.out)); have n4_ := Aside0.mk ((bZ3 hg HB.out)); have n5_ := Aside0.mk ((bL3 hg BK308.out)); have n6_ := Aside0.mk ((bG3 hg BK308.out)); clear BK308; clear HB; have BK308 := n0_; have HB := n1_; have BK320 := n2_; have GW320 := n3_; have GE320 := n4_; have NB308_320 := n5_; have NB320_308 := n6_; clear n0_ n1_ n2_ n3_ n4_ n5_ n6_; clear hb hbox hg; have hnb15 := NB320_308.out; have hnc15 := NB308_320.out; have hcz16_0 : w14.cell? ⟨gb320, 0, none⟩ = some (.bool false) := (blk_cell BK320.out 0).trans rfl; have hcz16_1 : w14.cell? ⟨gb320, 1, none⟩ = some (.bool false) := (blk_cell BK320.out 1).trans rfl; have hcz16_2 : w14.cell? ⟨gb320, 2, none⟩ = some (.int .i64 0) := (blk_cell BK320.out 2).trans rfl; have hcz16_3 : w14.cell? ⟨gb320, 3, none⟩ = some (.int .i64 0) := (blk_cell BK320.out 3).trans rfl; have hcz16_4 : w14.cell? ⟨gb320, 4, none⟩ = some (.int .i64 0) := (blk_cell BK320.out 4).trans rfl; have hcz16_5 : w14.cell? ⟨gb320, 5, none⟩ = some (.int .i64 0) := (blk_cell BK320.out 5).trans rfl; have hcz16_6 : w14.cell? ⟨gb320, 6, none⟩ = some (.int .i64 0) := (blk_cell BK320.out 6).trans rfl; have hcz16_7 : w14.cell? ⟨gb320, 7, none⟩ = some (.int .u64 0) := (blk_cell BK320.out 7).trans rfl; have hfz16_0 := blk_frozen BK320.out 0; have hfz16_1 := blk_frozen BK320.out 1; have hfz16_2 := blk_frozen BK320.out 2; have hfz16_3 := blk_frozen BK320.out 3; have hfz16_4 := blk_frozen BK320.out 4; have hfz16_5 := blk_frozen BK320.out 5; have hfz16_6 := blk_frozen BK320.out 6; have hfz16_7 := blk_frozen BK320.out 7) | ((with_reducible refine gD (N := 10) rfl ?_); refine bE3 10 #[.int .i64 0, .bool false, .int .i64 0, .int .u64 0] 40 ?hr ?_; (case hr => first | (go_simp; done) | (go_simp; rfl)); intro gb321 hg w17 hbox hb; have n0_ := Aside0.mk (bB (g := gb308) (o := .cells #[.int .i64 0, .bool false, .int .i64 0, .int .u64 0] 40 (0, 0)) (by (with_reducible repeat (first | refine bN ?_ _ | refine bD ?_ | refine bA ?_ _)); refine blk_far ?_ NB308_320.out _; (with_reducible repeat (first | refine bN ?_ _ | refine bD ?_ | refine bA ?_ _)); refine blk_far ?_ NB308_320.out _; (with_reducible repeat (first | refine bN ?_ _ | refine bD ?_ | refine bA ?_ _)); refine blk_far ?_ NB308_320.out _; (with_reducible repeat (first | refine bN ?_ _ | refine bD ?_ | refine bA ?_ _)); refine blk_far ?_ NB308_320.out _; (with_reducible repeat (first | refine bN ?_ _ | refine bD ?_ | refine bA ?_ _)); refine blk_far ?_ NB308_320.out _; (with_reducible repeat (first | refine bN ?_ _ | refine bD ?_ | refine bA ?_ _)); refine blk_far ?_ NB308_320.out _; (with_reducible repeat (first | refine bN ?_ _ | refine bD ?_ | refine bA ?_ _)); refine blk_far ?_ NB308_320.out _; (with_reducible repeat (first | refine bN ?_ _ | refine bD ?_ | refine bA ?_ _)); refine blk_far ?_ NB308_320.out _; (with_reducible repeat (first | refine bN ?_ _ | refine bD ?_ | refine bA ?_ _)); exact BK308.out) hb); have n1_ := Aside0.mk (bB (g := gb320) (o := .cells #[.bool t311, .bool t312, .int .i64 t313, .int .i64 t314, .int .i64 t315, .int .i64 t316, .int .i64 t317, .int .u64 t318] 25 (0, 0)) (by (with_reducible repeat (first | refine bN ?_ _ | refine bD ?_ | refine bA ?_ _)); refine blk_put (cs := #[.bool t311, .bool t312, .int .i64 t313, .int .i64 t314, .int .i64 t315, .int .i64 t316, .int .i64 t317, .int .u64 0]) ?_ 7 _ rfl; (with_reducible repeat (first | refine bN ?_ _ | refine bD ?_ | refine bA ?_ _)); refine blk_put (cs := #[.bool t311, .bool t312, .int .i64 t313, .int .i64 t314, .int .i64 t315, .int .i64 t316, .int .i64 0, .int .u64 0]) ?_ 6 _ rfl; (with_reducible repeat (first | refine bN ?_ _ | refine bD ?_ | refine bA ?_ _)); refine blk_put (cs := #[.bool t311, .bool t312, .int .i64 t313, .int .i64 t314, .int .i64 t315, .int .i64 0, .int .i64 0, .int .u64 0]) ?_ 5 _ rfl; (with_reducible repeat (first | refine bN ?_ _ | refine bD ?_ | refine bA ?_ _)); refine blk_put (cs := #[.bool t311, .bool t312, .int .i64 t313, .int .i64 t314, .int .i64 0, .int .i64 0, .int .i64 0, .int .u64 0]) ?_ 4 _ rfl; (with_reducible repeat (first | refine bN ?_ _ | refine bD ?_ | refine bA ?_ _)); refine blk_put (cs := #[.bool t311, .bool t312, .int .i64 t313, .int .i64 0, .int .i64 0, .int .i64 0, .int .i64 0, .int .u64 0]) ?_ 3 _ rfl; (with_reducible repeat (first | refine bN ?_ _ | refine bD ?_ | refine bA ?_ _)); refine blk_put (cs := #[.bool t311, .bool t312, .int .i64 0, .int .i64 0, .int .i64 0, .int .i64 0, .int .i64 0, .int .u64 0]) ?_ 2 _ rfl; (with_reducible repeat (first | refine bN ?_ _ | refine bD ?_ | refine bA ?_ _)); refine blk_put (cs := #[.bool t311, .bool false, .int .i64 0, .int .i64 0, .int .i64 0, .int .i64 0, .int .i64 0, .int .u64 0]) ?_ 1 _ rfl; (with_reducible repeat (first | refine bN ?_ _ | refine bD ?_ | refine bA ?_ _)); refine blk_put (cs := #[.bool false, .bool false, .int .i64 0, .int .i64 0, .int .i64 0, .int .i64 0, .int .i64 0, .int .u64 0]) ?_ 0 _ rfl; (with_reducible repeat (first | refine bN ?_ _ | refine bD ?_ | refine bA ?_ _)); exact BK320.out) hb); have n2_ := Aside0.mk (bS3 HB.out hb); have n3_ := Aside0.mk (hbox); have n4_ := Aside0.mk ((bZ3 hg HB.out)); have n5_ := Aside0.mk ((bZ3 hg HB.out)); have n6_ := Aside0.mk ((by rw [hg]; exact Nat.ne_of_lt (bL (g := gb308) (o := .cells #[.int .i64 0, .bool false, .int .i64 0, .int .u64 0] 40 (0, 0)) (by (with_reducible repeat (first | refine bN ?_ _ | refine bD ?_ | refine bA ?_ _)); refine blk_far ?_ NB308_320.out _; (with_reducible repeat (first | refine bN ?_ _ | refine bD ?_ | refine bA ?_ _)); refine blk_far ?_ NB308_320.out _; (with_reducible repeat (first | refine bN ?_ _ | refine bD ?_ | refine bA ?_ _)); refine blk_far ?_ NB308_320.out _; (with_reducible repeat (first | refine bN ?_ _ | refine bD ?_ | refine bA ?_ _)); refine blk_far ?_ NB308_320.out _; (with_reducible repeat (first | refine bN ?_ _ | refine bD ?_ | refine bA ?_ _)); refine blk_far ?_ NB308_320.out _; (with_reducible repeat (first | refine bN ?_ _ | refine bD ?_ | refine bA ?_ _)); refine blk_far ?_ NB308_320.out _; (with_reducible repeat (first | refine bN ?_ _ | refine bD ?_ | refine bA ?_ _)); refine blk_far ?_ NB308_320.out _; (with_reducible repeat (first | refine bN ?_ _ | refine bD ?_ | refine bA ?_ _)); refine blk_far ?_ NB308_320.out _; (with_reducible repeat (first | refine bN ?_ _ | refine bD ?_ | refine bA ?_ _)); exact BK308.out)) : gb308 ≠ gb321)); have n7_ := Aside0.mk ((by rw [hg]; exact Nat.ne_of_gt (bL (g := gb308) (o := .cells #[.int .i64 0, .bool false, .int .i64 0, .int .u64 0] 40 (0, 0)) (by (with_reducible repeat (first | refine bN ?_ _ | refine bD ?_ | refine bA ?_ _)); refine blk_far ?_ NB308_320.out _; (with_reducible repeat (first | refine bN ?_ _ | refine bD ?_ | refine bA ?_ _)); refine blk_far ?_ NB308_320.out _; (with_reducible repeat (first | refine bN ?_ _ | refine bD ?_ | refine bA ?_ _)); refine blk_far ?_ NB308_320.out _; (with_reducible repeat (first | refine bN ?_ _ | refine bD ?_ | refine bA ?_ _)); refine blk_far ?_ NB308_320.out _; (with_reducible repeat (first | refine bN ?_ _ | refine bD ?_ | refine bA ?_ _)); refine blk_far ?_ NB308_320.out _; (with_reducible repeat (first | refine bN ?_ _ | refine bD ?_ | refine bA ?_ _)); refine blk_far ?_ NB308_320.out _; (with_reducible repeat (first | refine bN ?_ _ | refine bD ?_ | refine bA ?_ _)); refine blk_far ?_ NB308_320.out _; (with_reducible repeat (first | refine bN ?_ _ | refine bD ?_ | refine bA ?_ _)); refine blk_far ?_ NB308_320.out _; (with_reducible repeat (first | refine bN ?_ _ | refine bD ?_ | refine bA ?_ _)); exact BK308.out)) : gb321 ≠ gb308)); have n8_ := Aside0.mk ((by rw [hg]; exact Nat.ne_of_lt (bL (g := gb320) (o := .cells #[.bool t311, .bool t312, .int .i64 t313, .int .i64 t314, .int .i64 t315, .int .i64 t316, .int .i64 t317, .int .u64 t318] 25 (0, 0)) (by (with_reducible repeat (first | refine bN ?_ _ | refine bD ?_ | refine bA ?_ _)); refine blk_put (cs := #[.bool t311, .bool t312, .int .i64 t313, .int .i64 t314, .int .i64 t315, .int .i64 t316, .int .i64 t317, .int .u64 0]) ?_ 7 _ rfl; (with_reducible repeat (first | refine bN ?_ _ | refine bD ?_ | refine bA ?_ _)); refine blk_put (cs := #[.bool t311, .bool t312, .int .i64 t313, .int .i64 t314, .int .i64 t315, .int .i64 t316, .int .i64 0, .int .u64 0]) ?_ 6 _ rfl; (with_reducible repeat (first | refine bN ?_ _ | refine bD ?_ | refine bA ?_ _)); refine blk_put (cs := #[.bool t311, .bool t312, .int .i64 t313, .int .i64 t314, .int .i64 t315, .int .i64 0, .int .i64 0, .int .u64 0]) ?_ 5 _ rfl; (with_reducible repeat (first | refine bN ?_ _ | refine bD ?_ | refine bA ?_ _)); refine blk_put (cs := #[.bool t311, .bool t312, .int .i64 t313, .int .i64 t314, .int .i64 0, .int .i64 0, .int .i64 0, .int .u64 0]) ?_ 4 _ rfl; (with_reducible repeat (first | refine bN ?_ _ | refine bD ?_ | refine bA ?_ _)); refine blk_put (cs := #[.bool t311, .bool t312, .int .i64 t313, .int .i64 0, .int .i64 0, .int .i64 0, .int .i64 0, .int .u64 0]) ?_ 3 _ rfl; (with_reducible repeat (first | refine bN ?_ _ | refine bD ?_ | refine bA ?_ _)); refine blk_put (cs := #[.bool t311, .bool t312, .int .i64 0, .int .i64 0, .int .i64 0, .int .i64 0, .int .i64 0, .int .u64 0]) ?_ 2 _ rfl; (with_reducible repeat (first | refine bN ?_ _ | refine bD ?_ | refine bA ?_ _)); refine blk_put (cs := #[.bool t311, .bool false, .int .i64 0, .int .i64 0, .int .i64 0, .int .i64 0, .int .i64 0, .int .u64 0]) ?_ 1 _ rfl; (with_reducible repeat (first | refine bN ?_ _ | refine bD ?_ | refine bA ?_ _)); refine blk_put (cs := #[.bool false, .bool false, .int .i64 0, .int .i64 0, .int .i64 0, .int .i64 0, .int .i64 0, .int .u64 0]) ?_ 0 _ rfl; (with_reducible repeat (first | refine bN ?_ _ | refine bD ?_ | refine bA ?_ _)); exact BK320.out)) : gb320 ≠ gb321)); have n9_ := Aside0.mk ((by rw [hg]; exact Nat.ne_of_gt (bL (g := gb320) (o := .cells #[.bool t311, .bool t312, .int .i64 t313, .int .i64 t314, .int .i64 t315, .int .i64 t316, .int .i64 t317, .int .u64 t318] 25 (0, 0)) (by (with_reducible repeat (first | refine bN ?_ _ | refine bD ?_ | refine bA ?_ _)); refine blk_put (cs := #[.bool t311, .bool t312, .int .i64 t313, .int .i64 t314, .int .i64 t315, .int .i64 t316, .int .i64 t317, .int .u64 0]) ?_ 7 _ rfl; (with_reducible repeat (first | refine bN ?_ _ | refine bD ?_ | refine bA ?_ _)); refine blk_put (cs := #[.bool t311, .bool t312, .int .i64 t313, .int .i64 t314, .int .i64 t315, .int .i64 t316, .int .i64 0, .int .u64 0]) ?_ 6 _ rfl; (with_reducible repeat (first | refine bN ?_ _ | refine bD ?_ | refine bA ?_ _)); refine blk_put (cs := #[.bool t311, .bool t312, .int .i64 t313, .int .i64 t314, .int .i64 t315, .int .i64 0, .int .i64 0, .int .u64 0]) ?_ 5 _ rfl; (with_reducible repeat (first | refine bN ?_ _ | refine bD ?_ | refine bA ?_ _)); refine blk_put (cs := #[.bool t311, .bool t312, .int .i64 t313, .int .i64 t314, .int .i64 0, .int .i64 0, .int .i64 0, .int .u64 0]) ?_ 4 _ rfl; (with_reducible repeat (first | refine bN ?_ _ | refine bD ?_ | refine bA ?_ _)); refine blk_put (cs := #[.bool t311, .bool t312, .int .i64 t313, .int .i64 0, .int .i64 0, .int .i64 0, .int .i64 0, .int .u64 0]) ?_ 3 _ rfl; (with_reducible repeat (first | refine bN ?_ _ | refine bD ?_ | refine bA ?_ _)); refine blk_put (cs := #[.bool t311, .bool t312, .int .i64 0, .int .i64 0, .int .i64 0, .int .i64 0, .int .i64 0, .int .u64 0]) ?_ 2 _ rfl; (with_reducible repeat (first | refine bN ?_ _ | refine bD ?_ | refine bA ?_ _)); refine blk_put (cs := #[.bool t311, .bool false, .int .i64 0, .int .i64 0, .int .i64 0, .int .i64 0, .int .i64 0, .int .u64 0]) ?_ 1 _ rfl; (with_reducible repeat (first | refine bN ?_ _ | refine bD ?_ | refine bA ?_ _)); refine blk_put (cs := #[.bool false, .bool false, .int .i64 0, .int .i64 0, .int .i64 0, .int .i64 0, .int .i64 0, .int .u64 0]) ?_ 0 _ rfl; (with_reducible repeat (first | refine bN ?_ _ | refine bD ?_ | refine bA ?_ _)); exact BK320.out)) : gb321 ≠ gb320)); clear BK308; clear BK320; clear HB; have BK308 := n0_; have BK320 := n1_; have HB := n2_; have BK321 := n3_; have GW321 := n4_; have GE321 := n5_; have NB308_321 := n6_; have NB321_308 := n7_; have NB320_321 := n8_; have NB321_320 := n9_; clear n0_ n1_ n2_ n3_ n4_ n5_ n6_ n7_ n8_ n9_; clear hb hbox hg; have hnb18 := NB321_308.out; have hnc18 := NB308_321.out; have hnb19 := NB321_320.out; have hnc19 := NB320_321.out; have hcz20_0 : w17.cell? ⟨gb321, 0, none⟩ = some (.int .i64 0) := (blk_cell BK321.out 0).trans rfl; have hcz20_1 : w17.cell? ⟨gb321, 1, none⟩ = some (.bool false) := (blk_cell BK321.out 1).trans rfl; have hcz20_2 : w17.cell? ⟨gb321, 2, none⟩ = some (.int .i64 0) := (blk_cell BK321.out 2).trans rfl; have hcz20_3 : w17.cell? ⟨gb321, 3, none⟩ = some (.int .u64 0) := (blk_cell BK321.out 3).trans rfl; have hfz20_0 := blk_frozen BK321.out 0; have hfz20_1 := blk_frozen BK321.out 1; have hfz20_2 := blk_frozen BK321.out 2; have hfz20_3 := blk_frozen BK321.out 3; have hcz21_0 : w17.cell? ⟨gb320, 0, none⟩ = some (.bool t311) := (blk_cell BK320.out 0).trans rfl; have hcz21_1 : w17.cell? ⟨gb320, 1, none⟩ = some (.bool t312) := (blk_cell BK320.out 1).trans rfl; have hcz21_2 : w17.cell? ⟨gb320, 2, none⟩ = some (.int .i64 t313) := (blk_cell BK320.out 2).trans rfl; have hcz21_3 : w17.cell? ⟨gb320, 3, none⟩ = some (.int .i64 t314) := (blk_cell BK320.out 3).trans rfl; have hcz21_4 : w17.cell? ⟨gb320, 4, none⟩ = some (.int .i64 t315) := (blk_cell BK320.out 4).trans rfl; have hcz21_5 : w17.cell? ⟨gb320, 5, none⟩ = some (.int .i64 t316) := (blk_cell BK320.out 5).trans rfl; have hcz21_6 : w17.cell? ⟨gb320, 6, none⟩ = some (.int .i64 t317) := (blk_cell BK320.out 6).trans rfl; have hcz21_7 : w17.cell? ⟨gb320, 7, none⟩ = some (.int .u64 t318) := (blk_cell BK320.out 7).trans rfl; have hfz21_0 := blk_frozen BK320.out 0; have hfz21_1 := blk_frozen BK320.out 1; have hfz21_2 := blk_frozen BK320.out 2; have hfz21_3 := blk_frozen BK320.out 3; have hfz21_4 := blk_frozen BK320.out 4; have hfz21_5 := blk_frozen BK320.out 5; have hfz21_6 := blk_frozen BK320.out 6; have hfz21_7 := blk_frozen BK320.out 7) | ((with_reducible refine gC (f := 28) rfl ?_); (with_reducible refine gD (N := 47) rfl ?_); refine goesY_ (some 47) Try.func28 #[.int .u64 t318, .int .i64 t317] ?_; (with_reducible refine (vernierref01_Text.calls kj3 t318 t317 t322 _ A11.out).mono ?_); rintro e w22 ⟨rfl, hb⟩; refine ⟨_, rfl, ?_⟩; have n0_ := Aside0.mk (bB (g := gb308) (o := .cells #[.int .i64 0, .bool false, .int .i64 0, .int .u64 0] 40 (0, 0)) (by (with_reducible repeat (first | refine bN ?_ _ | refine bD ?_ | refine bA ?_ _)); refine blk_far ?_ NB308_321.out _; (with_reducible repeat (first | refine bN ?_ _ | refine bD ?_ | refine bA ?_ _)); refine blk_far ?_ NB308_321.out _; (with_reducible repeat (first | refine bN ?_ _ | refine bD ?_ | refine bA ?_ _)); refine blk_far ?_ NB308_321.out _; (with_reducible repeat (first | refine bN ?_ _ | refine bD ?_ | refine bA ?_ _)); refine blk_far ?_ NB308_321.out _; (with_reducible repeat (first | refine bN ?_ _ | refine bD ?_ | refine bA ?_ _)); exact BK308.out) hb); have n1_ := Aside0.mk (bB (g := gb320) (o := .cells #[.bool t311, .bool t312, .int .i64 t313, .int .i64 t314, .int .i64 t315, .int .i64 t316, .int .i64 t317, .int .u64 t318] 25 (0, 0)) (by (with_reducible repeat (first | refine bN ?_ _ | refine bD ?_ | refine bA ?_ _)); refine blk_far ?_ NB320_321.out _; (with_reducible repeat (first | refine bN ?_ _ | refine bD ?_ | refine bA ?_ _)); refine blk_far ?_ NB320_321.out _; (with_reducible repeat (first | refine bN ?_ _ | refine bD ?_ | refine bA ?_ _)); refine blk_far ?_ NB320_321.out _; (with_reducible repeat (first | refine bN ?_ _ | refine bD ?_ | refine bA ?_ _)); refine blk_far ?_ NB320_321.out _; (with_reducible repeat (first | refine bN ?_ _ | refine bD ?_ | refine bA ?_ _)); exact BK320.out) hb); have n2_ := Aside0.mk (bB (g := gb321) (o := .cells #[.int .i64 t309, .bool t311, .int .i64 (wrap64 ((wrap64 (4 * t314)) + t316)), .int .u64 0] 40 (0, 0)) (by (with_reducible repeat (first | refine bN ?_ _ | refine bD ?_ | refine bA ?_ _)); refine blk_put (cs := #[.int .i64 t309, .bool t311, .int .i64 (wrap64 ((wrap64 (4 * t314)) + t316)), .int .u64 0]) ?_ 3 _ rfl; (with_reducible repeat (first | refine bN ?_ _ | refine bD ?_ | refine bA ?_ _)); refine blk_put (cs := #[.int .i64 t309, .bool t311, .int .i64 0, .int .u64 0]) ?_ 2 _ rfl; (with_reducible repeat (first | refine bN ?_ _ | refine bD ?_ | refine bA ?_ _)); refine blk_put (cs := #[.int .i64 t309, .bool false, .int .i64 0, .int .u64 0]) ?_ 1 _ rfl; (with_reducible repeat (first | refine bN ?_ _ | refine bD ?_ | refine bA ?_ _)); refine blk_put (cs := #[.int .i64 0, .bool false, .int .i64 0, .int .u64 0]) ?_ 0 _ rfl; (with_reducible repeat (first | refine bN ?_ _ | refine bD ?_ | refine bA ?_ _)); exact BK321.out) hb); have n3_ := Aside0.mk (bS3 HB.out hb); clear BK308; clear BK320; clear BK321; clear HB; have BK308 := n0_; have BK320 := n1_; have BK321 := n2_; have HB := n3_; clear n0_ n1_ n2_ n3_; (try clear hb); (try clear hb2); (try clear hk); (try clear hi)))
          go_loopg [11] kj3 (fun kq v11 w' => ∃ (x11_2 : ByteArray), v11 = .string x11_2 ∧ Aside0 (vernierref06_Decodes.l0 kq x11_2 t309 t311 (wrap64 ((wrap64 (4 * t314)) + t316)) 0 = some (r1, r2, r3, r4, r5)) ∧ Aside0 (kq ≤ kj3) ∧ Aside0 (w'.heap[gb308]? = some (.cells #[.int .i64 0, .bool false, .int .i64 0, .int .u64 0] 40 (0, 0))) ∧ Aside0 (w'.heap[gb320]? = some (.cells #[.bool t311, .bool t312, .int .i64 t313, .int .i64 t314, .int .i64 t315, .int .i64 t316, .int .i64 t317, .int .u64 t318] 25 (0, 0))) ∧ Aside0 (w'.heap[gb321]? = some (.cells #[.int .i64 t309, .bool t311, .int .i64 (wrap64 ((wrap64 (4 * t314)) + t316)), .int .u64 0] 40 (0, 0))) ∧ Aside0 (Below w.heap.size w w'))
          case atStart => exact ⟨((⟨#[49]⟩ : ByteArray) ++ t322), (by first | rfl | (simp; done) | (simp [*]; done)), H', ⟨Nat.le_refl _⟩, ⟨by (with_reducible repeat (first | refine bN ?_ _ | refine bD ?_ | refine bA ?_ _)); exact BK308.out⟩, ⟨by (with_reducible repeat (first | refine bN ?_ _ | refine bD ?_ | refine bA ?_ _)); exact BK320.out⟩, ⟨by (with_reducible repeat (first | refine bN ?_ _ | refine bD ?_ | refine bA ?_ _)); exact BK321.out⟩, ⟨by repeat (first | (with_reducible first | exact HB.out | apply pA | apply pN | apply p1 | refine pS ?_ GE308.out | refine pS ?_ GE320.out | refine pS ?_ GE321.out) | exact HB.out)⟩⟩
          case round =>
            clear H'
            try clear c1
            try clear c2
            try clear p2
            try clear p6
            try clear c7
            try clear c7b0
            try clear c7b1
            try clear c8
            try clear c12
            try clear c12b0
            try clear c12b1
            try clear c12b2
            try clear c15
            try clear c17
            try clear c18
            try clear c19
            try clear hcz16_0
            try clear hcz16_1
            try clear hcz16_2
            try clear hcz16_3
            try clear hcz16_4
            try clear hcz16_5
            try clear hcz16_6
            try clear hcz16_7
            try clear hcz20_0
            try clear hcz20_1
            try clear hcz20_2
            try clear hcz20_3
            try clear hcz21_0
            try clear hcz21_1
            try clear hcz21_2
            try clear hcz21_3
            try clear hcz21_4
            try clear hcz21_5
            try clear hcz21_6
            try clear hcz21_7
            try clear hcz9_0
            try clear hcz9_1
            try clear hcz9_2
            try clear hcz9_3
            try clear hfz16_0
            try clear hfz16_1
            try clear hfz16_2
            try clear hfz16_3
            try clear hfz16_4
            try clear hfz16_5
            try clear hfz16_6
            try clear hfz16_7
            try clear hfz20_0
            try clear hfz20_1
            try clear hfz20_2
            try clear hfz20_3
            try clear hfz21_0
            try clear hfz21_1
            try clear hfz21_2
            try clear hfz21_3
            try clear hfz21_4
            try clear hfz21_5
            try clear hfz21_6
            try clear hfz21_7
            try clear hfz9_0
            try clear hfz9_1
            try clear hfz9_2
            try clear hfz9_3
            try clear p2
            obtain ⟨x11_2, rfl, HA, HK2, BK308, BK320, BK321, HB⟩ := hrel
            cases gk with
            | zero => exact absurd HA.out (by simp [vernierref06_Decodes.l0])
            | succ k2 =>
              have H := HA.out
              clear HA
              simp only [vernierref06_Decodes.l0] at H
              by_cases c23 : (x11_2.size : Int) < 64
              · rw [if_pos c23] at H
                have c23b0 : decide ((x11_2.size : Int) < 64) = true := decide_eq_true c23
                have c23b1 : decide (x11_2.size < 64) = true := decide_eq_true (by omega)
                clear c23
                by_cases c24 : x11_2.size + 1 ≤ 9223372036854775807
                · rw [if_pos c24] at H
                  have c24b0 := eq_true c24
                  have c24b1 : decide (x11_2.size + 1 ≤ 9223372036854775807) = true := decide_eq_true c24
                  try have c24b2 : (9223372036854775807 < x11_2.size + 1) = False := eq_false (Nat.not_lt.2 c24)
                  have H' := Aside0.mk H
                  clear H
                  go_wp2
                  go_roundg k2
                  case measure => have := HJ3.out; have := HK2.out; omega
                  case rel => exact ⟨(x11_2 ++ (⟨#[48]⟩ : ByteArray)), (by first | rfl | (simp; done) | (simp [*]; done)), H', ⟨by have := HJ3.out; have := HK2.out; omega⟩, ⟨by (with_reducible repeat (first | refine bN ?_ _ | refine bD ?_ | refine bA ?_ _)); exact BK308.out⟩, ⟨by (with_reducible repeat (first | refine bN ?_ _ | refine bD ?_ | refine bA ?_ _)); exact BK320.out⟩, ⟨by (with_reducible repeat (first | refine bN ?_ _ | refine bD ?_ | refine bA ?_ _)); exact BK321.out⟩, ⟨by repeat (first | (with_reducible first | exact HB.out | apply pA | apply pN | apply p1 | refine pS ?_ GE308.out | refine pS ?_ GE320.out | refine pS ?_ GE321.out) | exact HB.out)⟩⟩
                · rw [if_neg c24] at H
                  exact absurd H (by simp)
              · rw [if_neg c23] at H
                have c23b0 : decide ((x11_2.size : Int) < 64) = false := decide_eq_false c23
                have c23b1 : decide (x11_2.size < 64) = false := decide_eq_false (by omega)
                clear c23
                replace H := Option.bind_eq_some_iff.mp H
                obtain ⟨t323, A250, H⟩ := H
                replace H : (some (t309, t311, (wrap64 ((wrap64 (4 * t314)) + t316)), t323, 0)) = some (r1, r2, r3, r4, r5) := H
                have A25 := Aside0.mk A250
                clear A250
                simp only [Option.some.injEq, Prod.mk.injEq] at H
                obtain ⟨rfl, rfl, rfl, rfl, rfl⟩ := H
                go_wp2_with (first | ((with_reducible refine gC (f := 30) rfl ?_); (with_reducible refine gD (N := 55) rfl ?_); refine goesY_ (some 55) Try.func30 #[.string x11_2] ?_; (with_reducible refine (vernierref01_Number.calls k2 x11_2 t323 _ A25.out).mono ?_); rintro e w' ⟨rfl, ⟨nd, rfl⟩⟩; refine ⟨_, rfl, ?_⟩; (try (rw [drewN_self wr]; generalize hq_ : World.drewN wr _ = wr; have n0_ : Aside0 (wr.heap[gb308]? = some (.cells #[.int .i64 0, .bool false, .int .i64 0, .int .u64 0] 40 (0, 0))) := ⟨by rw [← hq_]; exact (by (with_reducible repeat (first | refine bN ?_ _ | refine bD ?_ | refine bA ?_ _)); exact BK308.out)⟩; have n1_ : Aside0 (wr.heap[gb320]? = some (.cells #[.bool t311, .bool t312, .int .i64 t313, .int .i64 t314, .int .i64 t315, .int .i64 t316, .int .i64 t317, .int .u64 t318] 25 (0, 0))) := ⟨by rw [← hq_]; exact (by (with_reducible repeat (first | refine bN ?_ _ | refine bD ?_ | refine bA ?_ _)); exact BK320.out)⟩; have n2_ : Aside0 (wr.heap[gb321]? = some (.cells #[.int .i64 t309, .bool t311, .int .i64 (wrap64 ((wrap64 (4 * t314)) + t316)), .int .u64 0] 40 (0, 0))) := ⟨by rw [← hq_]; exact (by (with_reducible repeat (first | refine bN ?_ _ | refine bD ?_ | refine bA ?_ _)); exact BK321.out)⟩; have n3_ : Aside0 (Below w.heap.size w wr) := ⟨by rw [← hq_]; exact (by repeat (first | (with_reducible first | exact HB.out | apply pA | apply pN | apply p1 | refine pS ?_ GE308.out | refine pS ?_ GE320.out | refine pS ?_ GE321.out) | exact HB.out))⟩; clear BK308 BK320 BK321 HB hq_; have BK308 := n0_; have BK320 := n1_; have BK321 := n2_; have HB := n3_; clear n0_ n1_ n2_ n3_)); have hnb26 := NB321_308.out; have hnc26 := NB308_321.out; have hnb27 := NB321_320.out; have hnc27 := NB320_321.out; have hcz28_0 : wr.cell? ⟨gb321, 0, none⟩ = some (.int .i64 t309) := (blk_cell BK321.out 0).trans rfl; have hcz28_1 : wr.cell? ⟨gb321, 1, none⟩ = some (.bool t311) := (blk_cell BK321.out 1).trans rfl; have hcz28_2 : wr.cell? ⟨gb321, 2, none⟩ = some (.int .i64 (wrap64 ((wrap64 (4 * t314)) + t316))) := (blk_cell BK321.out 2).trans rfl; have hcz28_3 : wr.cell? ⟨gb321, 3, none⟩ = some (.int .u64 0) := (blk_cell BK321.out 3).trans rfl; have hfz28_0 := blk_frozen BK321.out 0; have hfz28_1 := blk_frozen BK321.out 1; have hfz28_2 := blk_frozen BK321.out 2; have hfz28_3 := blk_frozen BK321.out 3; have hnb29 := NB308_320.out; have hnc29 := NB320_308.out; have hcz30_0 : wr.cell? ⟨gb308, 0, none⟩ = some (.int .i64 0) := (blk_cell BK308.out 0).trans rfl; have hcz30_1 : wr.cell? ⟨gb308, 1, none⟩ = some (.bool false) := (blk_cell BK308.out 1).trans rfl; have hcz30_2 : wr.cell? ⟨gb308, 2, none⟩ = some (.int .i64 0) := (blk_cell BK308.out 2).trans rfl; have hcz30_3 : wr.cell? ⟨gb308, 3, none⟩ = some (.int .u64 0) := (blk_cell BK308.out 3).trans rfl; have hfz30_0 := blk_frozen BK308.out 0; have hfz30_1 := blk_frozen BK308.out 1; have hfz30_2 := blk_frozen BK308.out 2; have hfz30_3 := blk_frozen BK308.out 3))
                refine bodyPost_ret (results_ct rfl _ _ gb308 40 #[.int .i64 t309, .bool t311, .int .i64 (wrap64 ((wrap64 (4 * t314)) + t316)), .int .u64 t323] (0, 0) _ rfl (by (with_reducible repeat (first | refine bN ?_ _ | refine bD ?_ | refine bA ?_ _)); refine blk_put (cs := #[.int .i64 t309, .bool t311, .int .i64 (wrap64 ((wrap64 (4 * t314)) + t316)), .int .u64 0]) ?_ 3 _ rfl; (with_reducible repeat (first | refine bN ?_ _ | refine bD ?_ | refine bA ?_ _)); refine blk_put (cs := #[.int .i64 t309, .bool t311, .int .i64 0, .int .u64 0]) ?_ 2 _ rfl; (with_reducible repeat (first | refine bN ?_ _ | refine bD ?_ | refine bA ?_ _)); refine blk_put (cs := #[.int .i64 t309, .bool false, .int .i64 0, .int .u64 0]) ?_ 1 _ rfl; (with_reducible repeat (first | refine bN ?_ _ | refine bD ?_ | refine bA ?_ _)); refine blk_put (cs := #[.int .i64 0, .bool false, .int .i64 0, .int .u64 0]) ?_ 0 _ rfl; (with_reducible repeat (first | refine bN ?_ _ | refine bD ?_ | refine bA ?_ _)); refine blk_far ?_ NB308_321.out _; (with_reducible repeat (first | refine bN ?_ _ | refine bD ?_ | refine bA ?_ _)); exact BK308.out) Try.underlying40 rfl (by kernel_rfl)) rfl ?_
                exact ⟨by first | rfl | (simp [errW_none, errW_some] <;> rfl) | (simp [*, errW_none, errW_some] <;> rfl), by repeat (first | (with_reducible first | exact HB.out | apply pA | apply pN | apply p1 | refine pS ?_ GE308.out | refine pS ?_ GE320.out | refine pS ?_ GE321.out) | exact HB.out)⟩
        · rw [if_neg c12] at H
          exact absurd H (by simp)

/-! ### vernierref06_Sound: function 38 -/
def vernierref06_Sound.f (a0_0 : Int) (a0_1 : Bool) (a0_2 : Int) (a0_3 : Int) : Option (Bool) := if a0_0 = 0 then (some (!a0_1 && (a0_2 == 0 && (a0_3 == 0)))) else (if a0_0 = 2 then (some (!a0_1 && (a0_2 == 0 && (a0_3 == 0)))) else (if a0_0 = 1 then (if a0_3 ≥ 9223372036854775808 then (if a0_2 ≥ (-1073741824) then (some (decide (a0_2 ≤ 1073741824))) else (some false)) else (some false)) else (some false)))
set_option maxHeartbeats 8000000 in
set_option maxRecDepth 100000 in
theorem vernierref06_Sound.calls (a0_0 : Int) (a0_1 : Bool) (a0_2 : Int) (a0_3 : Int) (r : Bool) (w : World) (h : vernierref06_Sound.f a0_0 a0_1 a0_2 a0_3 = some r) :
    Calls Try.prog 38 #[.agg #[.int .i64 a0_0, .bool a0_1, .int .i64 a0_2, .int .u64 a0_3]] w fun e w' => e = .returned (.bool r) ∧ Below w.heap.size w w' := by
  have hu40 := Try.underlying40
  have HB := Aside0.mk (Below.refl w.heap.size w)
  have H : (if a0_0 = 0 then (some (!a0_1 && (a0_2 == 0 && (a0_3 == 0)))) else (if a0_0 = 2 then (some (!a0_1 && (a0_2 == 0 && (a0_3 == 0)))) else (if a0_0 = 1 then (if a0_3 ≥ 9223372036854775808 then (if a0_2 ≥ (-1073741824) then (some (decide (a0_2 ≤ 1073741824))) else (some false)) else (some false)) else (some false)))) = some r := h
  clear h
  by_cases c2 : a0_0 = 0
  · rw [if_pos c2] at H
    have c2b0 : (a0_0 == 0) = true := beq_iff_eq.mpr c2
    have c2b1 : (a0_0 != 0) = false := bne_eq_false_iff_eq.mpr c2
    clear c2
    obtain rfl := Option.some.inj H
    go_enter Try.func38, Try.ntmps38
    go_wp2_with (first | ((with_reducible refine gD (N := 1) rfl ?_); refine bE3 1 #[.int .i64 a0_0, .bool a0_1, .int .i64 a0_2, .int .u64 a0_3] 40 ?hr ?_; (case hr => first | (go_simp; done) | (go_simp; rfl)); intro gb338 hg w3 hbox hb; have n0_ := Aside0.mk (bS3 HB.out hb); have n1_ := Aside0.mk (hbox); have n2_ := Aside0.mk ((bZ3 hg HB.out)); have n3_ := Aside0.mk ((bZ3 hg HB.out)); clear HB; have HB := n0_; have BK338 := n1_; have GW338 := n2_; have GE338 := n3_; clear n0_ n1_ n2_ n3_; clear hb hbox hg; have hcz4_0 : w3.cell? ⟨gb338, 0, none⟩ = some (.int .i64 a0_0) := (blk_cell BK338.out 0).trans rfl; have hcz4_1 : w3.cell? ⟨gb338, 1, none⟩ = some (.bool a0_1) := (blk_cell BK338.out 1).trans rfl; have hcz4_2 : w3.cell? ⟨gb338, 2, none⟩ = some (.int .i64 a0_2) := (blk_cell BK338.out 2).trans rfl; have hcz4_3 : w3.cell? ⟨gb338, 3, none⟩ = some (.int .u64 a0_3) := (blk_cell BK338.out 3).trans rfl; have hfz4_0 := blk_frozen BK338.out 0; have hfz4_1 := blk_frozen BK338.out 1; have hfz4_2 := blk_frozen BK338.out 2; have hfz4_3 := blk_frozen BK338.out 3))
    go_ret
    exact ⟨by first | rfl | (simp [errW_none, errW_some] <;> rfl) | (simp [*, errW_none, errW_some] <;> rfl), by repeat (first | (with_reducible first | exact HB.out | apply pA | apply pN | apply p1 | refine pS ?_ GE338.out) | exact HB.out)⟩
  · rw [if_neg c2] at H
    have c2b0 : (a0_0 == 0) = false := beq_eq_false_iff_ne.mpr c2
    have c2b1 : (a0_0 != 0) = true := bne_iff_ne.mpr c2
    by_cases c5 : a0_0 = 2
    · rw [if_pos c5] at H
      have c5b0 : (a0_0 == 2) = true := beq_iff_eq.mpr c5
      have c5b1 : (a0_0 != 2) = false := bne_eq_false_iff_eq.mpr c5
      clear c5
      obtain rfl := Option.some.inj H
      go_enter Try.func38, Try.ntmps38
      go_wp2_with (first | ((with_reducible refine gD (N := 1) rfl ?_); refine bE3 1 #[.int .i64 a0_0, .bool a0_1, .int .i64 a0_2, .int .u64 a0_3] 40 ?hr ?_; (case hr => first | (go_simp; done) | (go_simp; rfl)); intro gb338 hg w6 hbox hb; have n0_ := Aside0.mk (bS3 HB.out hb); have n1_ := Aside0.mk (hbox); have n2_ := Aside0.mk ((bZ3 hg HB.out)); have n3_ := Aside0.mk ((bZ3 hg HB.out)); clear HB; have HB := n0_; have BK338 := n1_; have GW338 := n2_; have GE338 := n3_; clear n0_ n1_ n2_ n3_; clear hb hbox hg; have hcz7_0 : w6.cell? ⟨gb338, 0, none⟩ = some (.int .i64 a0_0) := (blk_cell BK338.out 0).trans rfl; have hcz7_1 : w6.cell? ⟨gb338, 1, none⟩ = some (.bool a0_1) := (blk_cell BK338.out 1).trans rfl; have hcz7_2 : w6.cell? ⟨gb338, 2, none⟩ = some (.int .i64 a0_2) := (blk_cell BK338.out 2).trans rfl; have hcz7_3 : w6.cell? ⟨gb338, 3, none⟩ = some (.int .u64 a0_3) := (blk_cell BK338.out 3).trans rfl; have hfz7_0 := blk_frozen BK338.out 0; have hfz7_1 := blk_frozen BK338.out 1; have hfz7_2 := blk_frozen BK338.out 2; have hfz7_3 := blk_frozen BK338.out 3))
      go_ret
      exact ⟨by first | rfl | (simp [errW_none, errW_some] <;> rfl) | (simp [*, errW_none, errW_some] <;> rfl), by repeat (first | (with_reducible first | exact HB.out | apply pA | apply pN | apply p1 | refine pS ?_ GE338.out) | exact HB.out)⟩
    · rw [if_neg c5] at H
      have c5b0 : (a0_0 == 2) = false := beq_eq_false_iff_ne.mpr c5
      have c5b1 : (a0_0 != 2) = true := bne_iff_ne.mpr c5
      by_cases c8 : a0_0 = 1
      · rw [if_pos c8] at H
        have c8b0 : (a0_0 == 1) = true := beq_iff_eq.mpr c8
        have c8b1 : (a0_0 != 1) = false := bne_eq_false_iff_eq.mpr c8
        clear c8
        by_cases c9 : a0_3 ≥ 9223372036854775808
        · rw [if_pos c9] at H
          have c9b0 : decide (9223372036854775808 ≤ a0_3) = true := decide_eq_true c9
          clear c9
          by_cases c10 : a0_2 ≥ (-1073741824)
          · rw [if_pos c10] at H
            have c10b0 : decide ((-1073741824) ≤ a0_2) = true := decide_eq_true c10
            clear c10
            obtain rfl := Option.some.inj H
            go_enter Try.func38, Try.ntmps38
            go_wp2_with (first | ((with_reducible refine gD (N := 1) rfl ?_); refine bE3 1 #[.int .i64 a0_0, .bool a0_1, .int .i64 a0_2, .int .u64 a0_3] 40 ?hr ?_; (case hr => first | (go_simp; done) | (go_simp; rfl)); intro gb338 hg w11 hbox hb; have n0_ := Aside0.mk (bS3 HB.out hb); have n1_ := Aside0.mk (hbox); have n2_ := Aside0.mk ((bZ3 hg HB.out)); have n3_ := Aside0.mk ((bZ3 hg HB.out)); clear HB; have HB := n0_; have BK338 := n1_; have GW338 := n2_; have GE338 := n3_; clear n0_ n1_ n2_ n3_; clear hb hbox hg; have hcz12_0 : w11.cell? ⟨gb338, 0, none⟩ = some (.int .i64 a0_0) := (blk_cell BK338.out 0).trans rfl; have hcz12_1 : w11.cell? ⟨gb338, 1, none⟩ = some (.bool a0_1) := (blk_cell BK338.out 1).trans rfl; have hcz12_2 : w11.cell? ⟨gb338, 2, none⟩ = some (.int .i64 a0_2) := (blk_cell BK338.out 2).trans rfl; have hcz12_3 : w11.cell? ⟨gb338, 3, none⟩ = some (.int .u64 a0_3) := (blk_cell BK338.out 3).trans rfl; have hfz12_0 := blk_frozen BK338.out 0; have hfz12_1 := blk_frozen BK338.out 1; have hfz12_2 := blk_frozen BK338.out 2; have hfz12_3 := blk_frozen BK338.out 3))
            go_ret
            exact ⟨by first | rfl | (simp [errW_none, errW_some] <;> rfl) | (simp [*, errW_none, errW_some] <;> rfl), by repeat (first | (with_reducible first | exact HB.out | apply pA | apply pN | apply p1 | refine pS ?_ GE338.out) | exact HB.out)⟩
          · rw [if_neg c10] at H
            have c10b0 : decide ((-1073741824) ≤ a0_2) = false := decide_eq_false c10
            clear c10
            obtain rfl := Option.some.inj H
            go_enter Try.func38, Try.ntmps38
            go_wp2_with (first | ((with_reducible refine gD (N := 1) rfl ?_); refine bE3 1 #[.int .i64 a0_0, .bool a0_1, .int .i64 a0_2, .int .u64 a0_3] 40 ?hr ?_; (case hr => first | (go_simp; done) | (go_simp; rfl)); intro gb338 hg w13 hbox hb; have n0_ := Aside0.mk (bS3 HB.out hb); have n1_ := Aside0.mk (hbox); have n2_ := Aside0.mk ((bZ3 hg HB.out)); have n3_ := Aside0.mk ((bZ3 hg HB.out)); clear HB; have HB := n0_; have BK338 := n1_; have GW338 := n2_; have GE338 := n3_; clear n0_ n1_ n2_ n3_; clear hb hbox hg; have hcz14_0 : w13.cell? ⟨gb338, 0, none⟩ = some (.int .i64 a0_0) := (blk_cell BK338.out 0).trans rfl; have hcz14_1 : w13.cell? ⟨gb338, 1, none⟩ = some (.bool a0_1) := (blk_cell BK338.out 1).trans rfl; have hcz14_2 : w13.cell? ⟨gb338, 2, none⟩ = some (.int .i64 a0_2) := (blk_cell BK338.out 2).trans rfl; have hcz14_3 : w13.cell? ⟨gb338, 3, none⟩ = some (.int .u64 a0_3) := (blk_cell BK338.out 3).trans rfl; have hfz14_0 := blk_frozen BK338.out 0; have hfz14_1 := blk_frozen BK338.out 1; have hfz14_2 := blk_frozen BK338.out 2; have hfz14_3 := blk_frozen BK338.out 3))
            go_ret
            exact ⟨by first | rfl | (simp [errW_none, errW_some] <;> rfl) | (simp [*, errW_none, errW_some] <;> rfl), by repeat (first | (with_reducible first | exact HB.out | apply pA | apply pN | apply p1 | refine pS ?_ GE338.out) | exact HB.out)⟩
        · rw [if_neg c9] at H
          have c9b0 : decide (9223372036854775808 ≤ a0_3) = false := decide_eq_false c9
          clear c9
          obtain rfl := Option.some.inj H
          go_enter Try.func38, Try.ntmps38
          go_wp2_with (first | ((with_reducible refine gD (N := 1) rfl ?_); refine bE3 1 #[.int .i64 a0_0, .bool a0_1, .int .i64 a0_2, .int .u64 a0_3] 40 ?hr ?_; (case hr => first | (go_simp; done) | (go_simp; rfl)); intro gb338 hg w15 hbox hb; have n0_ := Aside0.mk (bS3 HB.out hb); have n1_ := Aside0.mk (hbox); have n2_ := Aside0.mk ((bZ3 hg HB.out)); have n3_ := Aside0.mk ((bZ3 hg HB.out)); clear HB; have HB := n0_; have BK338 := n1_; have GW338 := n2_; have GE338 := n3_; clear n0_ n1_ n2_ n3_; clear hb hbox hg; have hcz16_0 : w15.cell? ⟨gb338, 0, none⟩ = some (.int .i64 a0_0) := (blk_cell BK338.out 0).trans rfl; have hcz16_1 : w15.cell? ⟨gb338, 1, none⟩ = some (.bool a0_1) := (blk_cell BK338.out 1).trans rfl; have hcz16_2 : w15.cell? ⟨gb338, 2, none⟩ = some (.int .i64 a0_2) := (blk_cell BK338.out 2).trans rfl; have hcz16_3 : w15.cell? ⟨gb338, 3, none⟩ = some (.int .u64 a0_3) := (blk_cell BK338.out 3).trans rfl; have hfz16_0 := blk_frozen BK338.out 0; have hfz16_1 := blk_frozen BK338.out 1; have hfz16_2 := blk_frozen BK338.out 2; have hfz16_3 := blk_frozen BK338.out 3))
          go_ret
          exact ⟨by first | rfl | (simp [errW_none, errW_some] <;> rfl) | (simp [*, errW_none, errW_some] <;> rfl), by repeat (first | (with_reducible first | exact HB.out | apply pA | apply pN | apply p1 | refine pS ?_ GE338.out) | exact HB.out)⟩
      · rw [if_neg c8] at H
        have c8b0 : (a0_0 == 1) = false := beq_eq_false_iff_ne.mpr c8
        have c8b1 : (a0_0 != 1) = true := bne_iff_ne.mpr c8
        obtain rfl := Option.some.inj H
        go_enter Try.func38, Try.ntmps38
        go_wp2_with (first | ((with_reducible refine gD (N := 1) rfl ?_); refine bE3 1 #[.int .i64 a0_0, .bool a0_1, .int .i64 a0_2, .int .u64 a0_3] 40 ?hr ?_; (case hr => first | (go_simp; done) | (go_simp; rfl)); intro gb338 hg w17 hbox hb; have n0_ := Aside0.mk (bS3 HB.out hb); have n1_ := Aside0.mk (hbox); have n2_ := Aside0.mk ((bZ3 hg HB.out)); have n3_ := Aside0.mk ((bZ3 hg HB.out)); clear HB; have HB := n0_; have BK338 := n1_; have GW338 := n2_; have GE338 := n3_; clear n0_ n1_ n2_ n3_; clear hb hbox hg; have hcz18_0 : w17.cell? ⟨gb338, 0, none⟩ = some (.int .i64 a0_0) := (blk_cell BK338.out 0).trans rfl; have hcz18_1 : w17.cell? ⟨gb338, 1, none⟩ = some (.bool a0_1) := (blk_cell BK338.out 1).trans rfl; have hcz18_2 : w17.cell? ⟨gb338, 2, none⟩ = some (.int .i64 a0_2) := (blk_cell BK338.out 2).trans rfl; have hcz18_3 : w17.cell? ⟨gb338, 3, none⟩ = some (.int .u64 a0_3) := (blk_cell BK338.out 3).trans rfl; have hfz18_0 := blk_frozen BK338.out 0; have hfz18_1 := blk_frozen BK338.out 1; have hfz18_2 := blk_frozen BK338.out 2; have hfz18_3 := blk_frozen BK338.out 3))
        go_ret
        exact ⟨by first | rfl | (simp [errW_none, errW_some] <;> rfl) | (simp [*, errW_none, errW_some] <;> rfl), by repeat (first | (with_reducible first | exact HB.out | apply pA | apply pN | apply p1 | refine pS ?_ GE338.out) | exact HB.out)⟩

/-! ### vernierref06_regime: function 49 -/
def vernierref06_regime.f (a0 : Int) : Option (Int) := if (wrap64 (4 * (wrap64 (Int.tdiv a0 4)))) > a0 then (some (wrap64 ((wrap64 (Int.tdiv a0 4)) - 1))) else (some (wrap64 (Int.tdiv a0 4)))
set_option maxHeartbeats 8000000 in
set_option maxRecDepth 100000 in
theorem vernierref06_regime.calls (a0 : Int) (r : Int) (w : World) (h : vernierref06_regime.f a0 = some r) :
    Calls Try.prog 49 #[.int .i64 a0] w fun e w' => e = .returned (.int .i64 r) ∧ Drawn0 w w' := by
  have H : (if (wrap64 (4 * (wrap64 (Int.tdiv a0 4)))) > a0 then (some (wrap64 ((wrap64 (Int.tdiv a0 4)) - 1))) else (some (wrap64 (Int.tdiv a0 4)))) = some r := h
  clear h
  by_cases c2 : (wrap64 (4 * (wrap64 (Int.tdiv a0 4)))) > a0
  · rw [if_pos c2] at H
    have c2b0 : decide (a0 < (wrap64 (4 * (wrap64 (Int.tdiv a0 4))))) = true := decide_eq_true c2
    clear c2
    obtain rfl := Option.some.inj H
    go_enter Try.func49, Try.ntmps49
    go_wp2
    go_ret
    exact ⟨by first | rfl | (simp; done) | (simp [*]; done), by repeat (first | exact Drawn0.refl _ | apply Drawn0.step)⟩
  · rw [if_neg c2] at H
    have c2b0 : decide (a0 < (wrap64 (4 * (wrap64 (Int.tdiv a0 4))))) = false := decide_eq_false c2
    clear c2
    obtain rfl := Option.some.inj H
    go_enter Try.func49, Try.ntmps49
    go_wp2
    go_ret
    exact ⟨by first | rfl | (simp; done) | (simp [*]; done), by repeat (first | exact Drawn0.refl _ | apply Drawn0.step)⟩

/-! ### vernierref06_Decode: function 41 -/
def vernierref06_Decode.f (k : Nat) (a0 : Int) (a1 : Int) : Option (Int × Bool × Int × Int) := (vernierref06_Decodes.f k a0 a1).bind fun bt355 => (some (bt355.1, bt355.2.1, bt355.2.2.1, bt355.2.2.2.1))
theorem vernierref06_Decode.mono : ∀ a0 a1 k, LeO (vernierref06_Decode.f k a0 a1) (vernierref06_Decode.f (k + 1) a0 a1) := by
  intro a0 a1 k
  unfold vernierref06_Decode.f
  repeat' first
      | (with_reducible exact vernierref06_Decodes.mono _ _ _)
      | (with_reducible exact LeO.refl _)
      | (with_reducible exact LeO.none _)
      | (with_reducible refine LeO.ite ?_ ?_)
      | (with_reducible refine LeO.bind ?_ (fun _ => ?_))
      | exact vernierref06_Decodes.mono _ _ _
      | exact LeO.none _
      | refine LeO.ite ?_ ?_
      | refine LeO.bind ?_ (fun _ => ?_)
set_option maxHeartbeats 8000000 in
set_option maxRecDepth 100000 in
theorem vernierref06_Decode.calls (k : Nat) (a0 : Int) (a1 : Int) (r1 : Int) (r2 : Bool) (r3 : Int) (r4 : Int) (w : World) (h : vernierref06_Decode.f k a0 a1 = some (r1, r2, r3, r4)) :
    Calls Try.prog 41 #[.int .i64 a0, .int .u64 a1] w fun e w' => e = .returned (.agg #[.int .i64 r1, .bool r2, .int .i64 r3, .int .u64 r4]) ∧ Below w.heap.size w w' := by
  have hu40 := Try.underlying40
  have HB := Aside0.mk (Below.refl w.heap.size w)
  have H : ((vernierref06_Decodes.f k a0 a1).bind fun bt355 => (some (bt355.1, bt355.2.1, bt355.2.2.1, bt355.2.2.2.1))) = some (r1, r2, r3, r4) := h
  clear h
  replace H := Option.bind_eq_some_iff.mp H
  obtain ⟨⟨t355, t356, t357, t358, t359⟩, A30, H⟩ := H
  replace H : (some (t355, t356, t357, t358)) = some (r1, r2, r3, r4) := H
  have A3 := Aside0.mk A30
  clear A30
  simp only [Option.some.injEq, Prod.mk.injEq] at H
  obtain ⟨rfl, rfl, rfl, rfl⟩ := H
  go_enter Try.func41, Try.ntmps41
  go_wp2_with (first | ((with_reducible refine gD (N := 4) rfl ?_); refine bE3 4 #[.int .i64 0, .bool false, .int .i64 0, .int .u64 0] 40 ?hr ?_; (case hr => first | (go_simp; done) | (go_simp; rfl)); intro gb354 hg w4 hbox hb; have n0_ := Aside0.mk (bS3 HB.out hb); have n1_ := Aside0.mk (hbox); have n2_ := Aside0.mk ((bZ3 hg HB.out)); have n3_ := Aside0.mk ((bZ3 hg HB.out)); clear HB; have HB := n0_; have BK354 := n1_; have GW354 := n2_; have GE354 := n3_; clear n0_ n1_ n2_ n3_; clear hb hbox hg) | ((with_reducible refine gC (f := 17) rfl ?_); (with_reducible refine gD (N := 10) rfl ?_); refine goesY_ (some 10) Try.func17 #[.int .i64 a0, .int .u64 a1] ?_; (with_reducible refine (vernierref06_Decodes.calls k a0 a1 t355 t356 t357 t358 t359 _ A3.out).mono ?_); rintro e w5 ⟨rfl, hb⟩; refine ⟨_, rfl, ?_⟩; have n0_ := Aside0.mk (bB3 BK354.out hb); have n1_ := Aside0.mk (bS3 HB.out hb); clear BK354; clear HB; have BK354 := n0_; have HB := n1_; clear n0_ n1_; (try clear hb); (try clear hb2); (try clear hk); (try clear hi)) | ((with_reducible refine gD (N := 5) rfl ?_); refine bE3 5 #[.int .i64 0, .bool false, .int .i64 0, .int .u64 0] 40 ?hr ?_; (case hr => first | (go_simp; done) | (go_simp; rfl)); intro gb360 hg w6 hbox hb; have n0_ := Aside0.mk (bB3 BK354.out hb); have n1_ := Aside0.mk (bS3 HB.out hb); have n2_ := Aside0.mk (hbox); have n3_ := Aside0.mk ((bZ3 hg HB.out)); have n4_ := Aside0.mk ((bZ3 hg HB.out)); have n5_ := Aside0.mk ((bL3 hg BK354.out)); have n6_ := Aside0.mk ((bG3 hg BK354.out)); clear BK354; clear HB; have BK354 := n0_; have HB := n1_; have BK360 := n2_; have GW360 := n3_; have GE360 := n4_; have NB354_360 := n5_; have NB360_354 := n6_; clear n0_ n1_ n2_ n3_ n4_ n5_ n6_; clear hb hbox hg; have hnb7 := NB360_354.out; have hnc7 := NB354_360.out; have hcz8_0 : w6.cell? ⟨gb360, 0, none⟩ = some (.int .i64 0) := (blk_cell BK360.out 0).trans rfl; have hcz8_1 : w6.cell? ⟨gb360, 1, none⟩ = some (.bool false) := (blk_cell BK360.out 1).trans rfl; have hcz8_2 : w6.cell? ⟨gb360, 2, none⟩ = some (.int .i64 0) := (blk_cell BK360.out 2).trans rfl; have hcz8_3 : w6.cell? ⟨gb360, 3, none⟩ = some (.int .u64 0) := (blk_cell BK360.out 3).trans rfl; have hfz8_0 := blk_frozen BK360.out 0; have hfz8_1 := blk_frozen BK360.out 1; have hfz8_2 := blk_frozen BK360.out 2; have hfz8_3 := blk_frozen BK360.out 3; have hcz9_0 : w6.cell? ⟨gb354, 0, none⟩ = some (.int .i64 0) := (blk_cell BK354.out 0).trans rfl; have hcz9_1 : w6.cell? ⟨gb354, 1, none⟩ = some (.bool false) := (blk_cell BK354.out 1).trans rfl; have hcz9_2 : w6.cell? ⟨gb354, 2, none⟩ = some (.int .i64 0) := (blk_cell BK354.out 2).trans rfl; have hcz9_3 : w6.cell? ⟨gb354, 3, none⟩ = some (.int .u64 0) := (blk_cell BK354.out 3).trans rfl; have hfz9_0 := blk_frozen BK354.out 0; have hfz9_1 := blk_frozen BK354.out 1; have hfz9_2 := blk_frozen BK354.out 2; have hfz9_3 := blk_frozen BK354.out 3))
  refine bodyPost_ret (results_cell_row rfl _ _ gb354 40 #[.int .i64 t355, .bool t356, .int .i64 t357, .int .u64 t358] (0, 0) _ rfl (by (with_reducible repeat (first | refine bN ?_ _ | refine bD ?_ | refine bA ?_ _)); refine blk_put (cs := #[.int .i64 t355, .bool t356, .int .i64 t357, .int .u64 0]) ?_ 3 _ rfl; (with_reducible repeat (first | refine bN ?_ _ | refine bD ?_ | refine bA ?_ _)); refine blk_put (cs := #[.int .i64 t355, .bool t356, .int .i64 0, .int .u64 0]) ?_ 2 _ rfl; (with_reducible repeat (first | refine bN ?_ _ | refine bD ?_ | refine bA ?_ _)); refine blk_put (cs := #[.int .i64 t355, .bool false, .int .i64 0, .int .u64 0]) ?_ 1 _ rfl; (with_reducible repeat (first | refine bN ?_ _ | refine bD ?_ | refine bA ?_ _)); refine blk_put (cs := #[.int .i64 0, .bool false, .int .i64 0, .int .u64 0]) ?_ 0 _ rfl; (with_reducible repeat (first | refine bN ?_ _ | refine bD ?_ | refine bA ?_ _)); refine blk_far ?_ NB354_360.out _; (with_reducible repeat (first | refine bN ?_ _ | refine bD ?_ | refine bA ?_ _)); refine blk_far ?_ NB354_360.out _; (with_reducible repeat (first | refine bN ?_ _ | refine bD ?_ | refine bA ?_ _)); refine blk_far ?_ NB354_360.out _; (with_reducible repeat (first | refine bN ?_ _ | refine bD ?_ | refine bA ?_ _)); refine blk_far ?_ NB354_360.out _; (with_reducible repeat (first | refine bN ?_ _ | refine bD ?_ | refine bA ?_ _)); exact BK354.out) Try.underlying40 rfl (by kernel_rfl)) rfl ?_
  exact ⟨by first | rfl | (simp [errW_none, errW_some] <;> rfl) | (simp [*, errW_none, errW_some] <;> rfl), by repeat (first | (with_reducible first | exact HB.out | apply pA | apply pN | apply p1 | refine pS ?_ GE354.out | refine pS ?_ GE360.out) | exact HB.out)⟩

end Go.Proofs.Ytmofdimkdkfdgaa.F
