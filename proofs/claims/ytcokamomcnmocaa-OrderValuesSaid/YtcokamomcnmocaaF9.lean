/- Functions of the given program as plain Lean functions, and for each a proof that the program's call comes to just these answers; no further conditions. (Written by a program of this repo out of the translation.) -/
import Derived.Test.YtcokamomcnmocaaF0
import Derived.Test.YtcokamomcnmocaaF1
import Derived.Test.YtcokamomcnmocaaF7
import Derived.Test.YtcokamomcnmocaaF8
namespace Go.Proofs.Ytcokamomcnmocaa.F
open Go.RowKit Go.Proofs.YtcokamomcnmocaaW.PrintWords Go.Proofs.YtcokamomcnmocaaW.PrintLast Go.Proofs.YtcokamomcnmocaaW.PrintMore
attribute [local go_sem high] xor_u64 xor_u32 eqErr25 neErr25 eqErrL25 neErrL25
attribute [local go_sem] max2_int min2_int max_two min_two max_three min_three max_four min_four   -- for this text's walks alone
set_option linter.unusedVariables false
set_option linter.unusedSimpArgs false

attribute [local go_sem high] eqA31
/-! ### vernierref06_String: function 27 -/
def vernierref06_String.f (k : Nat) (a0 : Int) (a1 : Int) : Option (ByteArray) := (vernierref01_Text.f k a1 a0).bind fun t151 => (if 0 < (t151.size : Int) then (if (bt t151 0) = 49 then ((vernierref01_Text.f k (IntKind.u64.wrap (-a1)) a0).bind fun t152 => (if 1 ≤ (t152.size : Int) then (some (t152.extract 1 t152.size)) else (none))) else (if 1 ≤ (t151.size : Int) then (some (t151.extract 1 t151.size)) else (none))) else (none))
theorem vernierref06_String.mono : ∀ a0 a1 k, LeO (vernierref06_String.f k a0 a1) (vernierref06_String.f (k + 1) a0 a1) := by
  intro a0 a1 k
  unfold vernierref06_String.f
  repeat' first
      | (with_reducible exact vernierref01_Text.mono _ _ _)
      | (with_reducible exact LeO.refl _)
      | (with_reducible exact LeO.none _)
      | (with_reducible refine LeO.ite ?_ ?_)
      | (with_reducible refine LeO.bind ?_ (fun _ => ?_))
      | exact vernierref01_Text.mono _ _ _
      | exact LeO.none _
      | refine LeO.ite ?_ ?_
      | refine LeO.bind ?_ (fun _ => ?_)
set_option maxHeartbeats 8000000 in
set_option maxRecDepth 100000 in
theorem vernierref06_String.calls (k : Nat) (a0 : Int) (a1 : Int) (r : ByteArray) (w : World) (h : vernierref06_String.f k a0 a1 = some r) :
    Calls Try.prog 27 #[.int .i64 a0, .int .u64 a1] w fun e w' => e = .returned (.string r) ∧ Below w.heap.size w w' := by
  have HB := Aside0.mk (Below.refl w.heap.size w)
  have H : ((vernierref01_Text.f k a1 a0).bind fun t151 => (if 0 < (t151.size : Int) then (if (bt t151 0) = 49 then ((vernierref01_Text.f k (IntKind.u64.wrap (-a1)) a0).bind fun t152 => (if 1 ≤ (t152.size : Int) then (some (t152.extract 1 t152.size)) else (none))) else (if 1 ≤ (t151.size : Int) then (some (t151.extract 1 t151.size)) else (none))) else (none))) = some r := h
  clear h
  replace H := Option.bind_eq_some_iff.mp H
  obtain ⟨t151, A30, H⟩ := H
  replace H : (if 0 < (t151.size : Int) then (if (bt t151 0) = 49 then ((vernierref01_Text.f k (IntKind.u64.wrap (-a1)) a0).bind fun t152 => (if 1 ≤ (t152.size : Int) then (some (t152.extract 1 t152.size)) else (none))) else (if 1 ≤ (t151.size : Int) then (some (t151.extract 1 t151.size)) else (none))) else (none)) = some r := H
  have A3 := Aside0.mk A30
  clear A30
  by_cases c4 : 0 < (t151.size : Int)
  · rw [if_pos c4] at H
    have c4b0 : decide (0 < (t151.size : Int)) = true := decide_eq_true c4
    have c4b1 : decide (0 < t151.size) = true := decide_eq_true (by omega)
    clear c4
    by_cases c6 : (bt t151 0) = 49
    · rw [if_pos c6] at H
      have c6b0 : ((bt t151 0) == 49) = true := beq_iff_eq.mpr c6
      have c6b1 : ((bt t151 0) != 49) = false := bne_eq_false_iff_eq.mpr c6
      clear c6
      replace H := Option.bind_eq_some_iff.mp H
      obtain ⟨t152, A70, H⟩ := H
      replace H : (if 1 ≤ (t152.size : Int) then (some (t152.extract 1 t152.size)) else (none)) = some r := H
      have A7 := Aside0.mk A70
      clear A70
      by_cases c8 : 1 ≤ (t152.size : Int)
      · rw [if_pos c8] at H
        have c8b0 := eq_true c8
        have c8b1 : decide (1 ≤ (t152.size : Int)) = true := decide_eq_true c8
        clear c8
        obtain rfl := Option.some.inj H
        go_enter Try.func27, Try.ntmps27
        go_wp2_with (first | ((with_reducible refine gC (f := 22) rfl ?_); (with_reducible refine gD (N := 8) rfl ?_); refine goesY_ (some 8) Try.func22 #[.int .u64 a1, .int .i64 a0] ?_; (with_reducible refine (vernierref01_Text.calls k a1 a0 t151 _ A3.out).mono ?_); rintro e w9 ⟨rfl, hb⟩; refine ⟨_, rfl, ?_⟩; have n0_ := Aside0.mk (bS3 HB.out hb); clear HB; have HB := n0_; clear n0_; (try clear hb); (try clear hb2); (try clear hk); (try clear hi); have p5 : 0 ≤ (0 : Int) := (by omega); have q5 : 0 < t151.size := (by have : (0 : Int) < (t151.size : Int) := of_decide_eq_true (by first | (with_reducible assumption) | assumption); omega); have hx5 : ∀ h : 0 < t151.size, ((t151[0]'h).toNat : Int) = bt t151 0 := bt_at t151 0; clear p5; have qi5 : (0 < (t151.size : Int)) = True := eq_true (of_decide_eq_true (by first | (with_reducible assumption) | assumption)); replace q5 := eq_true q5) | ((with_reducible refine gC (f := 22) rfl ?_); (with_reducible refine gD (N := 15) rfl ?_); refine goesY_ (some 15) Try.func22 #[.int .u64 (IntKind.u64.wrap (-a1)), .int .i64 a0] ?_; (with_reducible refine (vernierref01_Text.calls k (IntKind.u64.wrap (-a1)) a0 t152 _ A7.out).mono ?_); rintro e w10 ⟨rfl, hb⟩; refine ⟨_, rfl, ?_⟩; have n0_ := Aside0.mk (bS3 HB.out hb); clear HB; have HB := n0_; clear n0_; (try clear hb); (try clear hb2); (try clear hk); (try clear hi)))
        go_ret
        exact ⟨by first | rfl | (simp [errW_none, errW_some] <;> rfl) | (simp [*, errW_none, errW_some] <;> rfl), by repeat (first | (with_reducible first | exact HB.out | apply pA | apply pN | apply p1) | exact HB.out)⟩
      · rw [if_neg c8] at H
        exact absurd H (by simp)
    · rw [if_neg c6] at H
      have c6b0 : ((bt t151 0) == 49) = false := beq_eq_false_iff_ne.mpr c6
      have c6b1 : ((bt t151 0) != 49) = true := bne_iff_ne.mpr c6
      by_cases c11 : 1 ≤ (t151.size : Int)
      · rw [if_pos c11] at H
        have c11b0 := eq_true c11
        have c11b1 : decide (1 ≤ (t151.size : Int)) = true := decide_eq_true c11
        clear c11
        obtain rfl := Option.some.inj H
        go_enter Try.func27, Try.ntmps27
        go_wp2_with (first | ((with_reducible refine gC (f := 22) rfl ?_); (with_reducible refine gD (N := 8) rfl ?_); refine goesY_ (some 8) Try.func22 #[.int .u64 a1, .int .i64 a0] ?_; (with_reducible refine (vernierref01_Text.calls k a1 a0 t151 _ A3.out).mono ?_); rintro e w12 ⟨rfl, hb⟩; refine ⟨_, rfl, ?_⟩; have n0_ := Aside0.mk (bS3 HB.out hb); clear HB; have HB := n0_; clear n0_; (try clear hb); (try clear hb2); (try clear hk); (try clear hi); have p5 : 0 ≤ (0 : Int) := (by omega); have q5 : 0 < t151.size := (by have : (0 : Int) < (t151.size : Int) := of_decide_eq_true (by first | (with_reducible assumption) | assumption); omega); have hx5 : ∀ h : 0 < t151.size, ((t151[0]'h).toNat : Int) = bt t151 0 := bt_at t151 0; clear p5; have qi5 : (0 < (t151.size : Int)) = True := eq_true (of_decide_eq_true (by first | (with_reducible assumption) | assumption)); replace q5 := eq_true q5))
        go_ret
        exact ⟨by first | rfl | (simp [errW_none, errW_some] <;> rfl) | (simp [*, errW_none, errW_some] <;> rfl), by repeat (first | (with_reducible first | exact HB.out | apply pA | apply pN | apply p1) | exact HB.out)⟩
      · rw [if_neg c11] at H
        exact absurd H (by simp)
  · rw [if_neg c4] at H
    exact absurd H (by simp)

/-! ### vernierref06_run: function 28 -/
def vernierref06_run.l0 : Nat → ByteArray → Int → Option (Int)
  | 0, _, _ => none
  | k + 1, x0, x3 => if x3 < (x0.size : Int) then (if 0 ≤ x3 then (if 0 < (x0.size : Int) then (if (bt x0 x3) = (bt x0 0) then (vernierref06_run.l0 k x0 (wrap64 (x3 + 1))) else (some x3)) else (none)) else (none)) else (some x3)
def vernierref06_run.f (k : Nat) (a0 : ByteArray) : Option (Int) := vernierref06_run.l0 k a0 0
theorem vernierref06_run.mono_l : ∀ k, (∀ y0 y1, LeO (vernierref06_run.l0 k y0 y1) (vernierref06_run.l0 (k + 1) y0 y1))
  | 0 => fun _ _ r h => by simp [vernierref06_run.l0] at h
  | k + 1 => by
    have ih0 := vernierref06_run.mono_l k
    · intro y0 y1
      unfold vernierref06_run.l0
      repeat' first
      | (with_reducible exact ih0 _ _)
      | (with_reducible exact LeO.refl _)
      | (with_reducible exact LeO.none _)
      | (with_reducible refine LeO.ite ?_ ?_)
      | (with_reducible refine LeO.bind ?_ (fun _ => ?_))
      | exact ih0 _ _
      | exact LeO.none _
      | refine LeO.ite ?_ ?_
      | refine LeO.bind ?_ (fun _ => ?_)
theorem vernierref06_run.mono : ∀ a0 k, LeO (vernierref06_run.f k a0) (vernierref06_run.f (k + 1) a0) := by
  intro a0 k
  have ih0 := vernierref06_run.mono_l k
  unfold vernierref06_run.f
  repeat' first
      | (with_reducible exact ih0 _ _)
      | (with_reducible exact LeO.refl _)
      | (with_reducible exact LeO.none _)
      | (with_reducible refine LeO.ite ?_ ?_)
      | (with_reducible refine LeO.bind ?_ (fun _ => ?_))
      | exact ih0 _ _
      | exact LeO.none _
      | refine LeO.ite ?_ ?_
      | refine LeO.bind ?_ (fun _ => ?_)
set_option maxHeartbeats 8000000 in
set_option maxRecDepth 100000 in
theorem vernierref06_run.calls (k : Nat) (a0 : ByteArray) (r : Int) (w : World) (h : vernierref06_run.f k a0 = some r) :
    Calls Try.prog 28 #[.string a0] w fun e w' => e = .returned (.int .i64 r) ∧ Drawn0 w w' := by
  have H : (vernierref06_run.l0 k a0 0) = some r := h
  clear h
  have H' := Aside0.mk H
  clear H
  go_enter Try.func28, Try.ntmps28
  go_wp2
  repeat (go_quiet (fail); try go_wp2)
  go_loopg [3] k (fun kq v3 w' => ∃ (x3_1 : Int), v3 = .int .i64 x3_1 ∧ Aside0 (vernierref06_run.l0 kq a0 x3_1 = some r) ∧ Aside0 (kq ≤ k) ∧ Drawn0 w w')
  case atStart => exact ⟨(0), (by first | rfl | (simp; done) | (simp [*]; done)), H', ⟨Nat.le_refl _⟩, by repeat (first | exact Drawn0.refl _ | apply Drawn0.step)⟩
  case round =>
    clear H'
    obtain ⟨x3_1, rfl, HA, HK1, ⟨m1, rfl⟩⟩ := hrel
    cases gk with
    | zero => exact absurd HA.out (by simp [vernierref06_run.l0])
    | succ k1 =>
      have H := HA.out
      clear HA
      simp only [vernierref06_run.l0] at H
      by_cases c2 : x3_1 < (a0.size : Int)
      · rw [if_pos c2] at H
        have c2b0 : decide (x3_1 < (a0.size : Int)) = true := decide_eq_true c2
        clear c2
        by_cases c3 : 0 ≤ x3_1
        · rw [if_pos c3] at H
          have c3b0 : decide (0 ≤ x3_1) = true := decide_eq_true c3
          clear c3
          by_cases c5 : 0 < (a0.size : Int)
          · rw [if_pos c5] at H
            have c5b0 : decide (0 < (a0.size : Int)) = true := decide_eq_true c5
            have c5b1 : decide (0 < a0.size) = true := decide_eq_true (by omega)
            clear c5
            by_cases c7 : (bt a0 x3_1) = (bt a0 0)
            · rw [if_pos c7] at H
              have c7b0 : ((bt a0 x3_1) == (bt a0 0)) = true := beq_iff_eq.mpr c7
              have c7b1 : ((bt a0 x3_1) != (bt a0 0)) = false := bne_eq_false_iff_eq.mpr c7
              clear c7
              have H' := Aside0.mk H
              clear H
              have p4 : 0 ≤ (x3_1 : Int) := of_decide_eq_true (by first | (with_reducible assumption) | assumption)
              have q4 : x3_1 < (a0.size : Int) := of_decide_eq_true (by first | (with_reducible assumption) | assumption)
              have hx4 := bt_at a0 x3_1
              replace p4 := eq_true p4
              replace q4 := eq_true q4
              have p6 : 0 ≤ (0 : Int) := (by omega)
              have q6 : 0 < a0.size := (by have : (0 : Int) < (a0.size : Int) := of_decide_eq_true (by first | (with_reducible assumption) | assumption); omega)
              have hx6 : ∀ h : 0 < a0.size, ((a0[0]'h).toNat : Int) = bt a0 0 := bt_at a0 0
              clear p6
              have qi6 : (0 < (a0.size : Int)) = True := eq_true (of_decide_eq_true (by first | (with_reducible assumption) | assumption))
              replace q6 := eq_true q6
              go_wp2
              repeat (go_quiet (fail); try go_wp2)
              go_roundg k1
              case measure => have := HK1.out; omega
              case rel => exact ⟨(wrap64 (x3_1 + 1)), (by first | rfl | (simp; done) | (simp [*]; done)), H', ⟨by have := HK1.out; omega⟩, by repeat (first | exact Drawn0.refl _ | apply Drawn0.step)⟩
            · rw [if_neg c7] at H
              have c7b0 : ((bt a0 x3_1) == (bt a0 0)) = false := beq_eq_false_iff_ne.mpr c7
              have c7b1 : ((bt a0 x3_1) != (bt a0 0)) = true := bne_iff_ne.mpr c7
              obtain rfl := Option.some.inj H
              have p4 : 0 ≤ (x3_1 : Int) := of_decide_eq_true (by first | (with_reducible assumption) | assumption)
              have q4 : x3_1 < (a0.size : Int) := of_decide_eq_true (by first | (with_reducible assumption) | assumption)
              have hx4 := bt_at a0 x3_1
              replace p4 := eq_true p4
              replace q4 := eq_true q4
              have p6 : 0 ≤ (0 : Int) := (by omega)
              have q6 : 0 < a0.size := (by have : (0 : Int) < (a0.size : Int) := of_decide_eq_true (by first | (with_reducible assumption) | assumption); omega)
              have hx6 : ∀ h : 0 < a0.size, ((a0[0]'h).toNat : Int) = bt a0 0 := bt_at a0 0
              clear p6
              have qi6 : (0 < (a0.size : Int)) = True := eq_true (of_decide_eq_true (by first | (with_reducible assumption) | assumption))
              replace q6 := eq_true q6
              go_wp2
              repeat (go_quiet (fail); try go_wp2)
              go_ret
              exact ⟨by first | rfl | (simp; done) | (simp [*]; done), by repeat (first | exact Drawn0.refl _ | apply Drawn0.step)⟩
          · rw [if_neg c5] at H
            exact absurd H (by simp)
        · rw [if_neg c3] at H
          exact absurd H (by simp)
      · rw [if_neg c2] at H
        have c2b0 : decide (x3_1 < (a0.size : Int)) = false := decide_eq_false c2
        clear c2
        obtain rfl := Option.some.inj H
        go_wp2
        repeat (go_quiet (fail); try go_wp2)
        go_ret
        exact ⟨by first | rfl | (simp; done) | (simp [*]; done), by repeat (first | exact Drawn0.refl _ | apply Drawn0.step)⟩

/-! ### vernierref06_Split: function 21 -/
mutual
def vernierref06_Split.j0 : Nat → Int → Int → Int → Bool → Option (Bool × Bool × Int × Int × Int × Int × Int × Int × Int)
  | 0, _, _, _, _ => none
  | k + 1, x0, x1, x7, x23 => if x23 = true then (some (false, false, 0, 0, 0, 0, 0, 0, x7)) else ((vernierref06_String.f k x0 x1).bind fun t156 => ((vernierref01_Text.f k x1 x0).bind fun t157 => (if 0 < (t157.size : Int) then (if 0 < (t156.size : Int) then ((vernierref06_run.f k t156).bind fun t158 => (if (bt t156 0) = 49 then (vernierref06_Split.j1 k t156 ((bt t157 0) == 49) ((bt t156 0) == 49) t158 (wrap64 (t158 - 1)) 0 0 0 0) else (vernierref06_Split.j1 k t156 ((bt t157 0) == 49) ((bt t156 0) == 49) t158 (wrap64 (-t158)) 0 0 0 0))) else (none)) else (none))))
def vernierref06_Split.j1 : Nat → ByteArray → Bool → Bool → Int → Int → Int → Int → Int → Int → Option (Bool × Bool × Int × Int × Int × Int × Int × Int × Int)
  | 0, _, _, _, _, _, _, _, _, _ => none
  | k + 1, x8, x160000, x160001, x160002, x160003, x160004, x160005, x160006, x160007 => if x160002 < (x8.size : Int) then (if 0 ≤ (wrap64 (x160002 + 1)) then (if (wrap64 (x160002 + 1)) ≤ (x8.size : Int) then (vernierref06_Split.j2 k (x8.extract ((wrap64 (x160002 + 1)) : Int).toNat x8.size) x160000 x160001 x160002 x160003 x160004 x160005 x160006 x160007) else (none)) else (none)) else (vernierref06_Split.j2 k (⟨#[]⟩ : ByteArray) x160000 x160001 x160002 x160003 x160004 x160005 x160006 x160007)
def vernierref06_Split.j2 : Nat → ByteArray → Bool → Bool → Int → Int → Int → Int → Int → Int → Option (Bool × Bool × Int × Int × Int × Int × Int × Int × Int)
  | 0, _, _, _, _, _, _, _, _, _ => none
  | k + 1, x10, x160000, x160001, x160002, x160003, x160004, x160005, x160006, x160007 => if (x10.size : Int) > 2 then (if 0 ≤ 2 then (if 2 ≤ (x10.size : Int) then (if (x10.extract 0 2).size + 2 ≤ 9223372036854775807 then (if 2 ≤ (((x10.extract 0 2) ++ (⟨#[48, 48]⟩ : ByteArray)).size : Int) then ((vernierref01_Number.f k (((x10.extract 0 2) ++ (⟨#[48, 48]⟩ : ByteArray)).extract 0 2)).bind fun t160 => ((vernierref01_Number.f k (x10.extract 2 x10.size)).bind fun t161 => (some (x160000, x160001, x160002, x160003, 2, wrap64 (t160), wrap64 ((x10.size : Int) - 2), t161, 0)))) else (none)) else (none)) else (none)) else (none)) else (if 0 ≤ (x10.size : Int) then (if (x10.size : Int) ≤ (x10.size : Int) then (if (x10.extract 0 ((x10.size : Int) : Int).toNat).size + 2 ≤ 9223372036854775807 then (if 0 ≤ 2 then (if 2 ≤ (((x10.extract 0 ((x10.size : Int) : Int).toNat) ++ (⟨#[48, 48]⟩ : ByteArray)).size : Int) then ((vernierref01_Number.f k (((x10.extract 0 ((x10.size : Int) : Int).toNat) ++ (⟨#[48, 48]⟩ : ByteArray)).extract 0 2)).bind fun t162 => ((vernierref01_Number.f k (x10.extract ((x10.size : Int) : Int).toNat x10.size)).bind fun t163 => (some (x160000, x160001, x160002, x160003, (x10.size : Int), wrap64 (t162), wrap64 ((x10.size : Int) - (x10.size : Int)), t163, 0)))) else (none)) else (none)) else (none)) else (none)) else (none))
end
def vernierref06_Split.f (k : Nat) (a0 : Int) (a1 : Int) : Option (Bool × Bool × Int × Int × Int × Int × Int × Int × Int) := (vernierref05_Kind.f k a0 a1).bind fun bt154 => (if bt154.2 = 0 then (vernierref06_Split.j0 k a0 a1 bt154.2 (bt154.1 != 1)) else (vernierref06_Split.j0 k a0 a1 bt154.2 true))
theorem vernierref06_Split.mono_l : ∀ k, (∀ y0 y1 y2 y3, LeO (vernierref06_Split.j0 k y0 y1 y2 y3) (vernierref06_Split.j0 (k + 1) y0 y1 y2 y3)) ∧ (∀ y0 y1 y2 y3 y4 y5 y6 y7 y8, LeO (vernierref06_Split.j1 k y0 y1 y2 y3 y4 y5 y6 y7 y8) (vernierref06_Split.j1 (k + 1) y0 y1 y2 y3 y4 y5 y6 y7 y8)) ∧ (∀ y0 y1 y2 y3 y4 y5 y6 y7 y8, LeO (vernierref06_Split.j2 k y0 y1 y2 y3 y4 y5 y6 y7 y8) (vernierref06_Split.j2 (k + 1) y0 y1 y2 y3 y4 y5 y6 y7 y8))
  | 0 => ⟨fun _ _ _ _ r h => by simp [vernierref06_Split.j0] at h, fun _ _ _ _ _ _ _ _ _ r h => by simp [vernierref06_Split.j1] at h, fun _ _ _ _ _ _ _ _ _ r h => by simp [vernierref06_Split.j2] at h⟩
  | k + 1 => by
    obtain ⟨ih0, ih1, ih2⟩ := vernierref06_Split.mono_l k
    refine ⟨?_, ?_, ?_⟩
    · intro y0 y1 y2 y3
      unfold vernierref06_Split.j0
      repeat' first
      | (with_reducible exact ih0 _ _ _ _)
      | (with_reducible exact ih1 _ _ _ _ _ _ _ _ _)
      | (with_reducible exact ih2 _ _ _ _ _ _ _ _ _)
      | (with_reducible exact vernierref01_Number.mono _ _)
      | (with_reducible exact vernierref01_Text.mono _ _ _)
      | (with_reducible exact vernierref05_Kind.mono _ _ _)
      | (with_reducible exact vernierref06_String.mono _ _ _)
      | (with_reducible exact vernierref06_run.mono _ _)
      | (with_reducible exact LeO.refl _)
      | (with_reducible exact LeO.none _)
      | (with_reducible refine LeO.ite ?_ ?_)
      | (with_reducible refine LeO.bind ?_ (fun _ => ?_))
      | exact ih0 _ _ _ _
      | exact ih1 _ _ _ _ _ _ _ _ _
      | exact ih2 _ _ _ _ _ _ _ _ _
      | exact vernierref01_Number.mono _ _
      | exact vernierref01_Text.mono _ _ _
      | exact vernierref05_Kind.mono _ _ _
      | exact vernierref06_String.mono _ _ _
      | exact vernierref06_run.mono _ _
      | exact LeO.none _
      | refine LeO.ite ?_ ?_
      | refine LeO.bind ?_ (fun _ => ?_)
    · intro y0 y1 y2 y3 y4 y5 y6 y7 y8
      unfold vernierref06_Split.j1
      repeat' first
      | (with_reducible exact ih0 _ _ _ _)
      | (with_reducible exact ih1 _ _ _ _ _ _ _ _ _)
      | (with_reducible exact ih2 _ _ _ _ _ _ _ _ _)
      | (with_reducible exact vernierref01_Number.mono _ _)
      | (with_reducible exact vernierref01_Text.mono _ _ _)
      | (with_reducible exact vernierref05_Kind.mono _ _ _)
      | (with_reducible exact vernierref06_String.mono _ _ _)
      | (with_reducible exact vernierref06_run.mono _ _)
      | (with_reducible exact LeO.refl _)
      | (with_reducible exact LeO.none _)
      | (with_reducible refine LeO.ite ?_ ?_)
      | (with_reducible refine LeO.bind ?_ (fun _ => ?_))
      | exact ih0 _ _ _ _
      | exact ih1 _ _ _ _ _ _ _ _ _
      | exact ih2 _ _ _ _ _ _ _ _ _
      | exact vernierref01_Number.mono _ _
      | exact vernierref01_Text.mono _ _ _
      | exact vernierref05_Kind.mono _ _ _
      | exact vernierref06_String.mono _ _ _
      | exact vernierref06_run.mono _ _
      | exact LeO.none _
      | refine LeO.ite ?_ ?_
      | refine LeO.bind ?_ (fun _ => ?_)
    · intro y0 y1 y2 y3 y4 y5 y6 y7 y8
      unfold vernierref06_Split.j2
      repeat' first
      | (with_reducible exact ih0 _ _ _ _)
      | (with_reducible exact ih1 _ _ _ _ _ _ _ _ _)
      | (with_reducible exact ih2 _ _ _ _ _ _ _ _ _)
      | (with_reducible exact vernierref01_Number.mono _ _)
      | (with_reducible exact vernierref01_Text.mono _ _ _)
      | (with_reducible exact vernierref05_Kind.mono _ _ _)
      | (with_reducible exact vernierref06_String.mono _ _ _)
      | (with_reducible exact vernierref06_run.mono _ _)
      | (with_reducible exact LeO.refl _)
      | (with_reducible exact LeO.none _)
      | (with_reducible refine LeO.ite ?_ ?_)
      | (with_reducible refine LeO.bind ?_ (fun _ => ?_))
      | exact ih0 _ _ _ _
      | exact ih1 _ _ _ _ _ _ _ _ _
      | exact ih2 _ _ _ _ _ _ _ _ _
      | exact vernierref01_Number.mono _ _
      | exact vernierref01_Text.mono _ _ _
      | exact vernierref05_Kind.mono _ _ _
      | exact vernierref06_String.mono _ _ _
      | exact vernierref06_run.mono _ _
      | exact LeO.none _
      | refine LeO.ite ?_ ?_
      | refine LeO.bind ?_ (fun _ => ?_)
theorem vernierref06_Split.mono : ∀ a0 a1 k, LeO (vernierref06_Split.f k a0 a1) (vernierref06_Split.f (k + 1) a0 a1) := by
  intro a0 a1 k
  obtain ⟨ih0, ih1, ih2⟩ := vernierref06_Split.mono_l k
  unfold vernierref06_Split.f
  repeat' first
      | (with_reducible exact ih0 _ _ _ _)
      | (with_reducible exact ih1 _ _ _ _ _ _ _ _ _)
      | (with_reducible exact ih2 _ _ _ _ _ _ _ _ _)
      | (with_reducible exact vernierref01_Number.mono _ _)
      | (with_reducible exact vernierref01_Text.mono _ _ _)
      | (with_reducible exact vernierref05_Kind.mono _ _ _)
      | (with_reducible exact vernierref06_String.mono _ _ _)
      | (with_reducible exact vernierref06_run.mono _ _)
      | (with_reducible exact LeO.refl _)
      | (with_reducible exact LeO.none _)
      | (with_reducible refine LeO.ite ?_ ?_)
      | (with_reducible refine LeO.bind ?_ (fun _ => ?_))
      | exact ih0 _ _ _ _
      | exact ih1 _ _ _ _ _ _ _ _ _
      | exact ih2 _ _ _ _ _ _ _ _ _
      | exact vernierref01_Number.mono _ _
      | exact vernierref01_Text.mono _ _ _
      | exact vernierref05_Kind.mono _ _ _
      | exact vernierref06_String.mono _ _ _
      | exact vernierref06_run.mono _ _
      | exact LeO.none _
      | refine LeO.ite ?_ ?_
      | refine LeO.bind ?_ (fun _ => ?_)
def vernierref06_Split.T5 : Bool × List (List Nat × List Nat) := (true, [([], []), ([], []), ([0, 1], [0, 1]), ([2], [2]), ([3], [3]), ([], []), ([5], [5]), ([6], [6]), ([], []), ([8, 2], [8]), ([4, 7, 9], [4, 7, 9]), ([], []), ([11, 10, 9, 0, 1, 2, 3, 4, 5, 6, 7, 8, 9, 10, 11], [10, 11])])
def vernierref06_Split.B5 : List Nat := [0, 0, 3, 7, 15, 0, 32, 96, 0, 263, 1023, 0, 4095]
theorem vernierref06_Split.tab5 : rtab .any (opsOf Try.f21 5) = vernierref06_Split.T5 := by kernel_rfl
theorem vernierref06_Split.bits5 : waitsOk vernierref06_Split.T5.2 vernierref06_Split.B5 = true := by kernel_rfl
set_option maxHeartbeats 8000000 in
set_option maxRecDepth 100000 in
theorem vernierref06_Split.calls (k : Nat) (a0 : Int) (a1 : Int) (r1 : Bool) (r2 : Bool) (r3 : Int) (r4 : Int) (r5 : Int) (r6 : Int) (r7 : Int) (r8 : Int) (r9 : Int) (w : World) (h : vernierref06_Split.f k a0 a1 = some (r1, r2, r3, r4, r5, r6, r7, r8, r9)) :
    Calls Try.prog 21 #[.int .i64 a0, .int .u64 a1] w fun e w' => e = .returned (.tuple #[.agg #[.bool r1, .bool r2, .int .i64 r3, .int .i64 r4, .int .i64 r5, .int .i64 r6, .int .i64 r7, .int .u64 r8], .int .i64 r9]) ∧ Below w.heap.size w w' := by
  have hu55 := Try.underlying55
  have HB := Aside0.mk (Below.refl w.heap.size w)
  have H : ((vernierref05_Kind.f k a0 a1).bind fun bt154 => (if bt154.2 = 0 then (vernierref06_Split.j0 k a0 a1 bt154.2 (bt154.1 != 1)) else (vernierref06_Split.j0 k a0 a1 bt154.2 true))) = some (r1, r2, r3, r4, r5, r6, r7, r8, r9) := h
  clear h
  replace H := Option.bind_eq_some_iff.mp H
  obtain ⟨⟨t154, t155⟩, A30, H⟩ := H
  replace H : (if t155 = 0 then (vernierref06_Split.j0 k a0 a1 t155 (t154 != 1)) else (vernierref06_Split.j0 k a0 a1 t155 true)) = some (r1, r2, r3, r4, r5, r6, r7, r8, r9) := H
  have A3 := Aside0.mk A30
  clear A30
  have HC4 := Aside0.mk H
  clear H
  go_enter Try.func21, Try.ntmps21
  go_upto_region 2 with (first | ((with_reducible refine gD (N := 4) rfl ?_); refine bE3 4 #[.bool false, .bool false, .int .i64 0, .int .i64 0, .int .i64 0, .int .i64 0, .int .i64 0, .int .u64 0] 55 ?hr ?_; (case hr => first | (go_simp; done) | (go_simp; rfl)); intro gb153 hg w5 hbox hb; have n0_ := Aside0.mk (bS3 HB.out hb); have n1_ := Aside0.mk (hbox); have n2_ := Aside0.mk ((bZ3 hg HB.out)); have n3_ := Aside0.mk ((bZ3 hg HB.out)); clear HB; have HB := n0_; have BK153 := n1_; have GW153 := n2_; have GE153 := n3_; clear n0_ n1_ n2_ n3_; clear hb hbox hg) | ((with_reducible refine gC (f := 20) rfl ?_); (with_reducible refine gD (N := 15) rfl ?_); refine goesY_ (some 15) Try.func20 #[.int .i64 a0, .int .u64 a1] ?_; (with_reducible refine (vernierref05_Kind.calls k a0 a1 t154 t155 _ A3.out).mono ?_); rintro e w6 ⟨rfl, hb⟩; refine ⟨_, rfl, ?_⟩; have n0_ := Aside0.mk (bB3 BK153.out hb); have n1_ := Aside0.mk (bS3 HB.out hb); clear BK153; clear HB; have BK153 := n0_; have HB := n1_; clear n0_ n1_; (try clear hb); (try clear hb2); (try clear hk); (try clear hi)))
  (try simp only [Act.put, List.setIfInBounds_toArray, List.set_cons_zero, List.set_cons_succ])
  go_cut [23] (fun v23 wc => ∃ (kq : Nat) (x23_3 : Bool), v23 = .bool x23_3 ∧ Aside0 (vernierref06_Split.j0 kq a0 a1 t155 x23_3 = some (r1, r2, r3, r4, r5, r6, r7, r8, r9)) ∧ Aside0 (kq ≤ k) ∧ Aside0 (wc.heap[gb153]? = some (.cells #[.bool false, .bool false, .int .i64 0, .int .i64 0, .int .i64 0, .int .i64 0, .int .i64 0, .int .u64 0] 55 (0, 0))) ∧ Aside0 (Below w.heap.size w wc))
  case first =>
    have H := HC4.out
    clear HC4
    by_cases c7 : t155 = 0
    · rw [if_pos c7] at H
      have c7b0 : (t155 == 0) = true := beq_iff_eq.mpr c7
      have c7b1 : (t155 != 0) = false := bne_eq_false_iff_eq.mpr c7
      clear c7
      (first | rw [c7b0] | (simp only [i64_w, i32_w]; rw [c7b0]) | skip)
      have H' := Aside0.mk H
      clear H
      go_wp2
      go_meet
      case rel => exact ⟨_, ((t154 != 1)), (by first | rfl | (simp; done) | (simp [*]; done)), H', ⟨by first | omega | exact Nat.le_refl _⟩, ⟨by (with_reducible repeat (first | refine bN ?_ _ | refine bD ?_ | refine bA ?_ _)); exact BK153.out⟩, ⟨by repeat (first | (with_reducible first | exact HB.out | apply pA | apply pN | apply p1 | refine pS ?_ GE153.out) | exact HB.out)⟩⟩
    · rw [if_neg c7] at H
      have c7b0 : (t155 == 0) = false := beq_eq_false_iff_ne.mpr c7
      have c7b1 : (t155 != 0) = true := bne_iff_ne.mpr c7
      (first | rw [c7b0] | (simp only [i64_w, i32_w]; rw [c7b0]) | skip)
      have H' := Aside0.mk H
      clear H
      go_wp2
      go_meet
      case rel => exact ⟨_, (true), (by first | rfl | (simp; done) | (simp [*]; done)), H', ⟨by first | omega | exact Nat.le_refl _⟩, ⟨by (with_reducible repeat (first | refine bN ?_ _ | refine bD ?_ | refine bA ?_ _)); exact BK153.out⟩, ⟨by repeat (first | (with_reducible first | exact HB.out | apply pA | apply pN | apply p1 | refine pS ?_ GE153.out) | exact HB.out)⟩⟩
  case rest =>
    clear HC4
    try clear c2
    try clear p2
    try clear c7
    try clear c7b0
    try clear c7b1
    obtain ⟨kq, x23_3, rfl, HA, HJ3, BK153, HB⟩ := hcut
    cases kq with
    | zero => exact absurd HA.out (by simp [vernierref06_Split.j0])
    | succ kj3 =>
      have H := HA.out
      clear HA
      simp only [vernierref06_Split.j0] at H
      by_cases c8 : x23_3 = true
      · subst c8
        have H1 : (some (false, false, 0, 0, 0, 0, 0, 0, t155)) = some (r1, r2, r3, r4, r5, r6, r7, r8, r9) := by rw [if_pos rfl] at H; exact H
        clear H
        have H := H1
        clear H1
        simp only [Option.some.injEq, Prod.mk.injEq] at H
        obtain ⟨rfl, rfl, rfl, rfl, rfl, rfl, rfl, rfl, rfl⟩ := H
        have hcz9_0 : wc.cell? ⟨gb153, 0, none⟩ = some (.bool false) := (blk_cell BK153.out 0).trans rfl
        have hcz9_1 : wc.cell? ⟨gb153, 1, none⟩ = some (.bool false) := (blk_cell BK153.out 1).trans rfl
        have hcz9_2 : wc.cell? ⟨gb153, 2, none⟩ = some (.int .i64 0) := (blk_cell BK153.out 2).trans rfl
        have hcz9_3 : wc.cell? ⟨gb153, 3, none⟩ = some (.int .i64 0) := (blk_cell BK153.out 3).trans rfl
        have hcz9_4 : wc.cell? ⟨gb153, 4, none⟩ = some (.int .i64 0) := (blk_cell BK153.out 4).trans rfl
        have hcz9_5 : wc.cell? ⟨gb153, 5, none⟩ = some (.int .i64 0) := (blk_cell BK153.out 5).trans rfl
        have hcz9_6 : wc.cell? ⟨gb153, 6, none⟩ = some (.int .i64 0) := (blk_cell BK153.out 6).trans rfl
        have hcz9_7 : wc.cell? ⟨gb153, 7, none⟩ = some (.int .u64 0) := (blk_cell BK153.out 7).trans rfl
        have hfz9_0 := blk_frozen BK153.out 0
        have hfz9_1 := blk_frozen BK153.out 1
        have hfz9_2 := blk_frozen BK153.out 2
        have hfz9_3 := blk_frozen BK153.out 3
        have hfz9_4 := blk_frozen BK153.out 4
        have hfz9_5 := blk_frozen BK153.out 5
        have hfz9_6 := blk_frozen BK153.out 6
        have hfz9_7 := blk_frozen BK153.out 7
        go_wp2
        refine bodyPost_ret (results_ct rfl _ _ gb153 55 #[.bool false, .bool false, .int .i64 0, .int .i64 0, .int .i64 0, .int .i64 0, .int .i64 0, .int .u64 0] (0, 0) _ rfl (by (with_reducible repeat (first | refine bN ?_ _ | refine bD ?_ | refine bA ?_ _)); refine blk_put (cs := #[.bool false, .bool false, .int .i64 0, .int .i64 0, .int .i64 0, .int .i64 0, .int .i64 0, .int .u64 0]) ?_ 7 _ rfl; (with_reducible repeat (first | refine bN ?_ _ | refine bD ?_ | refine bA ?_ _)); refine blk_put (cs := #[.bool false, .bool false, .int .i64 0, .int .i64 0, .int .i64 0, .int .i64 0, .int .i64 0, .int .u64 0]) ?_ 6 _ rfl; (with_reducible repeat (first | refine bN ?_ _ | refine bD ?_ | refine bA ?_ _)); refine blk_put (cs := #[.bool false, .bool false, .int .i64 0, .int .i64 0, .int .i64 0, .int .i64 0, .int .i64 0, .int .u64 0]) ?_ 5 _ rfl; (with_reducible repeat (first | refine bN ?_ _ | refine bD ?_ | refine bA ?_ _)); refine blk_put (cs := #[.bool false, .bool false, .int .i64 0, .int .i64 0, .int .i64 0, .int .i64 0, .int .i64 0, .int .u64 0]) ?_ 4 _ rfl; (with_reducible repeat (first | refine bN ?_ _ | refine bD ?_ | refine bA ?_ _)); refine blk_put (cs := #[.bool false, .bool false, .int .i64 0, .int .i64 0, .int .i64 0, .int .i64 0, .int .i64 0, .int .u64 0]) ?_ 3 _ rfl; (with_reducible repeat (first | refine bN ?_ _ | refine bD ?_ | refine bA ?_ _)); refine blk_put (cs := #[.bool false, .bool false, .int .i64 0, .int .i64 0, .int .i64 0, .int .i64 0, .int .i64 0, .int .u64 0]) ?_ 2 _ rfl; (with_reducible repeat (first | refine bN ?_ _ | refine bD ?_ | refine bA ?_ _)); refine blk_put (cs := #[.bool false, .bool false, .int .i64 0, .int .i64 0, .int .i64 0, .int .i64 0, .int .i64 0, .int .u64 0]) ?_ 1 _ rfl; (with_reducible repeat (first | refine bN ?_ _ | refine bD ?_ | refine bA ?_ _)); refine blk_put (cs := #[.bool false, .bool false, .int .i64 0, .int .i64 0, .int .i64 0, .int .i64 0, .int .i64 0, .int .u64 0]) ?_ 0 _ rfl; (with_reducible repeat (first | refine bN ?_ _ | refine bD ?_ | refine bA ?_ _)); exact BK153.out) Try.underlying55 rfl (by kernel_rfl)) rfl ?_
        exact ⟨by first | rfl | (simp [errW_none, errW_some] <;> rfl) | (simp [*, errW_none, errW_some] <;> rfl), by repeat (first | (with_reducible first | exact HB.out | apply pA | apply pN | apply p1 | refine pS ?_ GE153.out) | exact HB.out)⟩
      · replace c8 := Bool.eq_false_iff.mpr c8
        subst c8
        have H1 : ((vernierref06_String.f kj3 a0 a1).bind fun t156 => ((vernierref01_Text.f kj3 a1 a0).bind fun t157 => (if 0 < (t157.size : Int) then (if 0 < (t156.size : Int) then ((vernierref06_run.f kj3 t156).bind fun t158 => (if (bt t156 0) = 49 then (vernierref06_Split.j1 kj3 t156 ((bt t157 0) == 49) ((bt t156 0) == 49) t158 (wrap64 (t158 - 1)) 0 0 0 0) else (vernierref06_Split.j1 kj3 t156 ((bt t157 0) == 49) ((bt t156 0) == 49) t158 (wrap64 (-t158)) 0 0 0 0))) else (none)) else (none)))) = some (r1, r2, r3, r4, r5, r6, r7, r8, r9) := by rw [if_neg (show ¬ (false = true) by decide)] at H; exact H
        clear H
        have H := H1
        clear H1
        replace H := Option.bind_eq_some_iff.mp H
        obtain ⟨t156, A100, H⟩ := H
        replace H : ((vernierref01_Text.f kj3 a1 a0).bind fun t157 => (if 0 < (t157.size : Int) then (if 0 < (t156.size : Int) then ((vernierref06_run.f kj3 t156).bind fun t158 => (if (bt t156 0) = 49 then (vernierref06_Split.j1 kj3 t156 ((bt t157 0) == 49) ((bt t156 0) == 49) t158 (wrap64 (t158 - 1)) 0 0 0 0) else (vernierref06_Split.j1 kj3 t156 ((bt t157 0) == 49) ((bt t156 0) == 49) t158 (wrap64 (-t158)) 0 0 0 0))) else (none)) else (none))) = some (r1, r2, r3, r4, r5, r6, r7, r8, r9) := H
        have A10 := Aside0.mk A100
        clear A100
        replace H := Option.bind_eq_some_iff.mp H
        obtain ⟨t157, A110, H⟩ := H
        replace H : (if 0 < (t157.size : Int) then (if 0 < (t156.size : Int) then ((vernierref06_run.f kj3 t156).bind fun t158 => (if (bt t156 0) = 49 then (vernierref06_Split.j1 kj3 t156 ((bt t157 0) == 49) ((bt t156 0) == 49) t158 (wrap64 (t158 - 1)) 0 0 0 0) else (vernierref06_Split.j1 kj3 t156 ((bt t157 0) == 49) ((bt t156 0) == 49) t158 (wrap64 (-t158)) 0 0 0 0))) else (none)) else (none)) = some (r1, r2, r3, r4, r5, r6, r7, r8, r9) := H
        have A11 := Aside0.mk A110
        clear A110
        by_cases c12 : 0 < (t157.size : Int)
        · rw [if_pos c12] at H
          have c12b0 : decide (0 < (t157.size : Int)) = true := decide_eq_true c12
          have c12b1 : decide (0 < t157.size) = true := decide_eq_true (by omega)
          clear c12
          by_cases c14 : 0 < (t156.size : Int)
          · rw [if_pos c14] at H
            have c14b0 : decide (0 < (t156.size : Int)) = true := decide_eq_true c14
            have c14b1 : decide (0 < t156.size) = true := decide_eq_true (by omega)
            clear c14
            replace H := Option.bind_eq_some_iff.mp H
            obtain ⟨t158, A160, H⟩ := H
            replace H : (if (bt t156 0) = 49 then (vernierref06_Split.j1 kj3 t156 ((bt t157 0) == 49) ((bt t156 0) == 49) t158 (wrap64 (t158 - 1)) 0 0 0 0) else (vernierref06_Split.j1 kj3 t156 ((bt t157 0) == 49) ((bt t156 0) == 49) t158 (wrap64 (-t158)) 0 0 0 0)) = some (r1, r2, r3, r4, r5, r6, r7, r8, r9) := H
            have A16 := Aside0.mk A160
            clear A160
            have HC17 := Aside0.mk H
            clear H
            try go_wp2_with (first | ((with_reducible refine gC (f := 27) rfl ?_); (with_reducible refine gD (N := 28) rfl ?_); refine goesY_ (some 28) Try.func27 #[.int .i64 a0, .int .u64 a1] ?_; (with_reducible refine (vernierref06_String.calls kj3 a0 a1 t156 _ A10.out).mono ?_); rintro e w18 ⟨rfl, hb⟩; refine ⟨_, rfl, ?_⟩; have n0_ := Aside0.mk (bB3 BK153.out hb); have n1_ := Aside0.mk (bS3 HB.out hb); clear BK153; clear HB; have BK153 := n0_; have HB := n1_; clear n0_ n1_; (try clear hb); (try clear hb2); (try clear hk); (try clear hi)))
            have n0_ := Aside0.mk (bD BK153.out)
            have n1_ := Aside0.mk (p1 HB.out)
            clear BK153
            clear HB
            have BK153 := n0_
            have HB := n1_
            clear n0_ n1_
            have p15 : 0 ≤ (0 : Int) := (by omega)
            have q15 : 0 < t156.size := (by have : (0 : Int) < (t156.size : Int) := of_decide_eq_true (by first | (with_reducible assumption) | assumption); omega)
            have hx15 : ∀ h : 0 < t156.size, ((t156[0]'h).toNat : Int) = bt t156 0 := bt_at t156 0
            clear p15
            have qi15 : (0 < (t156.size : Int)) = True := eq_true (of_decide_eq_true (by first | (with_reducible assumption) | assumption))
            replace q15 := eq_true q15
            refine start_ (n := 13) (S := fun w' => True) (ds := []) #[false, false, false, false, false, false, false, false, false, false, false, false, false] (by kernel_rfl) rfl rfl trivial (fun hHeld => ?_); refine with_tabW vernierref06_Split.tab5 vernierref06_Split.bits5 (fun HT_ HW_ => ?_)
            generalize w18.drew = w19 at BK153 HB hHeld ⊢
            refine pure_ (i := 0) (N := some 29) (v := ?_) (a' := ?_) #[true, false, false, false, false, false, false, false, false, false, false, false, false] rfl rfl (any_of HT_.out (by kernel_rfl)) (fun _ _ _ h => h) (Or.inl ⟨by rfl, ?_⟩) ?_ ?_
            rotate_left
            · intro w'
              go_simp
              with_reducible rfl
            rotate_left
            · simp only [Act.put, List.setIfInBounds_toArray, List.set_cons_zero, List.set_cons_succ, i64_w, i32_w]
              rfl
            refine pure_ (i := 1) (N := some 30) (v := ?_) (a' := ?_) #[true, true, false, false, false, false, false, false, false, false, false, false, false] rfl rfl (any_of HT_.out (by kernel_rfl)) (fun _ _ _ h => h) (Or.inl ⟨by rfl, ?_⟩) ?_ ?_
            rotate_left
            · intro w'
              go_simp
              with_reducible rfl
            rotate_left
            · simp only [Act.put, List.setIfInBounds_toArray, List.set_cons_zero, List.set_cons_succ, i64_w, i32_w]
              rfl
            refine pure_ (i := 5) (N := some 34) (v := ?_) (a' := ?_) #[true, true, false, false, false, true, false, false, false, false, false, false, false] rfl rfl (any_of HT_.out (by kernel_rfl)) (fun _ _ _ h => h) (Or.inl ⟨by rfl, ?_⟩) ?_ ?_
            rotate_left
            · intro w'
              go_simp
              with_reducible rfl
            rotate_left
            · simp only [Act.put, List.setIfInBounds_toArray, List.set_cons_zero, List.set_cons_succ, i64_w, i32_w]
              rfl
            refine pure_ (i := 8) (N := some 37) (v := ?_) (a' := ?_) #[true, true, false, false, false, true, false, false, true, false, false, false, false] rfl rfl (any_of HT_.out (by kernel_rfl)) (fun _ _ _ h => h) (Or.inl ⟨by rfl, ?_⟩) ?_ ?_
            rotate_left
            · intro w'
              go_simp
              with_reducible rfl
            rotate_left
            · simp only [Act.put, List.setIfInBounds_toArray, List.set_cons_zero, List.set_cons_succ, i64_w, i32_w]
              rfl
            refine take_ (i := 6) (N := some 35) (v := ?_) (a' := ?_) #[true, true, false, false, false, true, true, false, true, false, false, false, false] rfl rfl (take_ofW HT_.out HW_.out (by kernel_rfl)) (fun _ _ _ h => h) (Or.inl ⟨by rfl, ?_⟩) hHeld ?_ ?_
            rotate_left
            · intro w' _
              go_simp
              with_reducible rfl
            rotate_left
            · simp only [Act.put, List.setIfInBounds_toArray, List.set_cons_zero, List.set_cons_succ, i64_w, i32_w]
              rfl
            refine pure_ (i := 7) (N := some 36) (v := ?_) (a' := ?_) #[true, true, false, false, false, true, true, true, true, false, false, false, false] rfl rfl (any_of HT_.out (by kernel_rfl)) (fun _ _ _ h => h) (Or.inl ⟨by rfl, ?_⟩) ?_ ?_
            rotate_left
            · intro w'
              go_simp
              with_reducible rfl
            rotate_left
            · simp only [Act.put, List.setIfInBounds_toArray, List.set_cons_zero, List.set_cons_succ, i64_w, i32_w]
              rfl
            have p13 : 0 ≤ (0 : Int) := (by omega)
            have q13 : 0 < t157.size := (by have : (0 : Int) < (t157.size : Int) := of_decide_eq_true (by first | (with_reducible assumption) | assumption); omega)
            have hx13 : ∀ h : 0 < t157.size, ((t157[0]'h).toNat : Int) = bt t157 0 := bt_at t157 0
            clear p13
            have qi13 : (0 < (t157.size : Int)) = True := eq_true (of_decide_eq_true (by first | (with_reducible assumption) | assumption))
            replace q13 := eq_true q13
            refine join_ (σ := Nat) 1 #[true, true, true, true, true, true, true, true, true, true, true, true, false] (fun s_ => [(31, .string t157), (38, .int .i64 t158), (9, .pointer (some ⟨s_, 0, none⟩)), (32, .int .u8 (bt t157 0)), (33, .bool ((bt t157 0) == 49)), (39, .agg #[.bool ((bt t157 0) == 49), .bool ((bt t156 0) == 49), .int .i64 t158, .int .i64 0, .int .i64 0, .int .i64 0, .int .i64 0, .int .u64 0])]) (fun s_ w' => (w'.heap[gb153]? = some (.cells #[.bool false, .bool false, .int .i64 0, .int .i64 0, .int .i64 0, .int .i64 0, .int .i64 0, .int .u64 0] 55 (0, 0))) ∧ (w'.heap[s_]? = some (.cells #[.bool false, .bool false, .int .i64 0, .int .i64 0, .int .i64 0, .int .i64 0, .int .i64 0, .int .u64 0] 55 (0, 0))) ∧ (w.heap.size ≤ s_) ∧ (w.heap.size ≤ s_) ∧ (gb153 ≠ s_) ∧ (s_ ≠ gb153) ∧ (Below w.heap.size w w')) ?_ ?_
            rotate_left
            · intro hCont
              refine two_ (i := 2) (j := 11) (Ni := some 31) (Nj := some 9) #[true, true, true, false, false, true, true, true, true, false, false, false, false] #[true, true, false, false, false, true, true, true, true, false, false, true, false] rfl rfl rfl rfl (two_of HT_.out (by kernel_rfl)) (by decide) (by decide) (fun K hK => ?_) (fun K hK => ?_)
              · skip
                refine goes_ Try.func22 (by kernel_rfl) rfl #[.int .u64 a1, .int .i64 a0] (by rfl) rfl rfl (by (try simp only [List.map_toArray, List.map_cons, List.map_nil]); first | done | rfl | (simp only [List.length_drop, List.length_take]; rfl)) ?_
                with_reducible refine (vernierref01_Text.calls kj3 a1 a0 t157 _ A11.out).mono ?_
                rintro e w20 ⟨rfl, hb⟩
                refine ⟨_, rfl, ?_⟩
                have n0_ := Aside0.mk (bB3 BK153.out hb)
                have n1_ := Aside0.mk (bS3 HB.out hb)
                clear BK153
                clear HB
                have BK153 := n0_
                have HB := n1_
                clear n0_ n1_
                (try clear hb)
                (try clear hb2)
                (try clear hk)
                (try clear hi)
                refine hK.out _ _ trivial (fun hHeld => ?_)
                clear hK K
                refine norm_ (a' := ?_) ?_ ?_
                rotate_left
                · show Act.put _ (some 31) _ = _
                  simp only [Act.put, List.setIfInBounds_toArray, List.set_cons_zero, List.set_cons_succ, i64_w, i32_w]
                  rfl
                refine take_ (i := 3) (N := some 32) (v := ?_) (a' := ?_) #[true, true, true, true, false, true, true, true, true, false, false, false, false] rfl rfl (take_ofW HT_.out HW_.out (by kernel_rfl)) (fun _ _ _ h => h) (Or.inl ⟨by rfl, ?_⟩) hHeld ?_ ?_
                rotate_left
                · intro w' _
                  go_simp
                  with_reducible rfl
                rotate_left
                · simp only [Act.put, List.setIfInBounds_toArray, List.set_cons_zero, List.set_cons_succ, i64_w, i32_w]
                  rfl
                refine pure_ (i := 4) (N := some 33) (v := ?_) (a' := ?_) #[true, true, true, true, true, true, true, true, true, false, false, false, false] rfl rfl (any_of HT_.out (by kernel_rfl)) (fun _ _ _ h => h) (Or.inl ⟨by rfl, ?_⟩) ?_ ?_
                rotate_left
                · intro w'
                  go_simp
                  with_reducible rfl
                rotate_left
                · simp only [Act.put, List.setIfInBounds_toArray, List.set_cons_zero, List.set_cons_succ, i64_w, i32_w]
                  rfl
                refine two_ (i := 9) (j := 11) (Ni := some 38) (Nj := some 9) #[true, true, true, true, true, true, true, true, true, true, false, false, false] #[true, true, true, true, true, true, true, true, true, false, false, true, false] rfl rfl rfl rfl (two_of HT_.out (by kernel_rfl)) (by decide) (by decide) (fun K hK => ?_) (fun K hK => ?_)
                · skip
                  refine goes_ Try.func28 (by kernel_rfl) rfl #[.string t156] (by rfl) rfl rfl (by (try simp only [List.map_toArray, List.map_cons, List.map_nil]); first | done | rfl | (simp only [List.length_drop, List.length_take]; rfl)) ?_
                  with_reducible refine (vernierref06_run.calls kj3 t156 t158 _ A16.out).mono ?_
                  rintro e w' ⟨rfl, ⟨nd, rfl⟩⟩
                  refine ⟨_, rfl, ?_⟩
                  refine hK.out _ _ trivial (fun hHeld => ?_)
                  clear hK K
                  refine norm_ (a' := ?_) ?_ ?_
                  rotate_left
                  · show Act.put _ (some 38) _ = _
                    simp only [Act.put, List.setIfInBounds_toArray, List.set_cons_zero, List.set_cons_succ, i64_w, i32_w]
                    rfl
                  refine pure_ (i := 10) (N := some 39) (v := ?_) (a' := ?_) #[true, true, true, true, true, true, true, true, true, true, true, false, false] rfl rfl (any_of HT_.out (by kernel_rfl)) (fun _ _ _ h => h) (Or.inl ⟨by rfl, ?_⟩) ?_ ?_
                  rotate_left
                  · intro w'
                    go_simp
                    with_reducible rfl
                  rotate_left
                  · simp only [Act.put, List.setIfInBounds_toArray, List.set_cons_zero, List.set_cons_succ, i64_w, i32_w]
                    rfl
                  refine one_ (i := 11) (N := some 9) #[true, true, true, true, true, true, true, true, true, true, true, true, false] rfl rfl (one_of HT_.out (by kernel_rfl)) (by decide) (fun K hK => ?_)
                  refine box_step ?hg (N := 9) ?hd (cs := #[.bool false, .bool false, .int .i64 0, .int .i64 0, .int .i64 0, .int .i64 0, .int .i64 0, .int .u64 0]) (t := 55) ?hr ?_; (case hd => rfl); (case hg => rfl); (case hr => first | (go_simp; done) | (go_simp; rfl))
                  intro gb159 hg w21 hbox hb
                  have n0_ := Aside0.mk (bB3 BK153.out hb)
                  have n1_ := Aside0.mk (bS3 HB.out hb)
                  have n2_ := Aside0.mk (hbox)
                  have n3_ := Aside0.mk ((bZ3 hg HB.out))
                  have n4_ := Aside0.mk ((bZ3 hg HB.out))
                  have n5_ := Aside0.mk ((bL3 hg BK153.out))
                  have n6_ := Aside0.mk ((bG3 hg BK153.out))
                  clear BK153
                  clear HB
                  have BK153 := n0_
                  have HB := n1_
                  have BK159 := n2_
                  have GW159 := n3_
                  have GE159 := n4_
                  have NB153_159 := n5_
                  have NB159_153 := n6_
                  clear n0_ n1_ n2_ n3_ n4_ n5_ n6_
                  clear hb hbox hg
                  refine hK.out _ _ trivial (fun hHeld => ?_)
                  clear hK K
                  refine norm_ (a' := ?_) ?_ ?_
                  rotate_left
                  · show Act.put _ (some 9) _ = _
                    simp only [Act.put, List.setIfInBounds_toArray, List.set_cons_zero, List.set_cons_succ, i64_w, i32_w]
                    rfl
                  exact norm_ (by simp only [putAll, Act.put, List.setIfInBounds_toArray, List.set_cons_zero, List.set_cons_succ]) (hCont (gb159) _ ⟨(by (with_reducible repeat (first | refine bN ?_ _ | refine bD ?_ | refine bA ?_ _)); exact BK153.out), (by (with_reducible repeat (first | refine bN ?_ _ | refine bD ?_ | refine bA ?_ _)); exact BK159.out), GW159.out, GE159.out, NB153_159.out, NB159_153.out, (by repeat (first | (with_reducible first | exact HB.out | apply pA | apply pN | apply p1 | refine pS ?_ GE153.out | refine pS ?_ GE159.out) | exact HB.out))⟩)
                · skip
                  refine box_step ?hg (N := 9) ?hd (cs := #[.bool false, .bool false, .int .i64 0, .int .i64 0, .int .i64 0, .int .i64 0, .int .i64 0, .int .u64 0]) (t := 55) ?hr ?_; (case hd => rfl); (case hg => rfl); (case hr => first | (go_simp; done) | (go_simp; rfl))
                  intro gb159 hg w21 hbox hb
                  have n0_ := Aside0.mk (bB3 BK153.out hb)
                  have n1_ := Aside0.mk (bS3 HB.out hb)
                  have n2_ := Aside0.mk (hbox)
                  have n3_ := Aside0.mk ((bZ3 hg HB.out))
                  have n4_ := Aside0.mk ((bZ3 hg HB.out))
                  have n5_ := Aside0.mk ((bL3 hg BK153.out))
                  have n6_ := Aside0.mk ((bG3 hg BK153.out))
                  clear BK153
                  clear HB
                  have BK153 := n0_
                  have HB := n1_
                  have BK159 := n2_
                  have GW159 := n3_
                  have GE159 := n4_
                  have NB153_159 := n5_
                  have NB159_153 := n6_
                  clear n0_ n1_ n2_ n3_ n4_ n5_ n6_
                  clear hb hbox hg
                  refine hK.out _ _ trivial (fun hHeld => ?_)
                  clear hK K
                  refine norm_ (a' := ?_) ?_ ?_
                  rotate_left
                  · show Act.put _ (some 9) _ = _
                    simp only [Act.put, List.setIfInBounds_toArray, List.set_cons_zero, List.set_cons_succ, i64_w, i32_w]
                    rfl
                  refine one_ (i := 9) (N := some 38) #[true, true, true, true, true, true, true, true, true, true, false, true, false] rfl rfl (one_of HT_.out (by kernel_rfl)) (by decide) (fun K hK => ?_)
                  refine goes_ Try.func28 (by kernel_rfl) rfl #[.string t156] (by rfl) rfl rfl (by (try simp only [List.map_toArray, List.map_cons, List.map_nil]); first | done | rfl | (simp only [List.length_drop, List.length_take]; rfl)) ?_
                  with_reducible refine (vernierref06_run.calls kj3 t156 t158 _ A16.out).mono ?_
                  rintro e w' ⟨rfl, ⟨nd, rfl⟩⟩
                  refine ⟨_, rfl, ?_⟩
                  refine hK.out _ _ trivial (fun hHeld => ?_)
                  clear hK K
                  refine norm_ (a' := ?_) ?_ ?_
                  rotate_left
                  · show Act.put _ (some 38) _ = _
                    simp only [Act.put, List.setIfInBounds_toArray, List.set_cons_zero, List.set_cons_succ, i64_w, i32_w]
                    rfl
                  refine pure_ (i := 10) (N := some 39) (v := ?_) (a' := ?_) #[true, true, true, true, true, true, true, true, true, true, true, true, false] rfl rfl (any_of HT_.out (by kernel_rfl)) (fun _ _ _ h => h) (Or.inl ⟨by rfl, ?_⟩) ?_ ?_
                  rotate_left
                  · intro w'
                    go_simp
                    with_reducible rfl
                  rotate_left
                  · simp only [Act.put, List.setIfInBounds_toArray, List.set_cons_zero, List.set_cons_succ, i64_w, i32_w]
                    rfl
                  exact norm_ (by simp only [putAll, Act.put, List.setIfInBounds_toArray, List.set_cons_zero, List.set_cons_succ]) (hCont (gb159) _ ⟨(by (with_reducible repeat (first | refine bN ?_ _ | refine bD ?_ | refine bA ?_ _)); exact BK153.out), (by (with_reducible repeat (first | refine bN ?_ _ | refine bD ?_ | refine bA ?_ _)); exact BK159.out), GW159.out, GE159.out, NB153_159.out, NB159_153.out, (by repeat (first | (with_reducible first | exact HB.out | apply pA | apply pN | apply p1 | refine pS ?_ GE153.out | refine pS ?_ GE159.out) | exact HB.out))⟩)
              · skip
                refine box_step ?hg (N := 9) ?hd (cs := #[.bool false, .bool false, .int .i64 0, .int .i64 0, .int .i64 0, .int .i64 0, .int .i64 0, .int .u64 0]) (t := 55) ?hr ?_; (case hd => rfl); (case hg => rfl); (case hr => first | (go_simp; done) | (go_simp; rfl))
                intro gb159 hg w20 hbox hb
                have n0_ := Aside0.mk (bB3 BK153.out hb)
                have n1_ := Aside0.mk (bS3 HB.out hb)
                have n2_ := Aside0.mk (hbox)
                have n3_ := Aside0.mk ((bZ3 hg HB.out))
                have n4_ := Aside0.mk ((bZ3 hg HB.out))
                have n5_ := Aside0.mk ((bL3 hg BK153.out))
                have n6_ := Aside0.mk ((bG3 hg BK153.out))
                clear BK153
                clear HB
                have BK153 := n0_
                have HB := n1_
                have BK159 := n2_
                have GW159 := n3_
                have GE159 := n4_
                have NB153_159 := n5_
                have NB159_153 := n6_
                clear n0_ n1_ n2_ n3_ n4_ n5_ n6_
                clear hb hbox hg
                refine hK.out _ _ trivial (fun hHeld => ?_)
                clear hK K
                refine norm_ (a' := ?_) ?_ ?_
                rotate_left
                · show Act.put _ (some 9) _ = _
                  simp only [Act.put, List.setIfInBounds_toArray, List.set_cons_zero, List.set_cons_succ, i64_w, i32_w]
                  rfl
                refine one_ (i := 2) (N := some 31) #[true, true, true, false, false, true, true, true, true, false, false, true, false] rfl rfl (one_of HT_.out (by kernel_rfl)) (by decide) (fun K hK => ?_)
                refine goes_ Try.func22 (by kernel_rfl) rfl #[.int .u64 a1, .int .i64 a0] (by rfl) rfl rfl (by (try simp only [List.map_toArray, List.map_cons, List.map_nil]); first | done | rfl | (simp only [List.length_drop, List.length_take]; rfl)) ?_
                with_reducible refine (vernierref01_Text.calls kj3 a1 a0 t157 _ A11.out).mono ?_
                rintro e w21 ⟨rfl, hb⟩
                refine ⟨_, rfl, ?_⟩
                have n0_ := Aside0.mk (bB3 BK153.out hb)
                have n1_ := Aside0.mk (bB3 BK159.out hb)
                have n2_ := Aside0.mk (bS3 HB.out hb)
                clear BK153
                clear BK159
                clear HB
                have BK153 := n0_
                have BK159 := n1_
                have HB := n2_
                clear n0_ n1_ n2_
                (try clear hb)
                (try clear hb2)
                (try clear hk)
                (try clear hi)
                refine hK.out _ _ trivial (fun hHeld => ?_)
                clear hK K
                refine norm_ (a' := ?_) ?_ ?_
                rotate_left
                · show Act.put _ (some 31) _ = _
                  simp only [Act.put, List.setIfInBounds_toArray, List.set_cons_zero, List.set_cons_succ, i64_w, i32_w]
                  rfl
                refine take_ (i := 3) (N := some 32) (v := ?_) (a' := ?_) #[true, true, true, true, false, true, true, true, true, false, false, true, false] rfl rfl (take_ofW HT_.out HW_.out (by kernel_rfl)) (fun _ _ _ h => h) (Or.inl ⟨by rfl, ?_⟩) hHeld ?_ ?_
                rotate_left
                · intro w' _
                  go_simp
                  with_reducible rfl
                rotate_left
                · simp only [Act.put, List.setIfInBounds_toArray, List.set_cons_zero, List.set_cons_succ, i64_w, i32_w]
                  rfl
                refine pure_ (i := 4) (N := some 33) (v := ?_) (a' := ?_) #[true, true, true, true, true, true, true, true, true, false, false, true, false] rfl rfl (any_of HT_.out (by kernel_rfl)) (fun _ _ _ h => h) (Or.inl ⟨by rfl, ?_⟩) ?_ ?_
                rotate_left
                · intro w'
                  go_simp
                  with_reducible rfl
                rotate_left
                · simp only [Act.put, List.setIfInBounds_toArray, List.set_cons_zero, List.set_cons_succ, i64_w, i32_w]
                  rfl
                refine one_ (i := 9) (N := some 38) #[true, true, true, true, true, true, true, true, true, true, false, true, false] rfl rfl (one_of HT_.out (by kernel_rfl)) (by decide) (fun K hK => ?_)
                refine goes_ Try.func28 (by kernel_rfl) rfl #[.string t156] (by rfl) rfl rfl (by (try simp only [List.map_toArray, List.map_cons, List.map_nil]); first | done | rfl | (simp only [List.length_drop, List.length_take]; rfl)) ?_
                with_reducible refine (vernierref06_run.calls kj3 t156 t158 _ A16.out).mono ?_
                rintro e w' ⟨rfl, ⟨nd, rfl⟩⟩
                refine ⟨_, rfl, ?_⟩
                refine hK.out _ _ trivial (fun hHeld => ?_)
                clear hK K
                refine norm_ (a' := ?_) ?_ ?_
                rotate_left
                · show Act.put _ (some 38) _ = _
                  simp only [Act.put, List.setIfInBounds_toArray, List.set_cons_zero, List.set_cons_succ, i64_w, i32_w]
                  rfl
                refine pure_ (i := 10) (N := some 39) (v := ?_) (a' := ?_) #[true, true, true, true, true, true, true, true, true, true, true, true, false] rfl rfl (any_of HT_.out (by kernel_rfl)) (fun _ _ _ h => h) (Or.inl ⟨by rfl, ?_⟩) ?_ ?_
                rotate_left
                · intro w'
                  go_simp
                  with_reducible rfl
                rotate_left
                · simp only [Act.put, List.setIfInBounds_toArray, List.set_cons_zero, List.set_cons_succ, i64_w, i32_w]
                  rfl
                exact norm_ (by simp only [putAll, Act.put, List.setIfInBounds_toArray, List.set_cons_zero, List.set_cons_succ]) (hCont (gb159) _ ⟨(by (with_reducible repeat (first | refine bN ?_ _ | refine bD ?_ | refine bA ?_ _)); exact BK153.out), (by (with_reducible repeat (first | refine bN ?_ _ | refine bD ?_ | refine bA ?_ _)); exact BK159.out), GW159.out, GE159.out, NB153_159.out, NB159_153.out, (by repeat (first | (with_reducible first | exact HB.out | apply pA | apply pN | apply p1 | refine pS ?_ GE153.out | refine pS ?_ GE159.out) | exact HB.out))⟩)
            rintro gb159 w22 ⟨h0_, h1_, h2_, h3_, h4_, h5_, h6_⟩
            have n0_ : Aside0 (w22.heap[gb153]? = some (.cells #[.bool false, .bool false, .int .i64 0, .int .i64 0, .int .i64 0, .int .i64 0, .int .i64 0, .int .u64 0] 55 (0, 0))) := ⟨h0_⟩
            have n1_ : Aside0 (w22.heap[gb159]? = some (.cells #[.bool false, .bool false, .int .i64 0, .int .i64 0, .int .i64 0, .int .i64 0, .int .i64 0, .int .u64 0] 55 (0, 0))) := ⟨h1_⟩
            have n2_ : Aside0 (w.heap.size ≤ gb159) := ⟨h2_⟩
            have n3_ : Aside0 (w.heap.size ≤ gb159) := ⟨h3_⟩
            have n4_ : Aside0 (gb153 ≠ gb159) := ⟨h4_⟩
            have n5_ : Aside0 (gb159 ≠ gb153) := ⟨h5_⟩
            have n6_ : Aside0 (Below w.heap.size w w22) := ⟨h6_⟩
            clear BK153
            clear HB
            clear h0_ h1_ h2_ h3_ h4_ h5_ h6_
            have BK153 := n0_
            have BK159 := n1_
            have GW159 := n2_
            have GE159 := n3_
            have NB153_159 := n4_
            have NB159_153 := n5_
            have HB := n6_
            clear n0_ n1_ n2_ n3_ n4_ n5_ n6_
            have hHeld := trivial
            have p13 : 0 ≤ (0 : Int) := (by omega)
            have q13 : 0 < t157.size := (by have : (0 : Int) < (t157.size : Int) := of_decide_eq_true (by first | (with_reducible assumption) | assumption); omega)
            have hx13 : ∀ h : 0 < t157.size, ((t157[0]'h).toNat : Int) = bt t157 0 := bt_at t157 0
            clear p13
            have qi13 : (0 < (t157.size : Int)) = True := eq_true (of_decide_eq_true (by first | (with_reducible assumption) | assumption))
            replace q13 := eq_true q13
            refine norm_ (a' := ?_) ?_ ?_
            rotate_left
            · simp only [putAll, Act.put, List.setIfInBounds_toArray, List.set_cons_zero, List.set_cons_succ]
              rfl
            refine one_ (i := 12) (N := none) #[true, true, true, true, true, true, true, true, true, true, true, true, true] rfl rfl (one_of HT_.out (by kernel_rfl)) (by decide) (fun K hK => ?_)
            have hs23 : w22.cell? ⟨gb159, 0, none⟩ = some (.bool false) := (blk_cell BK159.out 0).trans rfl
            have hfs23 := blk_frozen BK159.out 0
            have hns23_0 := NB153_159.out
            have hms23_0 := NB159_153.out
            have hs24 : w22.cell? ⟨gb159, 1, none⟩ = some (.bool false) := (blk_cell BK159.out 1).trans rfl
            have hfs24 := blk_frozen BK159.out 1
            have hns24_0 := NB153_159.out
            have hms24_0 := NB159_153.out
            have hs25 : w22.cell? ⟨gb159, 2, none⟩ = some (.int .i64 0) := (blk_cell BK159.out 2).trans rfl
            have hfs25 := blk_frozen BK159.out 2
            have hns25_0 := NB153_159.out
            have hms25_0 := NB159_153.out
            have hs26 : w22.cell? ⟨gb159, 3, none⟩ = some (.int .i64 0) := (blk_cell BK159.out 3).trans rfl
            have hfs26 := blk_frozen BK159.out 3
            have hns26_0 := NB153_159.out
            have hms26_0 := NB159_153.out
            have hs27 : w22.cell? ⟨gb159, 4, none⟩ = some (.int .i64 0) := (blk_cell BK159.out 4).trans rfl
            have hfs27 := blk_frozen BK159.out 4
            have hns27_0 := NB153_159.out
            have hms27_0 := NB159_153.out
            have hs28 : w22.cell? ⟨gb159, 5, none⟩ = some (.int .i64 0) := (blk_cell BK159.out 5).trans rfl
            have hfs28 := blk_frozen BK159.out 5
            have hns28_0 := NB153_159.out
            have hms28_0 := NB159_153.out
            have hs29 : w22.cell? ⟨gb159, 6, none⟩ = some (.int .i64 0) := (blk_cell BK159.out 6).trans rfl
            have hfs29 := blk_frozen BK159.out 6
            have hns29_0 := NB153_159.out
            have hms29_0 := NB159_153.out
            have hs30 : w22.cell? ⟨gb159, 7, none⟩ = some (.int .u64 0) := (blk_cell BK159.out 7).trans rfl
            have hfs30 := blk_frozen BK159.out 7
            have hns30_0 := NB153_159.out
            have hms30_0 := NB159_153.out
            refine skip_ (w1 := ?_) (by rfl) rfl ?_ ?_
            rotate_left
            · go_simp
              rfl
            refine hK.out _ _ trivial (fun hHeld => ?_)
            clear hK K
            refine done_ (done_of HT_.out (by kernel_rfl)) ?_
            have hnb31 := NB159_153.out
            have hnc31 := NB153_159.out
            have hcz32_0 : w22.cell? ⟨gb159, 0, none⟩ = some (.bool false) := (blk_cell BK159.out 0).trans rfl
            have hcz32_1 : w22.cell? ⟨gb159, 1, none⟩ = some (.bool false) := (blk_cell BK159.out 1).trans rfl
            have hcz32_2 : w22.cell? ⟨gb159, 2, none⟩ = some (.int .i64 0) := (blk_cell BK159.out 2).trans rfl
            have hcz32_3 : w22.cell? ⟨gb159, 3, none⟩ = some (.int .i64 0) := (blk_cell BK159.out 3).trans rfl
            have hcz32_4 : w22.cell? ⟨gb159, 4, none⟩ = some (.int .i64 0) := (blk_cell BK159.out 4).trans rfl
            have hcz32_5 : w22.cell? ⟨gb159, 5, none⟩ = some (.int .i64 0) := (blk_cell BK159.out 5).trans rfl
            have hcz32_6 : w22.cell? ⟨gb159, 6, none⟩ = some (.int .i64 0) := (blk_cell BK159.out 6).trans rfl
            have hcz32_7 : w22.cell? ⟨gb159, 7, none⟩ = some (.int .u64 0) := (blk_cell BK159.out 7).trans rfl
            have hfz32_0 := blk_frozen BK159.out 0
            have hfz32_1 := blk_frozen BK159.out 1
            have hfz32_2 := blk_frozen BK159.out 2
            have hfz32_3 := blk_frozen BK159.out 3
            have hfz32_4 := blk_frozen BK159.out 4
            have hfz32_5 := blk_frozen BK159.out 5
            have hfz32_6 := blk_frozen BK159.out 6
            have hfz32_7 := blk_frozen BK159.out 7
            go_upto_if 45 with (fail)
            go_cut [] (fun wc => ∃ (kq : Nat) (x160003_16 : Int), Aside0 (vernierref06_Split.j1 kq t156 ((bt t157 0) == 49) ((bt t156 0) == 49) t158 x160003_16 0 0 0 0 = some (r1, r2, r3, r4, r5, r6, r7, r8, r9)) ∧ Aside0 (kq ≤ kj3) ∧ Aside0 (wc.heap[gb153]? = some (.cells #[.bool false, .bool false, .int .i64 0, .int .i64 0, .int .i64 0, .int .i64 0, .int .i64 0, .int .u64 0] 55 (0, 0))) ∧ Aside0 (wc.heap[gb159]? = some (.cells #[.bool ((bt t157 0) == 49), .bool ((bt t156 0) == 49), .int .i64 t158, .int .i64 x160003_16, .int .i64 0, .int .i64 0, .int .i64 0, .int .u64 0] 55 (0, 0))) ∧ Aside0 (Below w.heap.size w wc))
            case first =>
              have H := HC17.out
              clear HC17
              by_cases c33 : (bt t156 0) = 49
              · rw [if_pos c33] at H
                have c33b0 : ((bt t156 0) == 49) = true := beq_iff_eq.mpr c33
                have c33b1 : ((bt t156 0) != 49) = false := bne_eq_false_iff_eq.mpr c33
                clear c33
                (first | rw [c33b0] | (simp only [i64_w, i32_w]; rw [c33b0]) | skip)
                have H' := Aside0.mk H
                clear H
                have hnb34 := NB159_153.out
                have hnc34 := NB153_159.out
                have hcz35_0 : w22.cell? ⟨gb159, 0, none⟩ = some (.bool false) := (blk_cell BK159.out 0).trans rfl
                have hcz35_1 : w22.cell? ⟨gb159, 1, none⟩ = some (.bool false) := (blk_cell BK159.out 1).trans rfl
                have hcz35_2 : w22.cell? ⟨gb159, 2, none⟩ = some (.int .i64 0) := (blk_cell BK159.out 2).trans rfl
                have hcz35_3 : w22.cell? ⟨gb159, 3, none⟩ = some (.int .i64 0) := (blk_cell BK159.out 3).trans rfl
                have hcz35_4 : w22.cell? ⟨gb159, 4, none⟩ = some (.int .i64 0) := (blk_cell BK159.out 4).trans rfl
                have hcz35_5 : w22.cell? ⟨gb159, 5, none⟩ = some (.int .i64 0) := (blk_cell BK159.out 5).trans rfl
                have hcz35_6 : w22.cell? ⟨gb159, 6, none⟩ = some (.int .i64 0) := (blk_cell BK159.out 6).trans rfl
                have hcz35_7 : w22.cell? ⟨gb159, 7, none⟩ = some (.int .u64 0) := (blk_cell BK159.out 7).trans rfl
                have hfz35_0 := blk_frozen BK159.out 0
                have hfz35_1 := blk_frozen BK159.out 1
                have hfz35_2 := blk_frozen BK159.out 2
                have hfz35_3 := blk_frozen BK159.out 3
                have hfz35_4 := blk_frozen BK159.out 4
                have hfz35_5 := blk_frozen BK159.out 5
                have hfz35_6 := blk_frozen BK159.out 6
                have hfz35_7 := blk_frozen BK159.out 7
                apply anewC_ gb159
                · repeat (first | (with_reducible refine bN ?_ _) | (with_reducible refine bD ?_) | (with_reducible refine blk_drewN ?_ _) | (with_reducible refine blk_drew ?_) | (with_reducible apply blk_set) | (with_reducible exact BK159.out))
                intro wz t_ k1_
                have told_ := Aside0.mk t_
                clear t_
                simp only [List.setIfInBounds_toArray, List.set_cons_zero, List.set_cons_succ] at k1_
                have hy1_0 := blk_cellL k1_ 0 _ rfl
                have hy1_1 := blk_cellL k1_ 1 _ rfl
                have hy1_2 := blk_cellL k1_ 2 _ rfl
                have hy1_3 := blk_cellL k1_ 3 _ rfl
                have hy1_4 := blk_cellL k1_ 4 _ rfl
                have hy1_5 := blk_cellL k1_ 5 _ rfl
                have hy1_6 := blk_cellL k1_ 6 _ rfl
                have hy1_7 := blk_cellL k1_ 7 _ rfl
                have hy3_0 := blk_frozen k1_ 0
                have hy3_1 := blk_frozen k1_ 1
                have hy3_2 := blk_frozen k1_ 2
                have hy3_3 := blk_frozen k1_ 3
                have hy3_4 := blk_frozen k1_ 4
                have hy3_5 := blk_frozen k1_ 5
                have hy3_6 := blk_frozen k1_ 6
                have hy3_7 := blk_frozen k1_ 7
                clear k1_
                go_wp2
                have t_ := told_.out
                clear told_
                subst t_
                go_meet
                case rel => exact ⟨_, (wrap64 (t158 - 1)), H', ⟨by have := HJ3.out; first | omega | exact Nat.le_refl _⟩, ⟨by (with_reducible repeat (first | refine bN ?_ _ | refine bD ?_ | refine bA ?_ _)); refine blk_far ?_ NB153_159.out _; (with_reducible repeat (first | refine bN ?_ _ | refine bD ?_ | refine bA ?_ _)); refine blk_far ?_ NB153_159.out _; (with_reducible repeat (first | refine bN ?_ _ | refine bD ?_ | refine bA ?_ _)); refine blk_far ?_ NB153_159.out _; (with_reducible repeat (first | refine bN ?_ _ | refine bD ?_ | refine bA ?_ _)); refine blk_far ?_ NB153_159.out _; (with_reducible repeat (first | refine bN ?_ _ | refine bD ?_ | refine bA ?_ _)); refine blk_far ?_ NB153_159.out _; (with_reducible repeat (first | refine bN ?_ _ | refine bD ?_ | refine bA ?_ _)); refine blk_far ?_ NB153_159.out _; (with_reducible repeat (first | refine bN ?_ _ | refine bD ?_ | refine bA ?_ _)); refine blk_far ?_ NB153_159.out _; (with_reducible repeat (first | refine bN ?_ _ | refine bD ?_ | refine bA ?_ _)); refine blk_far ?_ NB153_159.out _; (with_reducible repeat (first | refine bN ?_ _ | refine bD ?_ | refine bA ?_ _)); refine blk_far ?_ NB153_159.out _; (with_reducible repeat (first | refine bN ?_ _ | refine bD ?_ | refine bA ?_ _)); refine blk_far ?_ NB153_159.out _; (with_reducible repeat (first | refine bN ?_ _ | refine bD ?_ | refine bA ?_ _)); exact BK153.out⟩, ⟨by (with_reducible repeat (first | refine bN ?_ _ | refine bD ?_ | refine bA ?_ _)); refine blk_put (cs := #[.bool ((bt t157 0) == 49), .bool ((bt t156 0) == 49), .int .i64 t158, .int .i64 (wrap64 (-t158)), .int .i64 0, .int .i64 0, .int .i64 0, .int .u64 0]) ?_ 3 _ rfl; (with_reducible repeat (first | refine bN ?_ _ | refine bD ?_ | refine bA ?_ _)); refine blk_put (cs := #[.bool ((bt t157 0) == 49), .bool ((bt t156 0) == 49), .int .i64 t158, .int .i64 0, .int .i64 0, .int .i64 0, .int .i64 0, .int .u64 0]) ?_ 3 _ rfl; (with_reducible repeat (first | refine bN ?_ _ | refine bD ?_ | refine bA ?_ _)); refine blk_put (cs := #[.bool ((bt t157 0) == 49), .bool ((bt t156 0) == 49), .int .i64 t158, .int .i64 0, .int .i64 0, .int .i64 0, .int .i64 0, .int .u64 0]) ?_ 7 _ rfl; (with_reducible repeat (first | refine bN ?_ _ | refine bD ?_ | refine bA ?_ _)); refine blk_put (cs := #[.bool ((bt t157 0) == 49), .bool ((bt t156 0) == 49), .int .i64 t158, .int .i64 0, .int .i64 0, .int .i64 0, .int .i64 0, .int .u64 0]) ?_ 6 _ rfl; (with_reducible repeat (first | refine bN ?_ _ | refine bD ?_ | refine bA ?_ _)); refine blk_put (cs := #[.bool ((bt t157 0) == 49), .bool ((bt t156 0) == 49), .int .i64 t158, .int .i64 0, .int .i64 0, .int .i64 0, .int .i64 0, .int .u64 0]) ?_ 5 _ rfl; (with_reducible repeat (first | refine bN ?_ _ | refine bD ?_ | refine bA ?_ _)); refine blk_put (cs := #[.bool ((bt t157 0) == 49), .bool ((bt t156 0) == 49), .int .i64 t158, .int .i64 0, .int .i64 0, .int .i64 0, .int .i64 0, .int .u64 0]) ?_ 4 _ rfl; (with_reducible repeat (first | refine bN ?_ _ | refine bD ?_ | refine bA ?_ _)); refine blk_put (cs := #[.bool ((bt t157 0) == 49), .bool ((bt t156 0) == 49), .int .i64 t158, .int .i64 0, .int .i64 0, .int .i64 0, .int .i64 0, .int .u64 0]) ?_ 3 _ rfl; (with_reducible repeat (first | refine bN ?_ _ | refine bD ?_ | refine bA ?_ _)); refine blk_put (cs := #[.bool ((bt t157 0) == 49), .bool ((bt t156 0) == 49), .int .i64 0, .int .i64 0, .int .i64 0, .int .i64 0, .int .i64 0, .int .u64 0]) ?_ 2 _ rfl; (with_reducible repeat (first | refine bN ?_ _ | refine bD ?_ | refine bA ?_ _)); refine blk_put (cs := #[.bool ((bt t157 0) == 49), .bool false, .int .i64 0, .int .i64 0, .int .i64 0, .int .i64 0, .int .i64 0, .int .u64 0]) ?_ 1 _ (by first | rfl | (rw [c33b0]; rfl)); (with_reducible repeat (first | refine bN ?_ _ | refine bD ?_ | refine bA ?_ _)); refine blk_put (cs := #[.bool false, .bool false, .int .i64 0, .int .i64 0, .int .i64 0, .int .i64 0, .int .i64 0, .int .u64 0]) ?_ 0 _ rfl; (with_reducible repeat (first | refine bN ?_ _ | refine bD ?_ | refine bA ?_ _)); exact BK159.out⟩, ⟨by repeat (first | (with_reducible first | exact HB.out | apply pA | apply pN | apply p1 | refine pS ?_ GE153.out | refine pS ?_ GE159.out) | exact HB.out)⟩⟩
              · rw [if_neg c33] at H
                have c33b0 : ((bt t156 0) == 49) = false := beq_eq_false_iff_ne.mpr c33
                have c33b1 : ((bt t156 0) != 49) = true := bne_iff_ne.mpr c33
                (first | rw [c33b0] | (simp only [i64_w, i32_w]; rw [c33b0]) | skip)
                have H' := Aside0.mk H
                clear H
                apply anewC_ gb159
                · repeat (first | (with_reducible refine bN ?_ _) | (with_reducible refine bD ?_) | (with_reducible refine blk_drewN ?_ _) | (with_reducible refine blk_drew ?_) | (with_reducible apply blk_set) | (with_reducible exact BK159.out))
                intro wz t_ k1_
                have told_ := Aside0.mk t_
                clear t_
                simp only [List.setIfInBounds_toArray, List.set_cons_zero, List.set_cons_succ] at k1_
                have hy1_0 := blk_cellL k1_ 0 _ rfl
                have hy1_1 := blk_cellL k1_ 1 _ rfl
                have hy1_2 := blk_cellL k1_ 2 _ rfl
                have hy1_3 := blk_cellL k1_ 3 _ rfl
                have hy1_4 := blk_cellL k1_ 4 _ rfl
                have hy1_5 := blk_cellL k1_ 5 _ rfl
                have hy1_6 := blk_cellL k1_ 6 _ rfl
                have hy1_7 := blk_cellL k1_ 7 _ rfl
                have hy3_0 := blk_frozen k1_ 0
                have hy3_1 := blk_frozen k1_ 1
                have hy3_2 := blk_frozen k1_ 2
                have hy3_3 := blk_frozen k1_ 3
                have hy3_4 := blk_frozen k1_ 4
                have hy3_5 := blk_frozen k1_ 5
                have hy3_6 := blk_frozen k1_ 6
                have hy3_7 := blk_frozen k1_ 7
                clear k1_
                go_wp2
                have t_ := told_.out
                clear told_
                subst t_
                go_meet
                case rel => exact ⟨_, (wrap64 (-t158)), H', ⟨by have := HJ3.out; first | omega | exact Nat.le_refl _⟩, ⟨by (with_reducible repeat (first | refine bN ?_ _ | refine bD ?_ | refine bA ?_ _)); refine blk_far ?_ NB153_159.out _; (with_reducible repeat (first | refine bN ?_ _ | refine bD ?_ | refine bA ?_ _)); refine blk_far ?_ NB153_159.out _; (with_reducible repeat (first | refine bN ?_ _ | refine bD ?_ | refine bA ?_ _)); refine blk_far ?_ NB153_159.out _; (with_reducible repeat (first | refine bN ?_ _ | refine bD ?_ | refine bA ?_ _)); refine blk_far ?_ NB153_159.out _; (with_reducible repeat (first | refine bN ?_ _ | refine bD ?_ | refine bA ?_ _)); refine blk_far ?_ NB153_159.out _; (with_reducible repeat (first | refine bN ?_ _ | refine bD ?_ | refine bA ?_ _)); refine blk_far ?_ NB153_159.out _; (with_reducible repeat (first | refine bN ?_ _ | refine bD ?_ | refine bA ?_ _)); refine blk_far ?_ NB153_159.out _; (with_reducible repeat (first | refine bN ?_ _ | refine bD ?_ | refine bA ?_ _)); refine blk_far ?_ NB153_159.out _; (with_reducible repeat (first | refine bN ?_ _ | refine bD ?_ | refine bA ?_ _)); refine blk_far ?_ NB153_159.out _; (with_reducible repeat (first | refine bN ?_ _ | refine bD ?_ | refine bA ?_ _)); exact BK153.out⟩, ⟨by (with_reducible repeat (first | refine bN ?_ _ | refine bD ?_ | refine bA ?_ _)); refine blk_put (cs := #[.bool ((bt t157 0) == 49), .bool ((bt t156 0) == 49), .int .i64 t158, .int .i64 0, .int .i64 0, .int .i64 0, .int .i64 0, .int .u64 0]) ?_ 3 _ rfl; (with_reducible repeat (first | refine bN ?_ _ | refine bD ?_ | refine bA ?_ _)); refine blk_put (cs := #[.bool ((bt t157 0) == 49), .bool ((bt t156 0) == 49), .int .i64 t158, .int .i64 0, .int .i64 0, .int .i64 0, .int .i64 0, .int .u64 0]) ?_ 7 _ rfl; (with_reducible repeat (first | refine bN ?_ _ | refine bD ?_ | refine bA ?_ _)); refine blk_put (cs := #[.bool ((bt t157 0) == 49), .bool ((bt t156 0) == 49), .int .i64 t158, .int .i64 0, .int .i64 0, .int .i64 0, .int .i64 0, .int .u64 0]) ?_ 6 _ rfl; (with_reducible repeat (first | refine bN ?_ _ | refine bD ?_ | refine bA ?_ _)); refine blk_put (cs := #[.bool ((bt t157 0) == 49), .bool ((bt t156 0) == 49), .int .i64 t158, .int .i64 0, .int .i64 0, .int .i64 0, .int .i64 0, .int .u64 0]) ?_ 5 _ rfl; (with_reducible repeat (first | refine bN ?_ _ | refine bD ?_ | refine bA ?_ _)); refine blk_put (cs := #[.bool ((bt t157 0) == 49), .bool ((bt t156 0) == 49), .int .i64 t158, .int .i64 0, .int .i64 0, .int .i64 0, .int .i64 0, .int .u64 0]) ?_ 4 _ rfl; (with_reducible repeat (first | refine bN ?_ _ | refine bD ?_ | refine bA ?_ _)); refine blk_put (cs := #[.bool ((bt t157 0) == 49), .bool ((bt t156 0) == 49), .int .i64 t158, .int .i64 0, .int .i64 0, .int .i64 0, .int .i64 0, .int .u64 0]) ?_ 3 _ rfl; (with_reducible repeat (first | refine bN ?_ _ | refine bD ?_ | refine bA ?_ _)); refine blk_put (cs := #[.bool ((bt t157 0) == 49), .bool ((bt t156 0) == 49), .int .i64 0, .int .i64 0, .int .i64 0, .int .i64 0, .int .i64 0, .int .u64 0]) ?_ 2 _ rfl; (with_reducible repeat (first | refine bN ?_ _ | refine bD ?_ | refine bA ?_ _)); refine blk_put (cs := #[.bool ((bt t157 0) == 49), .bool false, .int .i64 0, .int .i64 0, .int .i64 0, .int .i64 0, .int .i64 0, .int .u64 0]) ?_ 1 _ (by first | rfl | (rw [c33b0]; rfl)); (with_reducible repeat (first | refine bN ?_ _ | refine bD ?_ | refine bA ?_ _)); refine blk_put (cs := #[.bool false, .bool false, .int .i64 0, .int .i64 0, .int .i64 0, .int .i64 0, .int .i64 0, .int .u64 0]) ?_ 0 _ rfl; (with_reducible repeat (first | refine bN ?_ _ | refine bD ?_ | refine bA ?_ _)); exact BK159.out⟩, ⟨by repeat (first | (with_reducible first | exact HB.out | apply pA | apply pN | apply p1 | refine pS ?_ GE153.out | refine pS ?_ GE159.out) | exact HB.out)⟩⟩
            case rest =>
              clear HC17
              try clear c1
              try clear p1
              try clear q1
              try clear hx1
              try clear qi1
              try clear c2
              try clear p2
              try clear c3
              try clear p6
              try clear c7
              try clear c7b0
              try clear c7b1
              try clear c8
              try clear c12
              try clear c12b0
              try clear c12b1
              try clear p13
              try clear q13
              try clear hx13
              try clear qi13
              try clear c14
              try clear c14b0
              try clear c14b1
              try clear p15
              try clear q15
              try clear hx15
              try clear qi15
              try clear c20
              try clear c21
              try clear c22
              try clear c27
              try clear c28
              try clear c31
              try clear c33
              try clear c33b0
              try clear c33b1
              try clear c34
              try clear hcz32_0
              try clear hcz32_1
              try clear hcz32_2
              try clear hcz32_3
              try clear hcz32_4
              try clear hcz32_5
              try clear hcz32_6
              try clear hcz32_7
              try clear hcz35_0
              try clear hcz35_1
              try clear hcz35_2
              try clear hcz35_3
              try clear hcz35_4
              try clear hcz35_5
              try clear hcz35_6
              try clear hcz35_7
              try clear hcz9_0
              try clear hcz9_1
              try clear hcz9_2
              try clear hcz9_3
              try clear hcz9_4
              try clear hcz9_5
              try clear hcz9_6
              try clear hcz9_7
              try clear hfz32_0
              try clear hfz32_1
              try clear hfz32_2
              try clear hfz32_3
              try clear hfz32_4
              try clear hfz32_5
              try clear hfz32_6
              try clear hfz32_7
              try clear hfz35_0
              try clear hfz35_1
              try clear hfz35_2
              try clear hfz35_3
              try clear hfz35_4
              try clear hfz35_5
              try clear hfz35_6
              try clear hfz35_7
              try clear hfz9_0
              try clear hfz9_1
              try clear hfz9_2
              try clear hfz9_3
              try clear hfz9_4
              try clear hfz9_5
              try clear hfz9_6
              try clear hfz9_7
              try clear p13
              try clear p15
              try clear p2
              try clear q13
              try clear q15
              obtain ⟨kq, x160003_16, HA, HJ16, BK153, BK159, HB⟩ := hcut
              cases kq with
              | zero => exact absurd HA.out (by simp [vernierref06_Split.j1])
              | succ kj16 =>
                have H := HA.out
                clear HA
                simp only [vernierref06_Split.j1] at H
                have HC36 := Aside0.mk H
                clear H
                have hnb37 := NB159_153.out
                have hnc37 := NB153_159.out
                have hcz38_0 : wc.cell? ⟨gb159, 0, none⟩ = some (.bool ((bt t157 0) == 49)) := (blk_cell BK159.out 0).trans rfl
                have hcz38_1 : wc.cell? ⟨gb159, 1, none⟩ = some (.bool ((bt t156 0) == 49)) := (blk_cell BK159.out 1).trans rfl
                have hcz38_2 : wc.cell? ⟨gb159, 2, none⟩ = some (.int .i64 t158) := (blk_cell BK159.out 2).trans rfl
                have hcz38_3 : wc.cell? ⟨gb159, 3, none⟩ = some (.int .i64 x160003_16) := (blk_cell BK159.out 3).trans rfl
                have hcz38_4 : wc.cell? ⟨gb159, 4, none⟩ = some (.int .i64 0) := (blk_cell BK159.out 4).trans rfl
                have hcz38_5 : wc.cell? ⟨gb159, 5, none⟩ = some (.int .i64 0) := (blk_cell BK159.out 5).trans rfl
                have hcz38_6 : wc.cell? ⟨gb159, 6, none⟩ = some (.int .i64 0) := (blk_cell BK159.out 6).trans rfl
                have hcz38_7 : wc.cell? ⟨gb159, 7, none⟩ = some (.int .u64 0) := (blk_cell BK159.out 7).trans rfl
                have hfz38_0 := blk_frozen BK159.out 0
                have hfz38_1 := blk_frozen BK159.out 1
                have hfz38_2 := blk_frozen BK159.out 2
                have hfz38_3 := blk_frozen BK159.out 3
                have hfz38_4 := blk_frozen BK159.out 4
                have hfz38_5 := blk_frozen BK159.out 5
                have hfz38_6 := blk_frozen BK159.out 6
                have hfz38_7 := blk_frozen BK159.out 7
                go_upto_if 54 with (fail)
                go_cut [10] (fun v10 wc => ∃ (kq : Nat) (x10_35 : ByteArray), v10 = .string x10_35 ∧ Aside0 (vernierref06_Split.j2 kq x10_35 ((bt t157 0) == 49) ((bt t156 0) == 49) t158 x160003_16 0 0 0 0 = some (r1, r2, r3, r4, r5, r6, r7, r8, r9)) ∧ Aside0 (kq ≤ kj16) ∧ Aside0 (wc.heap[gb153]? = some (.cells #[.bool false, .bool false, .int .i64 0, .int .i64 0, .int .i64 0, .int .i64 0, .int .i64 0, .int .u64 0] 55 (0, 0))) ∧ Aside0 (wc.heap[gb159]? = some (.cells #[.bool ((bt t157 0) == 49), .bool ((bt t156 0) == 49), .int .i64 t158, .int .i64 x160003_16, .int .i64 0, .int .i64 0, .int .i64 0, .int .u64 0] 55 (0, 0))) ∧ Aside0 (Below w.heap.size w wc))
                case first =>
                  have H := HC36.out
                  clear HC36
                  by_cases c39 : t158 < (t156.size : Int)
                  · rw [if_pos c39] at H
                    have c39b0 : decide (t158 < (t156.size : Int)) = true := decide_eq_true c39
                    clear c39
                    (first | rw [c39b0] | (simp only [i64_w, i32_w]; rw [c39b0]) | skip)
                    obtain ⟨ji40, hji40⟩ : ∃ j_ : Int, (wrap64 (t158 + 1)) = j_ := ⟨_, rfl⟩
                    replace H : (if 0 ≤ (ji40) then (if (ji40) ≤ (t156.size : Int) then (vernierref06_Split.j2 kj16 (t156.extract ((ji40) : Int).toNat t156.size) ((bt t157 0) == 49) ((bt t156 0) == 49) t158 x160003_16 0 0 0 0) else (none)) else (none)) = some (r1, r2, r3, r4, r5, r6, r7, r8, r9) := by first | (rw [hji40] at H; exact H) | (simp only [hji40] at H ⊢; exact H)
                    have hji40w : (IntKind.i64.wrap (t158 + 1)) = ji40 := (i64_w _).trans hji40
                    by_cases c41 : 0 ≤ (ji40)
                    · rw [if_pos c41] at H
                      have c41b0 := eq_true c41
                      have c41b1 : decide (0 ≤ (ji40)) = true := decide_eq_true c41
                      clear c41
                      by_cases c42 : (ji40) ≤ (t156.size : Int)
                      · rw [if_pos c42] at H
                        have c42b0 := eq_true c42
                        have c42b1 : decide ((ji40) ≤ (t156.size : Int)) = true := decide_eq_true c42
                        clear c42
                        have H' := Aside0.mk H
                        clear H
                        have hnb43 := NB159_153.out
                        have hnc43 := NB153_159.out
                        have hcz44_0 : wc.cell? ⟨gb159, 0, none⟩ = some (.bool ((bt t157 0) == 49)) := (blk_cell BK159.out 0).trans rfl
                        have hcz44_1 : wc.cell? ⟨gb159, 1, none⟩ = some (.bool ((bt t156 0) == 49)) := (blk_cell BK159.out 1).trans rfl
                        have hcz44_2 : wc.cell? ⟨gb159, 2, none⟩ = some (.int .i64 t158) := (blk_cell BK159.out 2).trans rfl
                        have hcz44_3 : wc.cell? ⟨gb159, 3, none⟩ = some (.int .i64 x160003_16) := (blk_cell BK159.out 3).trans rfl
                        have hcz44_4 : wc.cell? ⟨gb159, 4, none⟩ = some (.int .i64 0) := (blk_cell BK159.out 4).trans rfl
                        have hcz44_5 : wc.cell? ⟨gb159, 5, none⟩ = some (.int .i64 0) := (blk_cell BK159.out 5).trans rfl
                        have hcz44_6 : wc.cell? ⟨gb159, 6, none⟩ = some (.int .i64 0) := (blk_cell BK159.out 6).trans rfl
                        have hcz44_7 : wc.cell? ⟨gb159, 7, none⟩ = some (.int .u64 0) := (blk_cell BK159.out 7).trans rfl
                        have hfz44_0 := blk_frozen BK159.out 0
                        have hfz44_1 := blk_frozen BK159.out 1
                        have hfz44_2 := blk_frozen BK159.out 2
                        have hfz44_3 := blk_frozen BK159.out 3
                        have hfz44_4 := blk_frozen BK159.out 4
                        have hfz44_5 := blk_frozen BK159.out 5
                        have hfz44_6 := blk_frozen BK159.out 6
                        have hfz44_7 := blk_frozen BK159.out 7
                        go_wp2
                        go_meet
                        case rel => exact ⟨_, (t156.extract ((ji40) : Int).toNat t156.size), (by first | rfl | (simp; done) | (simp only [← hji40] <;> (first | rfl | simp)) | (simp [*]; done)), H', ⟨by have := HJ3.out; have := HJ16.out; first | omega | exact Nat.le_refl _⟩, ⟨by (with_reducible repeat (first | refine bN ?_ _ | refine bD ?_ | refine bA ?_ _)); exact BK153.out⟩, ⟨by (with_reducible repeat (first | refine bN ?_ _ | refine bD ?_ | refine bA ?_ _)); exact BK159.out⟩, ⟨by repeat (first | (with_reducible first | exact HB.out | apply pA | apply pN | apply p1 | refine pS ?_ GE153.out | refine pS ?_ GE159.out) | exact HB.out)⟩⟩
                      · rw [if_neg c42] at H
                        exact absurd H (by simp)
                    · rw [if_neg c41] at H
                      exact absurd H (by simp)
                  · rw [if_neg c39] at H
                    have c39b0 : decide (t158 < (t156.size : Int)) = false := decide_eq_false c39
                    clear c39
                    (first | rw [c39b0] | (simp only [i64_w, i32_w]; rw [c39b0]) | skip)
                    have H' := Aside0.mk H
                    clear H
                    go_wp2
                    go_meet
                    case rel => exact ⟨_, ((⟨#[]⟩ : ByteArray)), (by first | rfl | (simp; done) | (simp [*]; done)), H', ⟨by have := HJ3.out; have := HJ16.out; first | omega | exact Nat.le_refl _⟩, ⟨by (with_reducible repeat (first | refine bN ?_ _ | refine bD ?_ | refine bA ?_ _)); exact BK153.out⟩, ⟨by (with_reducible repeat (first | refine bN ?_ _ | refine bD ?_ | refine bA ?_ _)); exact BK159.out⟩, ⟨by repeat (first | (with_reducible first | exact HB.out | apply pA | apply pN | apply p1 | refine pS ?_ GE153.out | refine pS ?_ GE159.out) | exact HB.out)⟩⟩
                case rest =>
                  clear HC36
                  try clear c1
                  try clear p1
                  try clear q1
                  try clear hx1
                  try clear qi1
                  try clear c2
                  try clear p2
                  try clear c3
                  try clear c4
                  try clear p6
                  try clear c7
                  try clear c7b0
                  try clear c7b1
                  try clear c8
                  try clear c12
                  try clear c12b0
                  try clear c12b1
                  try clear p13
                  try clear q13
                  try clear hx13
                  try clear qi13
                  try clear c14
                  try clear c14b0
                  try clear c14b1
                  try clear p15
                  try clear q15
                  try clear hx15
                  try clear qi15
                  try clear c20
                  try clear c21
                  try clear c22
                  try clear c27
                  try clear c28
                  try clear c31
                  try clear c33
                  try clear c33b0
                  try clear c33b1
                  try clear c34
                  try clear c37
                  try clear c39
                  try clear c39b0
                  try clear c41
                  try clear c41b0
                  try clear c41b1
                  try clear c42
                  try clear c42b0
                  try clear c42b1
                  try clear c43
                  try clear hcz32_0
                  try clear hcz32_1
                  try clear hcz32_2
                  try clear hcz32_3
                  try clear hcz32_4
                  try clear hcz32_5
                  try clear hcz32_6
                  try clear hcz32_7
                  try clear hcz35_0
                  try clear hcz35_1
                  try clear hcz35_2
                  try clear hcz35_3
                  try clear hcz35_4
                  try clear hcz35_5
                  try clear hcz35_6
                  try clear hcz35_7
                  try clear hcz38_0
                  try clear hcz38_1
                  try clear hcz38_2
                  try clear hcz38_3
                  try clear hcz38_4
                  try clear hcz38_5
                  try clear hcz38_6
                  try clear hcz38_7
                  try clear hcz44_0
                  try clear hcz44_1
                  try clear hcz44_2
                  try clear hcz44_3
                  try clear hcz44_4
                  try clear hcz44_5
                  try clear hcz44_6
                  try clear hcz44_7
                  try clear hcz9_0
                  try clear hcz9_1
                  try clear hcz9_2
                  try clear hcz9_3
                  try clear hcz9_4
                  try clear hcz9_5
                  try clear hcz9_6
                  try clear hcz9_7
                  try clear hfz32_0
                  try clear hfz32_1
                  try clear hfz32_2
                  try clear hfz32_3
                  try clear hfz32_4
                  try clear hfz32_5
                  try clear hfz32_6
                  try clear hfz32_7
                  try clear hfz35_0
                  try clear hfz35_1
                  try clear hfz35_2
                  try clear hfz35_3
                  try clear hfz35_4
                  try clear hfz35_5
                  try clear hfz35_6
                  try clear hfz35_7
                  try clear hfz38_0
                  try clear hfz38_1
                  try clear hfz38_2
                  try clear hfz38_3
                  try clear hfz38_4
                  try clear hfz38_5
                  try clear hfz38_6
                  try clear hfz38_7
                  try clear hfz44_0
                  try clear hfz44_1
                  try clear hfz44_2
                  try clear hfz44_3
                  try clear hfz44_4
                  try clear hfz44_5
                  try clear hfz44_6
                  try clear hfz44_7
                  try clear hfz9_0
                  try clear hfz9_1
                  try clear hfz9_2
                  try clear hfz9_3
                  try clear hfz9_4
                  try clear hfz9_5
                  try clear hfz9_6
                  try clear hfz9_7
                  try clear p1
                  try clear p13
                  try clear p15
                  try clear p2
                  try clear p6
                  try clear q1
                  try clear q13
                  try clear q15
                  obtain ⟨kq, x10_35, rfl, HA, HJ35, BK153, BK159, HB⟩ := hcut
                  cases kq with
                  | zero => exact absurd HA.out (by simp [vernierref06_Split.j2])
                  | succ kj35 =>
                    have H := HA.out
                    clear HA
                    simp only [vernierref06_Split.j2] at H
                    by_cases c45 : (x10_35.size : Int) > 2
                    · rw [if_pos c45] at H
                      have c45b0 : decide (2 < (x10_35.size : Int)) = true := decide_eq_true c45
                      have c45b1 : decide (2 < x10_35.size) = true := decide_eq_true (by omega)
                      clear c45
                      by_cases c46 : 0 ≤ 2
                      · rw [if_pos c46] at H
                        have c46b0 := eq_true c46
                        have c46b1 : decide (0 ≤ 2) = true := decide_eq_true c46
                        clear c46
                        by_cases c47 : 2 ≤ (x10_35.size : Int)
                        · rw [if_pos c47] at H
                          have c47b0 := eq_true c47
                          have c47b1 : decide (2 ≤ (x10_35.size : Int)) = true := decide_eq_true c47
                          clear c47
                          by_cases c48 : (x10_35.extract 0 2).size + 2 ≤ 9223372036854775807
                          · rw [if_pos c48] at H
                            have c48b0 := eq_true c48
                            have c48b1 : decide ((x10_35.extract 0 2).size + 2 ≤ 9223372036854775807) = true := decide_eq_true c48
                            try have c48b2 : (9223372036854775807 < (x10_35.extract 0 2).size + 2) = False := eq_false (Nat.not_lt.2 c48)
                            have c49b0 := eq_true (of_decide_eq_true (by first | (with_reducible assumption) | assumption) : 0 ≤ 2)
                            by_cases c50 : 2 ≤ (((x10_35.extract 0 2) ++ (⟨#[48, 48]⟩ : ByteArray)).size : Int)
                            · rw [if_pos c50] at H
                              have c50b0 := eq_true c50
                              have c50b1 : decide (2 ≤ (((x10_35.extract 0 2) ++ (⟨#[48, 48]⟩ : ByteArray)).size : Int)) = true := decide_eq_true c50
                              replace H := Option.bind_eq_some_iff.mp H
                              obtain ⟨t160, A510, H⟩ := H
                              replace H : ((vernierref01_Number.f kj35 (x10_35.extract 2 x10_35.size)).bind fun t161 => (some (((bt t157 0) == 49), ((bt t156 0) == 49), t158, x160003_16, 2, wrap64 (t160), wrap64 ((x10_35.size : Int) - 2), t161, 0))) = some (r1, r2, r3, r4, r5, r6, r7, r8, r9) := H
                              have A51 := Aside0.mk A510
                              clear A510
                              have c52b0 := eq_true (of_decide_eq_true (by first | (with_reducible assumption) | assumption) : 2 ≤ (x10_35.size : Int))
                              replace H := Option.bind_eq_some_iff.mp H
                              obtain ⟨t161, A530, H⟩ := H
                              replace H : (some (((bt t157 0) == 49), ((bt t156 0) == 49), t158, x160003_16, 2, wrap64 (t160), wrap64 ((x10_35.size : Int) - 2), t161, 0)) = some (r1, r2, r3, r4, r5, r6, r7, r8, r9) := H
                              have A53 := Aside0.mk A530
                              clear A530
                              simp only [Option.some.injEq, Prod.mk.injEq] at H
                              obtain ⟨rfl, rfl, rfl, rfl, rfl, rfl, rfl, rfl, rfl⟩ := H
                              have hnb54 := NB159_153.out
                              have hnc54 := NB153_159.out
                              have hcz55_0 : wc.cell? ⟨gb159, 0, none⟩ = some (.bool ((bt t157 0) == 49)) := (blk_cell BK159.out 0).trans rfl
                              have hcz55_1 : wc.cell? ⟨gb159, 1, none⟩ = some (.bool ((bt t156 0) == 49)) := (blk_cell BK159.out 1).trans rfl
                              have hcz55_2 : wc.cell? ⟨gb159, 2, none⟩ = some (.int .i64 t158) := (blk_cell BK159.out 2).trans rfl
                              have hcz55_3 : wc.cell? ⟨gb159, 3, none⟩ = some (.int .i64 x160003_16) := (blk_cell BK159.out 3).trans rfl
                              have hcz55_4 : wc.cell? ⟨gb159, 4, none⟩ = some (.int .i64 0) := (blk_cell BK159.out 4).trans rfl
                              have hcz55_5 : wc.cell? ⟨gb159, 5, none⟩ = some (.int .i64 0) := (blk_cell BK159.out 5).trans rfl
                              have hcz55_6 : wc.cell? ⟨gb159, 6, none⟩ = some (.int .i64 0) := (blk_cell BK159.out 6).trans rfl
                              have hcz55_7 : wc.cell? ⟨gb159, 7, none⟩ = some (.int .u64 0) := (blk_cell BK159.out 7).trans rfl
                              have hfz55_0 := blk_frozen BK159.out 0
                              have hfz55_1 := blk_frozen BK159.out 1
                              have hfz55_2 := blk_frozen BK159.out 2
                              have hfz55_3 := blk_frozen BK159.out 3
                              have hfz55_4 := blk_frozen BK159.out 4
                              have hfz55_5 := blk_frozen BK159.out 5
                              have hfz55_6 := blk_frozen BK159.out 6
                              have hfz55_7 := blk_frozen BK159.out 7
                              go_wp2_with (first | ((with_reducible refine gate_dst (N := 89) rfl ?_); refine load_store_ (w0 := w) 89 gb159 gb153 #[.bool ((bt t157 0) == 49), .bool ((bt t156 0) == 49), .int .i64 t158, .int .i64 x160003_16, .int .i64 2, .int .i64 (wrap64 (t160)), .int .i64 (wrap64 ((x10_35.size : Int) - 2)), .int .u64 t161] #[.bool false, .bool false, .int .i64 0, .int .i64 0, .int .i64 0, .int .i64 0, .int .i64 0, .int .u64 0] 55 _ (by repeat (first | (with_reducible refine bN ?_ _) | (with_reducible refine bD ?_) | (with_reducible refine blk_drewN ?_ _) | (with_reducible refine blk_drew ?_) | (with_reducible apply blk_set) | (with_reducible exact BK159.out))) (by repeat (first | (with_reducible refine bN ?_ _) | (with_reducible refine bD ?_) | (with_reducible refine blk_drewN ?_ _) | (with_reducible refine blk_drew ?_) | (with_reducible refine blk_far ?_ NB153_159.out _) | (with_reducible exact BK153.out))) (by repeat (first | (with_reducible first | exact HB.out | apply pA | apply pN | apply p1 | refine pS ?_ GE153.out | refine pS ?_ GE159.out) | exact HB.out)) GE153.out Try.underlying55 (by kernel_rfl) ?_; intro wz kz_ HZ_) | ((with_reducible refine gC (f := 23) rfl ?_); (with_reducible refine gD (N := 74) rfl ?_); refine goesY_ (some 74) Try.func23 #[.string (((x10_35.extract 0 2) ++ (⟨#[48, 48]⟩ : ByteArray)).extract 0 2)] ?_; (with_reducible refine (vernierref01_Number.calls kj35 (((x10_35.extract 0 2) ++ (⟨#[48, 48]⟩ : ByteArray)).extract 0 2) t160 _ A51.out).mono ?_); rintro e w' ⟨rfl, ⟨nd, rfl⟩⟩; refine ⟨_, rfl, ?_⟩) | ((with_reducible refine gC (f := 23) rfl ?_); (with_reducible refine gD (N := 87) rfl ?_); refine goesY_ (some 87) Try.func23 #[.string (x10_35.extract 2 x10_35.size)] ?_; (with_reducible refine (vernierref01_Number.calls kj35 (x10_35.extract 2 x10_35.size) t161 _ A53.out).mono ?_); rintro e w' ⟨rfl, ⟨nd, rfl⟩⟩; refine ⟨_, rfl, ?_⟩; have hcz56_0 : wc.cell? ⟨gb153, 0, none⟩ = some (.bool false) := (blk_cell BK153.out 0).trans rfl; have hcz56_1 : wc.cell? ⟨gb153, 1, none⟩ = some (.bool false) := (blk_cell BK153.out 1).trans rfl; have hcz56_2 : wc.cell? ⟨gb153, 2, none⟩ = some (.int .i64 0) := (blk_cell BK153.out 2).trans rfl; have hcz56_3 : wc.cell? ⟨gb153, 3, none⟩ = some (.int .i64 0) := (blk_cell BK153.out 3).trans rfl; have hcz56_4 : wc.cell? ⟨gb153, 4, none⟩ = some (.int .i64 0) := (blk_cell BK153.out 4).trans rfl; have hcz56_5 : wc.cell? ⟨gb153, 5, none⟩ = some (.int .i64 0) := (blk_cell BK153.out 5).trans rfl; have hcz56_6 : wc.cell? ⟨gb153, 6, none⟩ = some (.int .i64 0) := (blk_cell BK153.out 6).trans rfl; have hcz56_7 : wc.cell? ⟨gb153, 7, none⟩ = some (.int .u64 0) := (blk_cell BK153.out 7).trans rfl; have hfz56_0 := blk_frozen BK153.out 0; have hfz56_1 := blk_frozen BK153.out 1; have hfz56_2 := blk_frozen BK153.out 2; have hfz56_3 := blk_frozen BK153.out 3; have hfz56_4 := blk_frozen BK153.out 4; have hfz56_5 := blk_frozen BK153.out 5; have hfz56_6 := blk_frozen BK153.out 6; have hfz56_7 := blk_frozen BK153.out 7))
                              refine bodyPost_ret (results_ct rfl _ _ gb153 55 #[.bool ((bt t157 0) == 49), .bool ((bt t156 0) == 49), .int .i64 t158, .int .i64 x160003_16, .int .i64 2, .int .i64 (wrap64 (t160)), .int .i64 (wrap64 ((x10_35.size : Int) - 2)), .int .u64 t161] (0, 0) _ rfl kz_ Try.underlying55 rfl (by kernel_rfl)) rfl ?_
                              exact ⟨by first | rfl | (simp [errW_none, errW_some] <;> rfl) | (simp [*, errW_none, errW_some] <;> rfl), HZ_⟩
                            · rw [if_neg c50] at H
                              exact absurd H (by simp)
                          · rw [if_neg c48] at H
                            exact absurd H (by simp)
                        · rw [if_neg c47] at H
                          exact absurd H (by simp)
                      · rw [if_neg c46] at H
                        exact absurd H (by simp)
                    · rw [if_neg c45] at H
                      have c45b0 : decide (2 < (x10_35.size : Int)) = false := decide_eq_false c45
                      have c45b1 : decide (2 < x10_35.size) = false := decide_eq_false (by omega)
                      clear c45
                      by_cases c57 : 0 ≤ (x10_35.size : Int)
                      · rw [if_pos c57] at H
                        have c57b0 := eq_true c57
                        have c57b1 : decide (0 ≤ (x10_35.size : Int)) = true := decide_eq_true c57
                        clear c57
                        by_cases c58 : (x10_35.size : Int) ≤ (x10_35.size : Int)
                        · rw [if_pos c58] at H
                          have c58b0 := eq_true c58
                          have c58b1 : decide ((x10_35.size : Int) ≤ (x10_35.size : Int)) = true := decide_eq_true c58
                          clear c58
                          by_cases c59 : (x10_35.extract 0 ((x10_35.size : Int) : Int).toNat).size + 2 ≤ 9223372036854775807
                          · rw [if_pos c59] at H
                            have c59b0 := eq_true c59
                            have c59b1 : decide ((x10_35.extract 0 ((x10_35.size : Int) : Int).toNat).size + 2 ≤ 9223372036854775807) = true := decide_eq_true c59
                            try have c59b2 : (9223372036854775807 < (x10_35.extract 0 ((x10_35.size : Int) : Int).toNat).size + 2) = False := eq_false (Nat.not_lt.2 c59)
                            by_cases c60 : 0 ≤ 2
                            · rw [if_pos c60] at H
                              have c60b0 := eq_true c60
                              have c60b1 : decide (0 ≤ 2) = true := decide_eq_true c60
                              clear c60
                              by_cases c61 : 2 ≤ (((x10_35.extract 0 ((x10_35.size : Int) : Int).toNat) ++ (⟨#[48, 48]⟩ : ByteArray)).size : Int)
                              · rw [if_pos c61] at H
                                have c61b0 := eq_true c61
                                have c61b1 : decide (2 ≤ (((x10_35.extract 0 ((x10_35.size : Int) : Int).toNat) ++ (⟨#[48, 48]⟩ : ByteArray)).size : Int)) = true := decide_eq_true c61
                                replace H := Option.bind_eq_some_iff.mp H
                                obtain ⟨t162, A620, H⟩ := H
                                replace H : ((vernierref01_Number.f kj35 (x10_35.extract ((x10_35.size : Int) : Int).toNat x10_35.size)).bind fun t163 => (some (((bt t157 0) == 49), ((bt t156 0) == 49), t158, x160003_16, (x10_35.size : Int), wrap64 (t162), wrap64 ((x10_35.size : Int) - (x10_35.size : Int)), t163, 0))) = some (r1, r2, r3, r4, r5, r6, r7, r8, r9) := H
                                have A62 := Aside0.mk A620
                                clear A620
                                have c63b0 := eq_true (of_decide_eq_true (by first | (with_reducible assumption) | assumption) : 0 ≤ (x10_35.size : Int))
                                have c64b0 := eq_true (of_decide_eq_true (by first | (with_reducible assumption) | assumption) : (x10_35.size : Int) ≤ (x10_35.size : Int))
                                replace H := Option.bind_eq_some_iff.mp H
                                obtain ⟨t163, A650, H⟩ := H
                                replace H : (some (((bt t157 0) == 49), ((bt t156 0) == 49), t158, x160003_16, (x10_35.size : Int), wrap64 (t162), wrap64 ((x10_35.size : Int) - (x10_35.size : Int)), t163, 0)) = some (r1, r2, r3, r4, r5, r6, r7, r8, r9) := H
                                have A65 := Aside0.mk A650
                                clear A650
                                simp only [Option.some.injEq, Prod.mk.injEq] at H
                                obtain ⟨rfl, rfl, rfl, rfl, rfl, rfl, rfl, rfl, rfl⟩ := H
                                have hnb66 := NB159_153.out
                                have hnc66 := NB153_159.out
                                have hcz67_0 : wc.cell? ⟨gb159, 0, none⟩ = some (.bool ((bt t157 0) == 49)) := (blk_cell BK159.out 0).trans rfl
                                have hcz67_1 : wc.cell? ⟨gb159, 1, none⟩ = some (.bool ((bt t156 0) == 49)) := (blk_cell BK159.out 1).trans rfl
                                have hcz67_2 : wc.cell? ⟨gb159, 2, none⟩ = some (.int .i64 t158) := (blk_cell BK159.out 2).trans rfl
                                have hcz67_3 : wc.cell? ⟨gb159, 3, none⟩ = some (.int .i64 x160003_16) := (blk_cell BK159.out 3).trans rfl
                                have hcz67_4 : wc.cell? ⟨gb159, 4, none⟩ = some (.int .i64 0) := (blk_cell BK159.out 4).trans rfl
                                have hcz67_5 : wc.cell? ⟨gb159, 5, none⟩ = some (.int .i64 0) := (blk_cell BK159.out 5).trans rfl
                                have hcz67_6 : wc.cell? ⟨gb159, 6, none⟩ = some (.int .i64 0) := (blk_cell BK159.out 6).trans rfl
                                have hcz67_7 : wc.cell? ⟨gb159, 7, none⟩ = some (.int .u64 0) := (blk_cell BK159.out 7).trans rfl
                                have hfz67_0 := blk_frozen BK159.out 0
                                have hfz67_1 := blk_frozen BK159.out 1
                                have hfz67_2 := blk_frozen BK159.out 2
                                have hfz67_3 := blk_frozen BK159.out 3
                                have hfz67_4 := blk_frozen BK159.out 4
                                have hfz67_5 := blk_frozen BK159.out 5
                                have hfz67_6 := blk_frozen BK159.out 6
                                have hfz67_7 := blk_frozen BK159.out 7
                                simp only [show x10_35.extract 0 ((x10_35.size : Int) : Int).toNat = x10_35 by simp, show x10_35.extract ((x10_35.size : Int) : Int).toNat x10_35.size = ByteArray.empty by simp, show wrap64 ((x10_35.size : Int) - (x10_35.size : Int)) = 0 by unfold wrap64; omega] at *
                                go_wp2_with (first | ((with_reducible refine gate_dst (N := 89) rfl ?_); refine load_store_ (w0 := w) 89 gb159 gb153 #[.bool ((bt t157 0) == 49), .bool ((bt t156 0) == 49), .int .i64 t158, .int .i64 x160003_16, .int .i64 (x10_35.size : Int), .int .i64 (wrap64 (t162)), .int .i64 0, .int .u64 t163] #[.bool false, .bool false, .int .i64 0, .int .i64 0, .int .i64 0, .int .i64 0, .int .i64 0, .int .u64 0] 55 _ (by repeat (first | (with_reducible refine bN ?_ _) | (with_reducible refine bD ?_) | (with_reducible refine blk_drewN ?_ _) | (with_reducible refine blk_drew ?_) | (with_reducible apply blk_set) | (with_reducible exact BK159.out))) (by repeat (first | (with_reducible refine bN ?_ _) | (with_reducible refine bD ?_) | (with_reducible refine blk_drewN ?_ _) | (with_reducible refine blk_drew ?_) | (with_reducible refine blk_far ?_ NB153_159.out _) | (with_reducible exact BK153.out))) (by repeat (first | (with_reducible first | exact HB.out | apply pA | apply pN | apply p1 | refine pS ?_ GE153.out | refine pS ?_ GE159.out) | exact HB.out)) GE153.out Try.underlying55 (by kernel_rfl) ?_; intro wz kz_ HZ_) | ((with_reducible refine gC (f := 23) rfl ?_); (with_reducible refine gD (N := 74) rfl ?_); refine goesY_ (some 74) Try.func23 #[.string ((x10_35 ++ (⟨#[48, 48]⟩ : ByteArray)).extract 0 2)] ?_; (with_reducible refine (vernierref01_Number.calls kj35 ((x10_35 ++ (⟨#[48, 48]⟩ : ByteArray)).extract 0 2) t162 _ A62.out).mono ?_); rintro e w' ⟨rfl, ⟨nd, rfl⟩⟩; refine ⟨_, rfl, ?_⟩) | ((with_reducible refine gC (f := 23) rfl ?_); (with_reducible refine gD (N := 87) rfl ?_); refine goesY_ (some 87) Try.func23 #[.string ByteArray.empty] ?_; (with_reducible refine (vernierref01_Number.calls kj35 ByteArray.empty t163 _ A65.out).mono ?_); rintro e w' ⟨rfl, ⟨nd, rfl⟩⟩; refine ⟨_, rfl, ?_⟩; have hcz68_0 : wc.cell? ⟨gb153, 0, none⟩ = some (.bool false) := (blk_cell BK153.out 0).trans rfl; have hcz68_1 : wc.cell? ⟨gb153, 1, none⟩ = some (.bool false) := (blk_cell BK153.out 1).trans rfl; have hcz68_2 : wc.cell? ⟨gb153, 2, none⟩ = some (.int .i64 0) := (blk_cell BK153.out 2).trans rfl; have hcz68_3 : wc.cell? ⟨gb153, 3, none⟩ = some (.int .i64 0) := (blk_cell BK153.out 3).trans rfl; have hcz68_4 : wc.cell? ⟨gb153, 4, none⟩ = some (.int .i64 0) := (blk_cell BK153.out 4).trans rfl; have hcz68_5 : wc.cell? ⟨gb153, 5, none⟩ = some (.int .i64 0) := (blk_cell BK153.out 5).trans rfl; have hcz68_6 : wc.cell? ⟨gb153, 6, none⟩ = some (.int .i64 0) := (blk_cell BK153.out 6).trans rfl; have hcz68_7 : wc.cell? ⟨gb153, 7, none⟩ = some (.int .u64 0) := (blk_cell BK153.out 7).trans rfl; have hfz68_0 := blk_frozen BK153.out 0; have hfz68_1 := blk_frozen BK153.out 1; have hfz68_2 := blk_frozen BK153.out 2; have hfz68_3 := blk_frozen BK153.out 3; have hfz68_4 := blk_frozen BK153.out 4; have hfz68_5 := blk_frozen BK153.out 5; have hfz68_6 := blk_frozen BK153.out 6; have hfz68_7 := blk_frozen BK153.out 7))
                                refine bodyPost_ret (results_ct rfl _ _ gb153 55 #[.bool ((bt t157 0) == 49), .bool ((bt t156 0) == 49), .int .i64 t158, .int .i64 x160003_16, .int .i64 (x10_35.size : Int), .int .i64 (wrap64 (t162)), .int .i64 0, .int .u64 t163] (0, 0) _ rfl kz_ Try.underlying55 rfl (by kernel_rfl)) rfl ?_
                                exact ⟨by first | rfl | (simp [errW_none, errW_some] <;> (unfold wrap64; omega)) | (simp [errW_none, errW_some] <;> rfl) | (simp [*, errW_none, errW_some] <;> rfl), HZ_⟩
                              · rw [if_neg c61] at H
                                exact absurd H (by simp)
                            · rw [if_neg c60] at H
                              exact absurd H (by simp)
                          · rw [if_neg c59] at H
                            exact absurd H (by simp)
                        · rw [if_neg c58] at H
                          exact absurd H (by simp)
                      · rw [if_neg c57] at H
                        exact absurd H (by simp)
          · rw [if_neg c14] at H
            exact absurd H (by simp)
        · rw [if_neg c12] at H
          exact absurd H (by simp)

/-! ### vernierref06_Decodes: function 13 -/
mutual
def vernierref06_Decodes.j0 : Nat → Int → Int → Int → Int → Bool → Option (Int × Bool × Int × Int × Int)
  | 0, _, _, _, _, _ => none
  | k + 1, x0, x1, x6, x7, x23 => if x23 = true then (some (x6, false, 0, 0, x7)) else ((vernierref06_Split.f k x0 x1).bind fun bt167 => ((vernierref01_Text.f k bt167.2.2.2.2.2.2.2.1 bt167.2.2.2.2.2.2.1).bind fun t178 => (if 1 + t178.size ≤ 9223372036854775807 then (vernierref06_Decodes.l0 k ((⟨#[49]⟩ : ByteArray) ++ t178) x6 bt167.1 (wrap64 ((wrap64 (4 * bt167.2.2.2.1)) + bt167.2.2.2.2.2.1)) 0) else (none))))
def vernierref06_Decodes.l0 : Nat → ByteArray → Int → Bool → Int → Int → Option (Int × Bool × Int × Int × Int)
  | 0, _, _, _, _, _ => none
  | k + 1, x11, x178000, x178001, x178002, x178003 => if (x11.size : Int) < 64 then (if x11.size + 1 ≤ 9223372036854775807 then (vernierref06_Decodes.l0 k (x11 ++ (⟨#[48]⟩ : ByteArray)) x178000 x178001 x178002 x178003) else (none)) else ((vernierref01_Number.f k x11).bind fun t179 => (some (x178000, x178001, x178002, t179, 0)))
end
def vernierref06_Decodes.f (k : Nat) (a0 : Int) (a1 : Int) : Option (Int × Bool × Int × Int × Int) := (vernierref05_Kind.f k a0 a1).bind fun bt165 => (if bt165.2 = 0 then (vernierref06_Decodes.j0 k a0 a1 bt165.1 bt165.2 (bt165.1 != 1)) else (vernierref06_Decodes.j0 k a0 a1 bt165.1 bt165.2 true))
theorem vernierref06_Decodes.mono_l : ∀ k, (∀ y0 y1 y2 y3 y4, LeO (vernierref06_Decodes.j0 k y0 y1 y2 y3 y4) (vernierref06_Decodes.j0 (k + 1) y0 y1 y2 y3 y4)) ∧ (∀ y0 y1 y2 y3 y4, LeO (vernierref06_Decodes.l0 k y0 y1 y2 y3 y4) (vernierref06_Decodes.l0 (k + 1) y0 y1 y2 y3 y4))
  | 0 => ⟨fun _ _ _ _ _ r h => by simp [vernierref06_Decodes.j0] at h, fun _ _ _ _ _ r h => by simp [vernierref06_Decodes.l0] at h⟩
  | k + 1 => by
    obtain ⟨ih0, ih1⟩ := vernierref06_Decodes.mono_l k
    refine ⟨?_, ?_⟩
    · intro y0 y1 y2 y3 y4
      unfold vernierref06_Decodes.j0
      repeat' first
      | (with_reducible exact ih0 _ _ _ _ _)
      | (with_reducible exact ih1 _ _ _ _ _)
      | (with_reducible exact vernierref01_Number.mono _ _)
      | (with_reducible exact vernierref01_Text.mono _ _ _)
      | (with_reducible exact vernierref05_Kind.mono _ _ _)
      | (with_reducible exact vernierref06_Split.mono _ _ _)
      | (with_reducible exact LeO.refl _)
      | (with_reducible exact LeO.none _)
      | (with_reducible refine LeO.ite ?_ ?_)
      | (with_reducible refine LeO.bind ?_ (fun _ => ?_))
      | exact ih0 _ _ _ _ _
      | exact ih1 _ _ _ _ _
      | exact vernierref01_Number.mono _ _
      | exact vernierref01_Text.mono _ _ _
      | exact vernierref05_Kind.mono _ _ _
      | exact vernierref06_Split.mono _ _ _
      | exact LeO.none _
      | refine LeO.ite ?_ ?_
      | refine LeO.bind ?_ (fun _ => ?_)
    · intro y0 y1 y2 y3 y4
      unfold vernierref06_Decodes.l0
      repeat' first
      | (with_reducible exact ih0 _ _ _ _ _)
      | (with_reducible exact ih1 _ _ _ _ _)
      | (with_reducible exact vernierref01_Number.mono _ _)
      | (with_reducible exact vernierref01_Text.mono _ _ _)
      | (with_reducible exact vernierref05_Kind.mono _ _ _)
      | (with_reducible exact vernierref06_Split.mono _ _ _)
      | (with_reducible exact LeO.refl _)
      | (with_reducible exact LeO.none _)
      | (with_reducible refine LeO.ite ?_ ?_)
      | (with_reducible refine LeO.bind ?_ (fun _ => ?_))
      | exact ih0 _ _ _ _ _
      | exact ih1 _ _ _ _ _
      | exact vernierref01_Number.mono _ _
      | exact vernierref01_Text.mono _ _ _
      | exact vernierref05_Kind.mono _ _ _
      | exact vernierref06_Split.mono _ _ _
      | exact LeO.none _
      | refine LeO.ite ?_ ?_
      | refine LeO.bind ?_ (fun _ => ?_)
theorem vernierref06_Decodes.mono : ∀ a0 a1 k, LeO (vernierref06_Decodes.f k a0 a1) (vernierref06_Decodes.f (k + 1) a0 a1) := by
  intro a0 a1 k
  obtain ⟨ih0, ih1⟩ := vernierref06_Decodes.mono_l k
  unfold vernierref06_Decodes.f
  repeat' first
      | (with_reducible exact ih0 _ _ _ _ _)
      | (with_reducible exact ih1 _ _ _ _ _)
      | (with_reducible exact vernierref01_Number.mono _ _)
      | (with_reducible exact vernierref01_Text.mono _ _ _)
      | (with_reducible exact vernierref05_Kind.mono _ _ _)
      | (with_reducible exact vernierref06_Split.mono _ _ _)
      | (with_reducible exact LeO.refl _)
      | (with_reducible exact LeO.none _)
      | (with_reducible refine LeO.ite ?_ ?_)
      | (with_reducible refine LeO.bind ?_ (fun _ => ?_))
      | exact ih0 _ _ _ _ _
      | exact ih1 _ _ _ _ _
      | exact vernierref01_Number.mono _ _
      | exact vernierref01_Text.mono _ _ _
      | exact vernierref05_Kind.mono _ _ _
      | exact vernierref06_Split.mono _ _ _
      | exact LeO.none _
      | refine LeO.ite ?_ ?_
      | refine LeO.bind ?_ (fun _ => ?_)
set_option maxHeartbeats 8000000 in
set_option maxRecDepth 100000 in
theorem vernierref06_Decodes.calls (k : Nat) (a0 : Int) (a1 : Int) (r1 : Int) (r2 : Bool) (r3 : Int) (r4 : Int) (r5 : Int) (w : World) (h : vernierref06_Decodes.f k a0 a1 = some (r1, r2, r3, r4, r5)) :
    Calls Try.prog 13 #[.int .i64 a0, .int .u64 a1] w fun e w' => e = .returned (.tuple #[.agg #[.int .i64 r1, .bool r2, .int .i64 r3, .int .u64 r4], .int .i64 r5]) ∧ Below w.heap.size w w' := by
  have hu31 := Try.underlying31
  have hu55 := Try.underlying55
  have HB := Aside0.mk (Below.refl w.heap.size w)
  have H : ((vernierref05_Kind.f k a0 a1).bind fun bt165 => (if bt165.2 = 0 then (vernierref06_Decodes.j0 k a0 a1 bt165.1 bt165.2 (bt165.1 != 1)) else (vernierref06_Decodes.j0 k a0 a1 bt165.1 bt165.2 true))) = some (r1, r2, r3, r4, r5) := h
  clear h
  replace H := Option.bind_eq_some_iff.mp H
  obtain ⟨⟨t165, t166⟩, A30, H⟩ := H
  replace H : (if t166 = 0 then (vernierref06_Decodes.j0 k a0 a1 t165 t166 (t165 != 1)) else (vernierref06_Decodes.j0 k a0 a1 t165 t166 true)) = some (r1, r2, r3, r4, r5) := H
  have A3 := Aside0.mk A30
  clear A30
  have HC4 := Aside0.mk H
  clear H
  go_enter Try.func13, Try.ntmps13
  go_upto_region 2 with (first | ((with_reducible refine gD (N := 4) rfl ?_); refine bE3 4 #[.int .i64 0, .bool false, .int .i64 0, .int .u64 0] 31 ?hr ?_; (case hr => first | (go_simp; done) | (go_simp; rfl)); intro gb164 hg w5 hbox hb; have n0_ := Aside0.mk (bS3 HB.out hb); have n1_ := Aside0.mk (hbox); have n2_ := Aside0.mk ((bZ3 hg HB.out)); have n3_ := Aside0.mk ((bZ3 hg HB.out)); clear HB; have HB := n0_; have BK164 := n1_; have GW164 := n2_; have GE164 := n3_; clear n0_ n1_ n2_ n3_; clear hb hbox hg) | ((with_reducible refine gC (f := 20) rfl ?_); (with_reducible refine gD (N := 15) rfl ?_); refine goesY_ (some 15) Try.func20 #[.int .i64 a0, .int .u64 a1] ?_; (with_reducible refine (vernierref05_Kind.calls k a0 a1 t165 t166 _ A3.out).mono ?_); rintro e w6 ⟨rfl, hb⟩; refine ⟨_, rfl, ?_⟩; have n0_ := Aside0.mk (bB3 BK164.out hb); have n1_ := Aside0.mk (bS3 HB.out hb); clear BK164; clear HB; have BK164 := n0_; have HB := n1_; clear n0_ n1_; (try clear hb); (try clear hb2); (try clear hk); (try clear hi)))
  (try simp only [Act.put, List.setIfInBounds_toArray, List.set_cons_zero, List.set_cons_succ])
  go_cut [23] (fun v23 wc => ∃ (kq : Nat) (x23_3 : Bool), v23 = .bool x23_3 ∧ Aside0 (vernierref06_Decodes.j0 kq a0 a1 t165 t166 x23_3 = some (r1, r2, r3, r4, r5)) ∧ Aside0 (kq ≤ k) ∧ Aside0 (wc.heap[gb164]? = some (.cells #[.int .i64 0, .bool false, .int .i64 0, .int .u64 0] 31 (0, 0))) ∧ Aside0 (Below w.heap.size w wc))
  case first =>
    have H := HC4.out
    clear HC4
    by_cases c7 : t166 = 0
    · rw [if_pos c7] at H
      have c7b0 : (t166 == 0) = true := beq_iff_eq.mpr c7
      have c7b1 : (t166 != 0) = false := bne_eq_false_iff_eq.mpr c7
      clear c7
      (first | rw [c7b0] | (simp only [i64_w, i32_w]; rw [c7b0]) | skip)
      have H' := Aside0.mk H
      clear H
      go_wp2
      go_meet
      case rel => exact ⟨_, ((t165 != 1)), (by first | rfl | (simp; done) | (simp [*]; done)), H', ⟨by first | omega | exact Nat.le_refl _⟩, ⟨by (with_reducible repeat (first | refine bN ?_ _ | refine bD ?_ | refine bA ?_ _)); exact BK164.out⟩, ⟨by repeat (first | (with_reducible first | exact HB.out | apply pA | apply pN | apply p1 | refine pS ?_ GE164.out) | exact HB.out)⟩⟩
    · rw [if_neg c7] at H
      have c7b0 : (t166 == 0) = false := beq_eq_false_iff_ne.mpr c7
      have c7b1 : (t166 != 0) = true := bne_iff_ne.mpr c7
      (first | rw [c7b0] | (simp only [i64_w, i32_w]; rw [c7b0]) | skip)
      have H' := Aside0.mk H
      clear H
      go_wp2
      go_meet
      case rel => exact ⟨_, (true), (by first | rfl | (simp; done) | (simp [*]; done)), H', ⟨by first | omega | exact Nat.le_refl _⟩, ⟨by (with_reducible repeat (first | refine bN ?_ _ | refine bD ?_ | refine bA ?_ _)); exact BK164.out⟩, ⟨by repeat (first | (with_reducible first | exact HB.out | apply pA | apply pN | apply p1 | refine pS ?_ GE164.out) | exact HB.out)⟩⟩
  case rest =>
    clear HC4
    try clear c1
    try clear c2
    try clear p2
    try clear c7
    try clear c7b0
    try clear c7b1
    obtain ⟨kq, x23_3, rfl, HA, HJ3, BK164, HB⟩ := hcut
    cases kq with
    | zero => exact absurd HA.out (by simp [vernierref06_Decodes.j0])
    | succ kj3 =>
      have H := HA.out
      clear HA
      simp only [vernierref06_Decodes.j0] at H
      by_cases c8 : x23_3 = true
      · subst c8
        have H1 : (some (t165, false, 0, 0, t166)) = some (r1, r2, r3, r4, r5) := by rw [if_pos rfl] at H; exact H
        clear H
        have H := H1
        clear H1
        simp only [Option.some.injEq, Prod.mk.injEq] at H
        obtain ⟨rfl, rfl, rfl, rfl, rfl⟩ := H
        have hcz9_0 : wc.cell? ⟨gb164, 0, none⟩ = some (.int .i64 0) := (blk_cell BK164.out 0).trans rfl
        have hcz9_1 : wc.cell? ⟨gb164, 1, none⟩ = some (.bool false) := (blk_cell BK164.out 1).trans rfl
        have hcz9_2 : wc.cell? ⟨gb164, 2, none⟩ = some (.int .i64 0) := (blk_cell BK164.out 2).trans rfl
        have hcz9_3 : wc.cell? ⟨gb164, 3, none⟩ = some (.int .u64 0) := (blk_cell BK164.out 3).trans rfl
        have hfz9_0 := blk_frozen BK164.out 0
        have hfz9_1 := blk_frozen BK164.out 1
        have hfz9_2 := blk_frozen BK164.out 2
        have hfz9_3 := blk_frozen BK164.out 3
        go_wp2
        refine bodyPost_ret (results_ct rfl _ _ gb164 31 #[.int .i64 t165, .bool false, .int .i64 0, .int .u64 0] (0, 0) _ rfl (by (with_reducible repeat (first | refine bN ?_ _ | refine bD ?_ | refine bA ?_ _)); refine blk_put (cs := #[.int .i64 t165, .bool false, .int .i64 0, .int .u64 0]) ?_ 3 _ rfl; (with_reducible repeat (first | refine bN ?_ _ | refine bD ?_ | refine bA ?_ _)); refine blk_put (cs := #[.int .i64 t165, .bool false, .int .i64 0, .int .u64 0]) ?_ 2 _ rfl; (with_reducible repeat (first | refine bN ?_ _ | refine bD ?_ | refine bA ?_ _)); refine blk_put (cs := #[.int .i64 t165, .bool false, .int .i64 0, .int .u64 0]) ?_ 1 _ rfl; (with_reducible repeat (first | refine bN ?_ _ | refine bD ?_ | refine bA ?_ _)); refine blk_put (cs := #[.int .i64 0, .bool false, .int .i64 0, .int .u64 0]) ?_ 0 _ rfl; (with_reducible repeat (first | refine bN ?_ _ | refine bD ?_ | refine bA ?_ _)); exact BK164.out) Try.underlying31 rfl (by kernel_rfl)) rfl ?_
        exact ⟨by first | rfl | (simp [errW_none, errW_some] <;> rfl) | (simp [*, errW_none, errW_some] <;> rfl), by repeat (first | (with_reducible first | exact HB.out | apply pA | apply pN | apply p1 | refine pS ?_ GE164.out) | exact HB.out)⟩
      · replace c8 := Bool.eq_false_iff.mpr c8
        subst c8
        have H1 : ((vernierref06_Split.f kj3 a0 a1).bind fun bt167 => ((vernierref01_Text.f kj3 bt167.2.2.2.2.2.2.2.1 bt167.2.2.2.2.2.2.1).bind fun t178 => (if 1 + t178.size ≤ 9223372036854775807 then (vernierref06_Decodes.l0 kj3 ((⟨#[49]⟩ : ByteArray) ++ t178) t165 bt167.1 (wrap64 ((wrap64 (4 * bt167.2.2.2.1)) + bt167.2.2.2.2.2.1)) 0) else (none)))) = some (r1, r2, r3, r4, r5) := by rw [if_neg (show ¬ (false = true) by decide)] at H; exact H
        clear H
        have H := H1
        clear H1
        replace H := Option.bind_eq_some_iff.mp H
        obtain ⟨⟨t167, t168, t169, t170, t171, t172, t173, t174, t175⟩, A100, H⟩ := H
        replace H : ((vernierref01_Text.f kj3 t174 t173).bind fun t178 => (if 1 + t178.size ≤ 9223372036854775807 then (vernierref06_Decodes.l0 kj3 ((⟨#[49]⟩ : ByteArray) ++ t178) t165 t167 (wrap64 ((wrap64 (4 * t170)) + t172)) 0) else (none))) = some (r1, r2, r3, r4, r5) := H
        have A10 := Aside0.mk A100
        clear A100
        replace H := Option.bind_eq_some_iff.mp H
        obtain ⟨t178, A110, H⟩ := H
        replace H : (if 1 + t178.size ≤ 9223372036854775807 then (vernierref06_Decodes.l0 kj3 ((⟨#[49]⟩ : ByteArray) ++ t178) t165 t167 (wrap64 ((wrap64 (4 * t170)) + t172)) 0) else (none)) = some (r1, r2, r3, r4, r5) := H
        have A11 := Aside0.mk A110
        clear A110
        by_cases c12 : 1 + t178.size ≤ 9223372036854775807
        · rw [if_pos c12] at H
          have c12b0 := eq_true c12
          have c12b1 : decide (1 + t178.size ≤ 9223372036854775807) = true := decide_eq_true c12
          try have c12b2 : (9223372036854775807 < 1 + t178.size) = False := eq_false (Nat.not_lt.2 c12)
          have H' := Aside0.mk H
          clear H
          go_wp2_with (first | ((with_reducible refine gC (f := 21) rfl ?_); (with_reducible refine gD (N := 30) rfl ?_); refine goesY_ (some 30) Try.func21 #[.int .i64 a0, .int .u64 a1] ?_; (with_reducible refine (vernierref06_Split.calls kj3 a0 a1 t167 t168 t169 t170 t171 t172 t173 t174 t175 _ A10.out).mono ?_); rintro e w13 ⟨rfl, hb⟩; refine ⟨_, rfl, ?_⟩; have n0_ := Aside0.mk (bB3 BK164.out hb); have n1_ := Aside0.mk (bS3 HB.out hb); clear BK164; clear HB; have BK164 := n0_; have HB := n1_; clear n0_ n1_; (try clear hb); (try clear hb2); (try clear hk); (try clear hi)) | ((with_reducible refine gD (N := 8) rfl ?_); refine bE3 8 #[.bool false, .bool false, .int .i64 0, .int .i64 0, .int .i64 0, .int .i64 0, .int .i64 0, .int .u64 0] 55 ?hr ?_; (case hr => first | (go_simp; done) | (go_simp; rfl)); intro gb176 hg w14 hbox hb; have n0_ := Aside0.mk (bB3 BK164.out hb); have n1_ := Aside0.mk (bS3 HB.out hb); have n2_ := Aside0.mk (hbox); have n3_ := Aside0.mk ((bZ3 hg HB.out)); have n4_ := Aside0.mk ((bZ3 hg HB.out)); have n5_ := Aside0.mk ((bL3 hg BK164.out)); have n6_ := Aside0.mk ((bG3 hg BK164.out)); clear BK164; clear HB; have BK164 := n0_; have HB := n1_; have BK176 := n2_; have GW176 := n3_; have GE176 := n4_; have NB164_176 := n5_; have NB176_164 := n6_; clear n0_ n1_ n2_ n3_ n4_ n5_ n6_; clear hb hbox hg; have hnb15 := NB176_164.out; have hnc15 := NB164_176.out; have hcz16_0 : w14.cell? ⟨gb176, 0, none⟩ = some (.bool false) := (blk_cell BK176.out 0).trans rfl; have hcz16_1 : w14.cell? ⟨gb176, 1, none⟩ = some (.bool false) := (blk_cell BK176.out 1).trans rfl; have hcz16_2 : w14.cell? ⟨gb176, 2, none⟩ = some (.int .i64 0) := (blk_cell BK176.out 2).trans rfl; have hcz16_3 : w14.cell? ⟨gb176, 3, none⟩ = some (.int .i64 0) := (blk_cell BK176.out 3).trans rfl; have hcz16_4 : w14.cell? ⟨gb176, 4, none⟩ = some (.int .i64 0) := (blk_cell BK176.out 4).trans rfl; have hcz16_5 : w14.cell? ⟨gb176, 5, none⟩ = some (.int .i64 0) := (blk_cell BK176.out 5).trans rfl; have hcz16_6 : w14.cell? ⟨gb176, 6, none⟩ = some (.int .i64 0) := (blk_cell BK176.out 6).trans rfl; have hcz16_7 : w14.cell? ⟨gb176, 7, none⟩ = some (.int .u64 0) := (blk_cell BK176.out 7).trans rfl; have hfz16_0 := blk_frozen BK176.out 0; have hfz16_1 := blk_frozen BK176.out 1; have hfz16_2 := blk_frozen BK176.out 2; have hfz16_3 := blk_frozen BK176.out 3; have hfz16_4 := blk_frozen BK176.out 4; have hfz16_5 := blk_frozen BK176.out 5; have hfz16_6 := blk_frozen BK176.out 6; have hfz16_7 := blk_frozen BK176.out 7) | ((with_reducible refine gD (N := 10) rfl ?_); refine bE3 10 #[.int .i64 0, .bool false, .int .i64 0, .int .u64 0] 31 ?hr ?_; (case hr => first | (go_simp; done) | (go_simp; rfl)); intro gb177 hg w17 hbox hb; have n0_ := Aside0.mk (bB (g := gb164) (o := .cells #[.int .i64 0, .bool false, .int .i64 0, .int .u64 0] 31 (0, 0)) (by (with_reducible repeat (first | refine bN ?_ _ | refine bD ?_ | refine bA ?_ _)); refine blk_far ?_ NB164_176.out _; (with_reducible repeat (first | refine bN ?_ _ | refine bD ?_ | refine bA ?_ _)); refine blk_far ?_ NB164_176.out _; (with_reducible repeat (first | refine bN ?_ _ | refine bD ?_ | refine bA ?_ _)); refine blk_far ?_ NB164_176.out _; (with_reducible repeat (first | refine bN ?_ _ | refine bD ?_ | refine bA ?_ _)); refine blk_far ?_ NB164_176.out _; (with_reducible repeat (first | refine bN ?_ _ | refine bD ?_ | refine bA ?_ _)); refine blk_far ?_ NB164_176.out _; (with_reducible repeat (first | refine bN ?_ _ | refine bD ?_ | refine bA ?_ _)); refine blk_far ?_ NB164_176.out _; (with_reducible repeat (first | refine bN ?_ _ | refine bD ?_ | refine bA ?_ _)); refine blk_far ?_ NB164_176.out _; (with_reducible repeat (first | refine bN ?_ _ | refine bD ?_ | refine bA ?_ _)); refine blk_far ?_ NB164_176.out _; (with_reducible repeat (first | refine bN ?_ _ | refine bD ?_ | refine bA ?_ _)); exact BK164.out) hb); have n1_ := Aside0.mk (bB (g := gb176) (o := .cells #[.bool t167, .bool t168, .int .i64 t169, .int .i64 t170, .int .i64 t171, .int .i64 t172, .int .i64 t173, .int .u64 t174] 55 (0, 0)) (by (with_reducible repeat (first | refine bN ?_ _ | refine bD ?_ | refine bA ?_ _)); refine blk_put (cs := #[.bool t167, .bool t168, .int .i64 t169, .int .i64 t170, .int .i64 t171, .int .i64 t172, .int .i64 t173, .int .u64 0]) ?_ 7 _ rfl; (with_reducible repeat (first | refine bN ?_ _ | refine bD ?_ | refine bA ?_ _)); refine blk_put (cs := #[.bool t167, .bool t168, .int .i64 t169, .int .i64 t170, .int .i64 t171, .int .i64 t172, .int .i64 0, .int .u64 0]) ?_ 6 _ rfl; (with_reducible repeat (first | refine bN ?_ _ | refine bD ?_ | refine bA ?_ _)); refine blk_put (cs := #[.bool t167, .bool t168, .int .i64 t169, .int .i64 t170, .int .i64 t171, .int .i64 0, .int .i64 0, .int .u64 0]) ?_ 5 _ rfl; (with_reducible repeat (first | refine bN ?_ _ | refine bD ?_ | refine bA ?_ _)); refine blk_put (cs := #[.bool t167, .bool t168, .int .i64 t169, .int .i64 t170, .int .i64 0, .int .i64 0, .int .i64 0, .int .u64 0]) ?_ 4 _ rfl; (with_reducible repeat (first | refine bN ?_ _ | refine bD ?_ | refine bA ?_ _)); refine blk_put (cs := #[.bool t167, .bool t168, .int .i64 t169, .int .i64 0, .int .i64 0, .int .i64 0, .int .i64 0, .int .u64 0]) ?_ 3 _ rfl; (with_reducible repeat (first | refine bN ?_ _ | refine bD ?_ | refine bA ?_ _)); refine blk_put (cs := #[.bool t167, .bool t168, .int .i64 0, .int .i64 0, .int .i64 0, .int .i64 0, .int .i64 0, .int .u64 0]) ?_ 2 _ rfl; (with_reducible repeat (first | refine bN ?_ _ | refine bD ?_ | refine bA ?_ _)); refine blk_put (cs := #[.bool t167, .bool false, .int .i64 0, .int .i64 0, .int .i64 0, .int .i64 0, .int .i64 0, .int .u64 0]) ?_ 1 _ rfl; (with_reducible repeat (first | refine bN ?_ _ | refine bD ?_ | refine bA ?_ _)); refine blk_put (cs := #[.bool false, .bool false, .int .i64 0, .int .i64 0, .int .i64 0, .int .i64 0, .int .i64 0, .int .u64 0]) ?_ 0 _ rfl; (with_reducible repeat (first | refine bN ?_ _ | refine bD ?_ | refine bA ?_ _)); exact BK176.out) hb); have n2_ := Aside0.mk (bS3 HB.out hb); have n3_ := Aside0.mk (hbox); have n4_ := Aside0.mk ((bZ3 hg HB.out)); have n5_ := Aside0.mk ((bZ3 hg HB.out)); have n6_ := Aside0.mk ((by rw [hg]; exact Nat.ne_of_lt (bL (g := gb164) (o := .cells #[.int .i64 0, .bool false, .int .i64 0, .int .u64 0] 31 (0, 0)) (by (with_reducible repeat (first | refine bN ?_ _ | refine bD ?_ | refine bA ?_ _)); refine blk_far ?_ NB164_176.out _; (with_reducible repeat (first | refine bN ?_ _ | refine bD ?_ | refine bA ?_ _)); refine blk_far ?_ NB164_176.out _; (with_reducible repeat (first | refine bN ?_ _ | refine bD ?_ | refine bA ?_ _)); refine blk_far ?_ NB164_176.out _; (with_reducible repeat (first | refine bN ?_ _ | refine bD ?_ | refine bA ?_ _)); refine blk_far ?_ NB164_176.out _; (with_reducible repeat (first | refine bN ?_ _ | refine bD ?_ | refine bA ?_ _)); refine blk_far ?_ NB164_176.out _; (with_reducible repeat (first | refine bN ?_ _ | refine bD ?_ | refine bA ?_ _)); refine blk_far ?_ NB164_176.out _; (with_reducible repeat (first | refine bN ?_ _ | refine bD ?_ | refine bA ?_ _)); refine blk_far ?_ NB164_176.out _; (with_reducible repeat (first | refine bN ?_ _ | refine bD ?_ | refine bA ?_ _)); refine blk_far ?_ NB164_176.out _; (with_reducible repeat (first | refine bN ?_ _ | refine bD ?_ | refine bA ?_ _)); exact BK164.out)) : gb164 ≠ gb177)); have n7_ := Aside0.mk ((by rw [hg]; exact Nat.ne_of_gt (bL (g := gb164) (o := .cells #[.int .i64 0, .bool false, .int .i64 0, .int .u64 0] 31 (0, 0)) (by (with_reducible repeat (first | refine bN ?_ _ | refine bD ?_ | refine bA ?_ _)); refine blk_far ?_ NB164_176.out _; (with_reducible repeat (first | refine bN ?_ _ | refine bD ?_ | refine bA ?_ _)); refine blk_far ?_ NB164_176.out _; (with_reducible repeat (first | refine bN ?_ _ | refine bD ?_ | refine bA ?_ _)); refine blk_far ?_ NB164_176.out _; (with_reducible repeat (first | refine bN ?_ _ | refine bD ?_ | refine bA ?_ _)); refine blk_far ?_ NB164_176.out _; (with_reducible repeat (first | refine bN ?_ _ | refine bD ?_ | refine bA ?_ _)); refine blk_far ?_ NB164_176.out _; (with_reducible repeat (first | refine bN ?_ _ | refine bD ?_ | refine bA ?_ _)); refine blk_far ?_ NB164_176.out _; (with_reducible repeat (first | refine bN ?_ _ | refine bD ?_ | refine bA ?_ _)); refine blk_far ?_ NB164_176.out _; (with_reducible repeat (first | refine bN ?_ _ | refine bD ?_ | refine bA ?_ _)); refine blk_far ?_ NB164_176.out _; (with_reducible repeat (first | refine bN ?_ _ | refine bD ?_ | refine bA ?_ _)); exact BK164.out)) : gb177 ≠ gb164)); have n8_ := Aside0.mk ((by rw [hg]; exact Nat.ne_of_lt (bL (g := gb176) (o := .cells #[.bool t167, .bool t168, .int .i64 t169, .int .i64 t170, .int .i64 t171, .int .i64 t172, .int .i64 t173, .int .u64 t174] 55 (0, 0)) (by (with_reducible repeat (first | refine bN ?_ _ | refine bD ?_ | refine bA ?_ _)); refine blk_put (cs := #[.bool t167, .bool t168, .int .i64 t169, .int .i64 t170, .int .i64 t171, .int .i64 t172, .int .i64 t173, .int .u64 0]) ?_ 7 _ rfl; (with_reducible repeat (first | refine bN ?_ _ | refine bD ?_ | refine bA ?_ _)); refine blk_put (cs := #[.bool t167, .bool t168, .int .i64 t169, .int .i64 t170, .int .i64 t171, .int .i64 t172, .int .i64 0, .int .u64 0]) ?_ 6 _ rfl; (with_reducible repeat (first | refine bN ?_ _ | refine bD ?_ | refine bA ?_ _)); refine blk_put (cs := #[.bool t167, .bool t168, .int .i64 t169, .int .i64 t170, .int .i64 t171, .int .i64 0, .int .i64 0, .int .u64 0]) ?_ 5 _ rfl; (with_reducible repeat (first | refine bN ?_ _ | refine bD ?_ | refine bA ?_ _)); refine blk_put (cs := #[.bool t167, .bool t168, .int .i64 t169, .int .i64 t170, .int .i64 0, .int .i64 0, .int .i64 0, .int .u64 0]) ?_ 4 _ rfl; (with_reducible repeat (first | refine bN ?_ _ | refine bD ?_ | refine bA ?_ _)); refine blk_put (cs := #[.bool t167, .bool t168, .int .i64 t169, .int .i64 0, .int .i64 0, .int .i64 0, .int .i64 0, .int .u64 0]) ?_ 3 _ rfl; (with_reducible repeat (first | refine bN ?_ _ | refine bD ?_ | refine bA ?_ _)); refine blk_put (cs := #[.bool t167, .bool t168, .int .i64 0, .int .i64 0, .int .i64 0, .int .i64 0, .int .i64 0, .int .u64 0]) ?_ 2 _ rfl; (with_reducible repeat (first | refine bN ?_ _ | refine bD ?_ | refine bA ?_ _)); refine blk_put (cs := #[.bool t167, .bool false, .int .i64 0, .int .i64 0, .int .i64 0, .int .i64 0, .int .i64 0, .int .u64 0]) ?_ 1 _ rfl; (with_reducible repeat (first | refine bN ?_ _ | refine bD ?_ | refine bA ?_ _)); refine blk_put (cs := #[.bool false, .bool false, .int .i64 0, .int .i64 0, .int .i64 0, .int .i64 0, .int .i64 0, .int .u64 0]) ?_ 0 _ rfl; (with_reducible repeat (first | refine bN ?_ _ | refine bD ?_ | refine bA ?_ _)); exact BK176.out)) : gb176 ≠ gb177)); have n9_ := Aside0.mk ((by rw [hg]; exact Nat.ne_of_gt (bL (g := gb176) (o := .cells #[.bool t167, .bool t168, .int .i64 t169, .int .i64 t170, .int .i64 t171, .int .i64 t172, .int .i64 t173, .int .u64 t174] 55 (0, 0)) (by (with_reducible repeat (first | refine bN ?_ _ | refine bD ?_ | refine bA ?_ _)); refine blk_put (cs := #[.bool t167, .bool t168, .int .i64 t169, .int .i64 t170, .int .i64 t171, .int .i64 t172, .int .i64 t173, .int .u64 0]) ?_ 7 _ rfl; (with_reducible repeat (first | refine bN ?_ _ | refine bD ?_ | refine bA ?_ _)); refine blk_put (cs := #[.bool t167, .bool t168, .int .i64 t169, .int .i64 t170, .int .i64 t171, .int .i64 t172, .int .i64 0, .int .u64 0]) ?_ 6 _ rfl; (with_reducible repeat (first | refine bN ?_ _ | refine bD ?_ | refine bA ?_ _)); refine blk_put (cs := #[.bool t167, .bool t168, .int .i64 t169, .int .i64 t170, .int .i64 t171, .int .i64 0, .int .i64 0, .int .u64 0]) ?_ 5 _ rfl; (with_reducible repeat (first | refine bN ?_ _ | refine bD ?_ | refine bA ?_ _)); refine blk_put (cs := #[.bool t167, .bool t168, .int .i64 t169, .int .i64 t170, .int .i64 0, .int .i64 0, .int .i64 0, .int .u64 0]) ?_ 4 _ rfl; (with_reducible repeat (first | refine bN ?_ _ | refine bD ?_ | refine bA ?_ _)); refine blk_put (cs := #[.bool t167, .bool t168, .int .i64 t169, .int .i64 0, .int .i64 0, .int .i64 0, .int .i64 0, .int .u64 0]) ?_ 3 _ rfl; (with_reducible repeat (first | refine bN ?_ _ | refine bD ?_ | refine bA ?_ _)); refine blk_put (cs := #[.bool t167, .bool t168, .int .i64 0, .int .i64 0, .int .i64 0, .int .i64 0, .int .i64 0, .int .u64 0]) ?_ 2 _ rfl; (with_reducible repeat (first | refine bN ?_ _ | refine bD ?_ | refine bA ?_ _)); refine blk_put (cs := #[.bool t167, .bool false, .int .i64 0, .int .i64 0, .int .i64 0, .int .i64 0, .int .i64 0, .int .u64 0]) ?_ 1 _ rfl; (with_reducible repeat (first | refine bN ?_ _ | refine bD ?_ | refine bA ?_ _)); refine blk_put (cs := #[.bool false, .bool false, .int .i64 0, .int .i64 0, .int .i64 0, .int .i64 0, .int .i64 0, .int .u64 0]) ?_ 0 _ rfl; (with_reducible repeat (first | refine bN ?_ _ | refine bD ?_ | refine bA ?_ _)); exact BK176.out)) : gb177 ≠ gb176)); clear BK164; clear BK176; clear HB; have BK164 := n0_; have BK176 := n1_; have HB := n2_; have BK177 := n3_; have GW177 := n4_; have GE177 := n5_; have NB164_177 := n6_; have NB177_164 := n7_; have NB176_177 := n8_; have NB177_176 := n9_; clear n0_ n1_ n2_ n3_ n4_ n5_ n6_ n7_ n8_ n9_; clear hb hbox hg; have hnb18 := NB177_164.out; have hnc18 := NB164_177.out; have hnb19 := NB177_176.out; have hnc19 := NB176_177.out; have hcz20_0 : w17.cell? ⟨gb177, 0, none⟩ = some (.int .i64 0) := (blk_cell BK177.out 0).trans rfl; have hcz20_1 : w17.cell? ⟨gb177, 1, none⟩ = some (.bool false) := (blk_cell BK177.out 1).trans rfl; have hcz20_2 : w17.cell? ⟨gb177, 2, none⟩ = some (.int .i64 0) := (blk_cell BK177.out 2).trans rfl; have hcz20_3 : w17.cell? ⟨gb177, 3, none⟩ = some (.int .u64 0) := (blk_cell BK177.out 3).trans rfl; have hfz20_0 := blk_frozen BK177.out 0; have hfz20_1 := blk_frozen BK177.out 1; have hfz20_2 := blk_frozen BK177.out 2; have hfz20_3 := blk_frozen BK177.out 3; have hcz21_0 : w17.cell? ⟨gb176, 0, none⟩ = some (.bool t167) := (blk_cell BK176.out 0).trans rfl; have hcz21_1 : w17.cell? ⟨gb176, 1, none⟩ = some (.bool t168) := (blk_cell BK176.out 1).trans rfl; have hcz21_2 : w17.cell? ⟨gb176, 2, none⟩ = some (.int .i64 t169) := (blk_cell BK176.out 2).trans rfl; have hcz21_3 : w17.cell? ⟨gb176, 3, none⟩ = some (.int .i64 t170) := (blk_cell BK176.out 3).trans rfl; have hcz21_4 : w17.cell? ⟨gb176, 4, none⟩ = some (.int .i64 t171) := (blk_cell BK176.out 4).trans rfl; have hcz21_5 : w17.cell? ⟨gb176, 5, none⟩ = some (.int .i64 t172) := (blk_cell BK176.out 5).trans rfl; have hcz21_6 : w17.cell? ⟨gb176, 6, none⟩ = some (.int .i64 t173) := (blk_cell BK176.out 6).trans rfl; have hcz21_7 : w17.cell? ⟨gb176, 7, none⟩ = some (.int .u64 t174) := (blk_cell BK176.out 7).trans rfl; have hfz21_0 := blk_frozen BK176.out 0; have hfz21_1 := blk_frozen BK176.out 1; have hfz21_2 := blk_frozen BK176.out 2; have hfz21_3 := blk_frozen BK176.out 3; have hfz21_4 := blk_frozen BK176.out 4; have hfz21_5 := blk_frozen BK176.out 5; have hfz21_6 := blk_frozen BK176.out 6; have hfz21_7 := blk_frozen BK176.out 7) | ((with_reducible refine gC (f := 22) rfl ?_); (with_reducible refine gD (N := 47) rfl ?_); refine goesY_ (some 47) Try.func22 #[.int .u64 t174, .int .i64 t173] ?_; (with_reducible refine (vernierref01_Text.calls kj3 t174 t173 t178 _ A11.out).mono ?_); rintro e w22 ⟨rfl, hb⟩; refine ⟨_, rfl, ?_⟩; have n0_ := Aside0.mk (bB (g := gb164) (o := .cells #[.int .i64 0, .bool false, .int .i64 0, .int .u64 0] 31 (0, 0)) (by (with_reducible repeat (first | refine bN ?_ _ | refine bD ?_ | refine bA ?_ _)); refine blk_far ?_ NB164_177.out _; (with_reducible repeat (first | refine bN ?_ _ | refine bD ?_ | refine bA ?_ _)); refine blk_far ?_ NB164_177.out _; (with_reducible repeat (first | refine bN ?_ _ | refine bD ?_ | refine bA ?_ _)); refine blk_far ?_ NB164_177.out _; (with_reducible repeat (first | refine bN ?_ _ | refine bD ?_ | refine bA ?_ _)); refine blk_far ?_ NB164_177.out _; (with_reducible repeat (first | refine bN ?_ _ | refine bD ?_ | refine bA ?_ _)); exact BK164.out) hb); have n1_ := Aside0.mk (bB (g := gb176) (o := .cells #[.bool t167, .bool t168, .int .i64 t169, .int .i64 t170, .int .i64 t171, .int .i64 t172, .int .i64 t173, .int .u64 t174] 55 (0, 0)) (by (with_reducible repeat (first | refine bN ?_ _ | refine bD ?_ | refine bA ?_ _)); refine blk_far ?_ NB176_177.out _; (with_reducible repeat (first | refine bN ?_ _ | refine bD ?_ | refine bA ?_ _)); refine blk_far ?_ NB176_177.out _; (with_reducible repeat (first | refine bN ?_ _ | refine bD ?_ | refine bA ?_ _)); refine blk_far ?_ NB176_177.out _; (with_reducible repeat (first | refine bN ?_ _ | refine bD ?_ | refine bA ?_ _)); refine blk_far ?_ NB176_177.out _; (with_reducible repeat (first | refine bN ?_ _ | refine bD ?_ | refine bA ?_ _)); exact BK176.out) hb); have n2_ := Aside0.mk (bB (g := gb177) (o := .cells #[.int .i64 t165, .bool t167, .int .i64 (wrap64 ((wrap64 (4 * t170)) + t172)), .int .u64 0] 31 (0, 0)) (by (with_reducible repeat (first | refine bN ?_ _ | refine bD ?_ | refine bA ?_ _)); refine blk_put (cs := #[.int .i64 t165, .bool t167, .int .i64 (wrap64 ((wrap64 (4 * t170)) + t172)), .int .u64 0]) ?_ 3 _ rfl; (with_reducible repeat (first | refine bN ?_ _ | refine bD ?_ | refine bA ?_ _)); refine blk_put (cs := #[.int .i64 t165, .bool t167, .int .i64 0, .int .u64 0]) ?_ 2 _ rfl; (with_reducible repeat (first | refine bN ?_ _ | refine bD ?_ | refine bA ?_ _)); refine blk_put (cs := #[.int .i64 t165, .bool false, .int .i64 0, .int .u64 0]) ?_ 1 _ rfl; (with_reducible repeat (first | refine bN ?_ _ | refine bD ?_ | refine bA ?_ _)); refine blk_put (cs := #[.int .i64 0, .bool false, .int .i64 0, .int .u64 0]) ?_ 0 _ rfl; (with_reducible repeat (first | refine bN ?_ _ | refine bD ?_ | refine bA ?_ _)); exact BK177.out) hb); have n3_ := Aside0.mk (bS3 HB.out hb); clear BK164; clear BK176; clear BK177; clear HB; have BK164 := n0_; have BK176 := n1_; have BK177 := n2_; have HB := n3_; clear n0_ n1_ n2_ n3_; (try clear hb); (try clear hb2); (try clear hk); (try clear hi)))
          go_loopg [11] kj3 (fun kq v11 w' => ∃ (x11_2 : ByteArray), v11 = .string x11_2 ∧ Aside0 (vernierref06_Decodes.l0 kq x11_2 t165 t167 (wrap64 ((wrap64 (4 * t170)) + t172)) 0 = some (r1, r2, r3, r4, r5)) ∧ Aside0 (kq ≤ kj3) ∧ Aside0 (w'.heap[gb164]? = some (.cells #[.int .i64 0, .bool false, .int .i64 0, .int .u64 0] 31 (0, 0))) ∧ Aside0 (w'.heap[gb176]? = some (.cells #[.bool t167, .bool t168, .int .i64 t169, .int .i64 t170, .int .i64 t171, .int .i64 t172, .int .i64 t173, .int .u64 t174] 55 (0, 0))) ∧ Aside0 (w'.heap[gb177]? = some (.cells #[.int .i64 t165, .bool t167, .int .i64 (wrap64 ((wrap64 (4 * t170)) + t172)), .int .u64 0] 31 (0, 0))) ∧ Aside0 (Below w.heap.size w w'))
          case atStart => exact ⟨((⟨#[49]⟩ : ByteArray) ++ t178), (by first | rfl | (simp; done) | (simp [*]; done)), H', ⟨Nat.le_refl _⟩, ⟨by (with_reducible repeat (first | refine bN ?_ _ | refine bD ?_ | refine bA ?_ _)); exact BK164.out⟩, ⟨by (with_reducible repeat (first | refine bN ?_ _ | refine bD ?_ | refine bA ?_ _)); exact BK176.out⟩, ⟨by (with_reducible repeat (first | refine bN ?_ _ | refine bD ?_ | refine bA ?_ _)); exact BK177.out⟩, ⟨by repeat (first | (with_reducible first | exact HB.out | apply pA | apply pN | apply p1 | refine pS ?_ GE164.out | refine pS ?_ GE176.out | refine pS ?_ GE177.out) | exact HB.out)⟩⟩
          case round =>
            clear H'
            try clear c1
            try clear c2
            try clear p2
            try clear p6
            try clear c7
            try clear c7b0
            try clear c7b1
            try clear c8
            try clear c12
            try clear c12b0
            try clear c12b1
            try clear c12b2
            try clear c13
            try clear c15
            try clear c18
            try clear c19
            try clear c20
            try clear c21
            try clear c22
            try clear hcz16_0
            try clear hcz16_1
            try clear hcz16_2
            try clear hcz16_3
            try clear hcz16_4
            try clear hcz16_5
            try clear hcz16_6
            try clear hcz16_7
            try clear hcz20_0
            try clear hcz20_1
            try clear hcz20_2
            try clear hcz20_3
            try clear hcz21_0
            try clear hcz21_1
            try clear hcz21_2
            try clear hcz21_3
            try clear hcz21_4
            try clear hcz21_5
            try clear hcz21_6
            try clear hcz21_7
            try clear hcz9_0
            try clear hcz9_1
            try clear hcz9_2
            try clear hcz9_3
            try clear hfz16_0
            try clear hfz16_1
            try clear hfz16_2
            try clear hfz16_3
            try clear hfz16_4
            try clear hfz16_5
            try clear hfz16_6
            try clear hfz16_7
            try clear hfz20_0
            try clear hfz20_1
            try clear hfz20_2
            try clear hfz20_3
            try clear hfz21_0
            try clear hfz21_1
            try clear hfz21_2
            try clear hfz21_3
            try clear hfz21_4
            try clear hfz21_5
            try clear hfz21_6
            try clear hfz21_7
            try clear hfz9_0
            try clear hfz9_1
            try clear hfz9_2
            try clear hfz9_3
            try clear p2
            obtain ⟨x11_2, rfl, HA, HK2, BK164, BK176, BK177, HB⟩ := hrel
            cases gk with
            | zero => exact absurd HA.out (by simp [vernierref06_Decodes.l0])
            | succ k2 =>
              have H := HA.out
              clear HA
              simp only [vernierref06_Decodes.l0] at H
              by_cases c23 : (x11_2.size : Int) < 64
              · rw [if_pos c23] at H
                have c23b0 : decide ((x11_2.size : Int) < 64) = true := decide_eq_true c23
                have c23b1 : decide (x11_2.size < 64) = true := decide_eq_true (by omega)
                clear c23
                by_cases c24 : x11_2.size + 1 ≤ 9223372036854775807
                · rw [if_pos c24] at H
                  have c24b0 := eq_true c24
                  have c24b1 : decide (x11_2.size + 1 ≤ 9223372036854775807) = true := decide_eq_true c24
                  try have c24b2 : (9223372036854775807 < x11_2.size + 1) = False := eq_false (Nat.not_lt.2 c24)
                  have H' := Aside0.mk H
                  clear H
                  go_wp2
                  go_roundg k2
                  case measure => have := HJ3.out; have := HK2.out; omega
                  case rel => exact ⟨(x11_2 ++ (⟨#[48]⟩ : ByteArray)), (by first | rfl | (simp; done) | (simp [*]; done)), H', ⟨by have := HJ3.out; have := HK2.out; omega⟩, ⟨by (with_reducible repeat (first | refine bN ?_ _ | refine bD ?_ | refine bA ?_ _)); exact BK164.out⟩, ⟨by (with_reducible repeat (first | refine bN ?_ _ | refine bD ?_ | refine bA ?_ _)); exact BK176.out⟩, ⟨by (with_reducible repeat (first | refine bN ?_ _ | refine bD ?_ | refine bA ?_ _)); exact BK177.out⟩, ⟨by repeat (first | (with_reducible first | exact HB.out | apply pA | apply pN | apply p1 | refine pS ?_ GE164.out | refine pS ?_ GE176.out | refine pS ?_ GE177.out) | exact HB.out)⟩⟩
                · rw [if_neg c24] at H
                  exact absurd H (by simp)
              · rw [if_neg c23] at H
                have c23b0 : decide ((x11_2.size : Int) < 64) = false := decide_eq_false c23
                have c23b1 : decide (x11_2.size < 64) = false := decide_eq_false (by omega)
                clear c23
                replace H := Option.bind_eq_some_iff.mp H
                obtain ⟨t179, A250, H⟩ := H
                replace H : (some (t165, t167, (wrap64 ((wrap64 (4 * t170)) + t172)), t179, 0)) = some (r1, r2, r3, r4, r5) := H
                have A25 := Aside0.mk A250
                clear A250
                simp only [Option.some.injEq, Prod.mk.injEq] at H
                obtain ⟨rfl, rfl, rfl, rfl, rfl⟩ := H
                go_wp2_with (first | ((with_reducible refine gC (f := 23) rfl ?_); (with_reducible refine gD (N := 55) rfl ?_); refine goesY_ (some 55) Try.func23 #[.string x11_2] ?_; (with_reducible refine (vernierref01_Number.calls k2 x11_2 t179 _ A25.out).mono ?_); rintro e w' ⟨rfl, ⟨nd, rfl⟩⟩; refine ⟨_, rfl, ?_⟩; (try (rw [drewN_self wr]; generalize hq_ : World.drewN wr _ = wr; have n0_ : Aside0 (wr.heap[gb164]? = some (.cells #[.int .i64 0, .bool false, .int .i64 0, .int .u64 0] 31 (0, 0))) := ⟨by rw [← hq_]; exact (by (with_reducible repeat (first | refine bN ?_ _ | refine bD ?_ | refine bA ?_ _)); exact BK164.out)⟩; have n1_ : Aside0 (wr.heap[gb176]? = some (.cells #[.bool t167, .bool t168, .int .i64 t169, .int .i64 t170, .int .i64 t171, .int .i64 t172, .int .i64 t173, .int .u64 t174] 55 (0, 0))) := ⟨by rw [← hq_]; exact (by (with_reducible repeat (first | refine bN ?_ _ | refine bD ?_ | refine bA ?_ _)); exact BK176.out)⟩; have n2_ : Aside0 (wr.heap[gb177]? = some (.cells #[.int .i64 t165, .bool t167, .int .i64 (wrap64 ((wrap64 (4 * t170)) + t172)), .int .u64 0] 31 (0, 0))) := ⟨by rw [← hq_]; exact (by (with_reducible repeat (first | refine bN ?_ _ | refine bD ?_ | refine bA ?_ _)); exact BK177.out)⟩; have n3_ : Aside0 (Below w.heap.size w wr) := ⟨by rw [← hq_]; exact (by repeat (first | (with_reducible first | exact HB.out | apply pA | apply pN | apply p1 | refine pS ?_ GE164.out | refine pS ?_ GE176.out | refine pS ?_ GE177.out) | exact HB.out))⟩; clear BK164 BK176 BK177 HB hq_; have BK164 := n0_; have BK176 := n1_; have BK177 := n2_; have HB := n3_; clear n0_ n1_ n2_ n3_)); have hnb26 := NB177_164.out; have hnc26 := NB164_177.out; have hnb27 := NB177_176.out; have hnc27 := NB176_177.out; have hcz28_0 : wr.cell? ⟨gb177, 0, none⟩ = some (.int .i64 t165) := (blk_cell BK177.out 0).trans rfl; have hcz28_1 : wr.cell? ⟨gb177, 1, none⟩ = some (.bool t167) := (blk_cell BK177.out 1).trans rfl; have hcz28_2 : wr.cell? ⟨gb177, 2, none⟩ = some (.int .i64 (wrap64 ((wrap64 (4 * t170)) + t172))) := (blk_cell BK177.out 2).trans rfl; have hcz28_3 : wr.cell? ⟨gb177, 3, none⟩ = some (.int .u64 0) := (blk_cell BK177.out 3).trans rfl; have hfz28_0 := blk_frozen BK177.out 0; have hfz28_1 := blk_frozen BK177.out 1; have hfz28_2 := blk_frozen BK177.out 2; have hfz28_3 := blk_frozen BK177.out 3; have hnb29 := NB164_176.out; have hnc29 := NB176_164.out; have hcz30_0 : wr.cell? ⟨gb164, 0, none⟩ = some (.int .i64 0) := (blk_cell BK164.out 0).trans rfl; have hcz30_1 : wr.cell? ⟨gb164, 1, none⟩ = some (.bool false) := (blk_cell BK164.out 1).trans rfl; have hcz30_2 : wr.cell? ⟨gb164, 2, none⟩ = some (.int .i64 0) := (blk_cell BK164.out 2).trans rfl; have hcz30_3 : wr.cell? ⟨gb164, 3, none⟩ = some (.int .u64 0) := (blk_cell BK164.out 3).trans rfl; have hfz30_0 := blk_frozen BK164.out 0; have hfz30_1 := blk_frozen BK164.out 1; have hfz30_2 := blk_frozen BK164.out 2; have hfz30_3 := blk_frozen BK164.out 3))
                refine bodyPost_ret (results_ct rfl _ _ gb164 31 #[.int .i64 t165, .bool t167, .int .i64 (wrap64 ((wrap64 (4 * t170)) + t172)), .int .u64 t179] (0, 0) _ rfl (by (with_reducible repeat (first | refine bN ?_ _ | refine bD ?_ | refine bA ?_ _)); refine blk_put (cs := #[.int .i64 t165, .bool t167, .int .i64 (wrap64 ((wrap64 (4 * t170)) + t172)), .int .u64 0]) ?_ 3 _ rfl; (with_reducible repeat (first | refine bN ?_ _ | refine bD ?_ | refine bA ?_ _)); refine blk_put (cs := #[.int .i64 t165, .bool t167, .int .i64 0, .int .u64 0]) ?_ 2 _ rfl; (with_reducible repeat (first | refine bN ?_ _ | refine bD ?_ | refine bA ?_ _)); refine blk_put (cs := #[.int .i64 t165, .bool false, .int .i64 0, .int .u64 0]) ?_ 1 _ rfl; (with_reducible repeat (first | refine bN ?_ _ | refine bD ?_ | refine bA ?_ _)); refine blk_put (cs := #[.int .i64 0, .bool false, .int .i64 0, .int .u64 0]) ?_ 0 _ rfl; (with_reducible repeat (first | refine bN ?_ _ | refine bD ?_ | refine bA ?_ _)); refine blk_far ?_ NB164_177.out _; (with_reducible repeat (first | refine bN ?_ _ | refine bD ?_ | refine bA ?_ _)); exact BK164.out) Try.underlying31 rfl (by kernel_rfl)) rfl ?_
                exact ⟨by first | rfl | (simp [errW_none, errW_some] <;> rfl) | (simp [*, errW_none, errW_some] <;> rfl), by repeat (first | (with_reducible first | exact HB.out | apply pA | apply pN | apply p1 | refine pS ?_ GE164.out | refine pS ?_ GE176.out | refine pS ?_ GE177.out) | exact HB.out)⟩
        · rw [if_neg c12] at H
          exact absurd H (by simp)

/-! ### vernierref06_Decode: function 7 -/
def vernierref06_Decode.f (k : Nat) (a0 : Int) (a1 : Int) : Option (Int × Bool × Int × Int) := (vernierref06_Decodes.f k a0 a1).bind fun bt181 => (some (bt181.1, bt181.2.1, bt181.2.2.1, bt181.2.2.2.1))
theorem vernierref06_Decode.mono : ∀ a0 a1 k, LeO (vernierref06_Decode.f k a0 a1) (vernierref06_Decode.f (k + 1) a0 a1) := by
  intro a0 a1 k
  unfold vernierref06_Decode.f
  repeat' first
      | (with_reducible exact vernierref06_Decodes.mono _ _ _)
      | (with_reducible exact LeO.refl _)
      | (with_reducible exact LeO.none _)
      | (with_reducible refine LeO.ite ?_ ?_)
      | (with_reducible refine LeO.bind ?_ (fun _ => ?_))
      | exact vernierref06_Decodes.mono _ _ _
      | exact LeO.none _
      | refine LeO.ite ?_ ?_
      | refine LeO.bind ?_ (fun _ => ?_)
set_option maxHeartbeats 8000000 in
set_option maxRecDepth 100000 in
theorem vernierref06_Decode.calls (k : Nat) (a0 : Int) (a1 : Int) (r1 : Int) (r2 : Bool) (r3 : Int) (r4 : Int) (w : World) (h : vernierref06_Decode.f k a0 a1 = some (r1, r2, r3, r4)) :
    Calls Try.prog 7 #[.int .i64 a0, .int .u64 a1] w fun e w' => e = .returned (.agg #[.int .i64 r1, .bool r2, .int .i64 r3, .int .u64 r4]) ∧ Below w.heap.size w w' := by
  have hu31 := Try.underlying31
  have HB := Aside0.mk (Below.refl w.heap.size w)
  have H : ((vernierref06_Decodes.f k a0 a1).bind fun bt181 => (some (bt181.1, bt181.2.1, bt181.2.2.1, bt181.2.2.2.1))) = some (r1, r2, r3, r4) := h
  clear h
  replace H := Option.bind_eq_some_iff.mp H
  obtain ⟨⟨t181, t182, t183, t184, t185⟩, A30, H⟩ := H
  replace H : (some (t181, t182, t183, t184)) = some (r1, r2, r3, r4) := H
  have A3 := Aside0.mk A30
  clear A30
  simp only [Option.some.injEq, Prod.mk.injEq] at H
  obtain ⟨rfl, rfl, rfl, rfl⟩ := H
  go_enter Try.func7, Try.ntmps7
  go_wp2_with (first | ((with_reducible refine gD (N := 4) rfl ?_); refine bE3 4 #[.int .i64 0, .bool false, .int .i64 0, .int .u64 0] 31 ?hr ?_; (case hr => first | (go_simp; done) | (go_simp; rfl)); intro gb180 hg w4 hbox hb; have n0_ := Aside0.mk (bS3 HB.out hb); have n1_ := Aside0.mk (hbox); have n2_ := Aside0.mk ((bZ3 hg HB.out)); have n3_ := Aside0.mk ((bZ3 hg HB.out)); clear HB; have HB := n0_; have BK180 := n1_; have GW180 := n2_; have GE180 := n3_; clear n0_ n1_ n2_ n3_; clear hb hbox hg) | ((with_reducible refine gC (f := 13) rfl ?_); (with_reducible refine gD (N := 10) rfl ?_); refine goesY_ (some 10) Try.func13 #[.int .i64 a0, .int .u64 a1] ?_; (with_reducible refine (vernierref06_Decodes.calls k a0 a1 t181 t182 t183 t184 t185 _ A3.out).mono ?_); rintro e w5 ⟨rfl, hb⟩; refine ⟨_, rfl, ?_⟩; have n0_ := Aside0.mk (bB3 BK180.out hb); have n1_ := Aside0.mk (bS3 HB.out hb); clear BK180; clear HB; have BK180 := n0_; have HB := n1_; clear n0_ n1_; (try clear hb); (try clear hb2); (try clear hk); (try clear hi)) | ((with_reducible refine gD (N := 5) rfl ?_); refine bE3 5 #[.int .i64 0, .bool false, .int .i64 0, .int .u64 0] 31 ?hr ?_; (case hr => first | (go_simp; done) | (go_simp; rfl)); intro gb186 hg w6 hbox hb; have n0_ := Aside0.mk (bB3 BK180.out hb); have n1_ := Aside0.mk (bS3 HB.out hb); have n2_ := Aside0.mk (hbox); have n3_ := Aside0.mk ((bZ3 hg HB.out)); have n4_ := Aside0.mk ((bZ3 hg HB.out)); have n5_ := Aside0.mk ((bL3 hg BK180.out)); have n6_ := Aside0.mk ((bG3 hg BK180.out)); clear BK180; clear HB; have BK180 := n0_; have HB := n1_; have BK186 := n2_; have GW186 := n3_; have GE186 := n4_; have NB180_186 := n5_; have NB186_180 := n6_; clear n0_ n1_ n2_ n3_ n4_ n5_ n6_; clear hb hbox hg; have hnb7 := NB186_180.out; have hnc7 := NB180_186.out; have hcz8_0 : w6.cell? ⟨gb186, 0, none⟩ = some (.int .i64 0) := (blk_cell BK186.out 0).trans rfl; have hcz8_1 : w6.cell? ⟨gb186, 1, none⟩ = some (.bool false) := (blk_cell BK186.out 1).trans rfl; have hcz8_2 : w6.cell? ⟨gb186, 2, none⟩ = some (.int .i64 0) := (blk_cell BK186.out 2).trans rfl; have hcz8_3 : w6.cell? ⟨gb186, 3, none⟩ = some (.int .u64 0) := (blk_cell BK186.out 3).trans rfl; have hfz8_0 := blk_frozen BK186.out 0; have hfz8_1 := blk_frozen BK186.out 1; have hfz8_2 := blk_frozen BK186.out 2; have hfz8_3 := blk_frozen BK186.out 3; have hcz9_0 : w6.cell? ⟨gb180, 0, none⟩ = some (.int .i64 0) := (blk_cell BK180.out 0).trans rfl; have hcz9_1 : w6.cell? ⟨gb180, 1, none⟩ = some (.bool false) := (blk_cell BK180.out 1).trans rfl; have hcz9_2 : w6.cell? ⟨gb180, 2, none⟩ = some (.int .i64 0) := (blk_cell BK180.out 2).trans rfl; have hcz9_3 : w6.cell? ⟨gb180, 3, none⟩ = some (.int .u64 0) := (blk_cell BK180.out 3).trans rfl; have hfz9_0 := blk_frozen BK180.out 0; have hfz9_1 := blk_frozen BK180.out 1; have hfz9_2 := blk_frozen BK180.out 2; have hfz9_3 := blk_frozen BK180.out 3))
  refine bodyPost_ret (results_cell_row rfl _ _ gb180 31 #[.int .i64 t181, .bool t182, .int .i64 t183, .int .u64 t184] (0, 0) _ rfl (by (with_reducible repeat (first | refine bN ?_ _ | refine bD ?_ | refine bA ?_ _)); refine blk_put (cs := #[.int .i64 t181, .bool t182, .int .i64 t183, .int .u64 0]) ?_ 3 _ rfl; (with_reducible repeat (first | refine bN ?_ _ | refine bD ?_ | refine bA ?_ _)); refine blk_put (cs := #[.int .i64 t181, .bool t182, .int .i64 0, .int .u64 0]) ?_ 2 _ rfl; (with_reducible repeat (first | refine bN ?_ _ | refine bD ?_ | refine bA ?_ _)); refine blk_put (cs := #[.int .i64 t181, .bool false, .int .i64 0, .int .u64 0]) ?_ 1 _ rfl; (with_reducible repeat (first | refine bN ?_ _ | refine bD ?_ | refine bA ?_ _)); refine blk_put (cs := #[.int .i64 0, .bool false, .int .i64 0, .int .u64 0]) ?_ 0 _ rfl; (with_reducible repeat (first | refine bN ?_ _ | refine bD ?_ | refine bA ?_ _)); refine blk_far ?_ NB180_186.out _; (with_reducible repeat (first | refine bN ?_ _ | refine bD ?_ | refine bA ?_ _)); refine blk_far ?_ NB180_186.out _; (with_reducible repeat (first | refine bN ?_ _ | refine bD ?_ | refine bA ?_ _)); refine blk_far ?_ NB180_186.out _; (with_reducible repeat (first | refine bN ?_ _ | refine bD ?_ | refine bA ?_ _)); refine blk_far ?_ NB180_186.out _; (with_reducible repeat (first | refine bN ?_ _ | refine bD ?_ | refine bA ?_ _)); exact BK180.out) Try.underlying31 rfl (by kernel_rfl)) rfl ?_
  exact ⟨by first | rfl | (simp [errW_none, errW_some] <;> rfl) | (simp [*, errW_none, errW_some] <;> rfl), by repeat (first | (with_reducible first | exact HB.out | apply pA | apply pN | apply p1 | refine pS ?_ GE180.out | refine pS ?_ GE186.out) | exact HB.out)⟩

/-! ### vernierref06_Sound: function 15 -/
def vernierref06_Sound.f (a0_0 : Int) (a0_1 : Bool) (a0_2 : Int) (a0_3 : Int) : Option (Bool) := if a0_0 = 0 then (some (!a0_1 && (a0_2 == 0 && (a0_3 == 0)))) else (if a0_0 = 2 then (some (!a0_1 && (a0_2 == 0 && (a0_3 == 0)))) else (if a0_0 = 1 then (if a0_3 ≥ 9223372036854775808 then (if a0_2 ≥ (-1073741824) then (some (decide (a0_2 ≤ 1073741824))) else (some false)) else (some false)) else (some false)))
set_option maxHeartbeats 8000000 in
set_option maxRecDepth 100000 in
theorem vernierref06_Sound.calls (a0_0 : Int) (a0_1 : Bool) (a0_2 : Int) (a0_3 : Int) (r : Bool) (w : World) (h : vernierref06_Sound.f a0_0 a0_1 a0_2 a0_3 = some r) :
    Calls Try.prog 15 #[.agg #[.int .i64 a0_0, .bool a0_1, .int .i64 a0_2, .int .u64 a0_3]] w fun e w' => e = .returned (.bool r) ∧ Below w.heap.size w w' := by
  have hu31 := Try.underlying31
  have HB := Aside0.mk (Below.refl w.heap.size w)
  have H : (if a0_0 = 0 then (some (!a0_1 && (a0_2 == 0 && (a0_3 == 0)))) else (if a0_0 = 2 then (some (!a0_1 && (a0_2 == 0 && (a0_3 == 0)))) else (if a0_0 = 1 then (if a0_3 ≥ 9223372036854775808 then (if a0_2 ≥ (-1073741824) then (some (decide (a0_2 ≤ 1073741824))) else (some false)) else (some false)) else (some false)))) = some r := h
  clear h
  by_cases c2 : a0_0 = 0
  · rw [if_pos c2] at H
    have c2b0 : (a0_0 == 0) = true := beq_iff_eq.mpr c2
    have c2b1 : (a0_0 != 0) = false := bne_eq_false_iff_eq.mpr c2
    clear c2
    obtain rfl := Option.some.inj H
    go_enter Try.func15, Try.ntmps15
    go_wp2_with (first | ((with_reducible refine gD (N := 1) rfl ?_); refine bE3 1 #[.int .i64 a0_0, .bool a0_1, .int .i64 a0_2, .int .u64 a0_3] 31 ?hr ?_; (case hr => first | (go_simp; done) | (go_simp; rfl)); intro gb187 hg w3 hbox hb; have n0_ := Aside0.mk (bS3 HB.out hb); have n1_ := Aside0.mk (hbox); have n2_ := Aside0.mk ((bZ3 hg HB.out)); have n3_ := Aside0.mk ((bZ3 hg HB.out)); clear HB; have HB := n0_; have BK187 := n1_; have GW187 := n2_; have GE187 := n3_; clear n0_ n1_ n2_ n3_; clear hb hbox hg; have hcz4_0 : w3.cell? ⟨gb187, 0, none⟩ = some (.int .i64 a0_0) := (blk_cell BK187.out 0).trans rfl; have hcz4_1 : w3.cell? ⟨gb187, 1, none⟩ = some (.bool a0_1) := (blk_cell BK187.out 1).trans rfl; have hcz4_2 : w3.cell? ⟨gb187, 2, none⟩ = some (.int .i64 a0_2) := (blk_cell BK187.out 2).trans rfl; have hcz4_3 : w3.cell? ⟨gb187, 3, none⟩ = some (.int .u64 a0_3) := (blk_cell BK187.out 3).trans rfl; have hfz4_0 := blk_frozen BK187.out 0; have hfz4_1 := blk_frozen BK187.out 1; have hfz4_2 := blk_frozen BK187.out 2; have hfz4_3 := blk_frozen BK187.out 3))
    go_ret
    exact ⟨by first | rfl | (simp [errW_none, errW_some] <;> rfl) | (simp [*, errW_none, errW_some] <;> rfl), by repeat (first | (with_reducible first | exact HB.out | apply pA | apply pN | apply p1 | refine pS ?_ GE187.out) | exact HB.out)⟩
  · rw [if_neg c2] at H
    have c2b0 : (a0_0 == 0) = false := beq_eq_false_iff_ne.mpr c2
    have c2b1 : (a0_0 != 0) = true := bne_iff_ne.mpr c2
    by_cases c5 : a0_0 = 2
    · rw [if_pos c5] at H
      have c5b0 : (a0_0 == 2) = true := beq_iff_eq.mpr c5
      have c5b1 : (a0_0 != 2) = false := bne_eq_false_iff_eq.mpr c5
      clear c5
      obtain rfl := Option.some.inj H
      go_enter Try.func15, Try.ntmps15
      go_wp2_with (first | ((with_reducible refine gD (N := 1) rfl ?_); refine bE3 1 #[.int .i64 a0_0, .bool a0_1, .int .i64 a0_2, .int .u64 a0_3] 31 ?hr ?_; (case hr => first | (go_simp; done) | (go_simp; rfl)); intro gb187 hg w6 hbox hb; have n0_ := Aside0.mk (bS3 HB.out hb); have n1_ := Aside0.mk (hbox); have n2_ := Aside0.mk ((bZ3 hg HB.out)); have n3_ := Aside0.mk ((bZ3 hg HB.out)); clear HB; have HB := n0_; have BK187 := n1_; have GW187 := n2_; have GE187 := n3_; clear n0_ n1_ n2_ n3_; clear hb hbox hg; have hcz7_0 : w6.cell? ⟨gb187, 0, none⟩ = some (.int .i64 a0_0) := (blk_cell BK187.out 0).trans rfl; have hcz7_1 : w6.cell? ⟨gb187, 1, none⟩ = some (.bool a0_1) := (blk_cell BK187.out 1).trans rfl; have hcz7_2 : w6.cell? ⟨gb187, 2, none⟩ = some (.int .i64 a0_2) := (blk_cell BK187.out 2).trans rfl; have hcz7_3 : w6.cell? ⟨gb187, 3, none⟩ = some (.int .u64 a0_3) := (blk_cell BK187.out 3).trans rfl; have hfz7_0 := blk_frozen BK187.out 0; have hfz7_1 := blk_frozen BK187.out 1; have hfz7_2 := blk_frozen BK187.out 2; have hfz7_3 := blk_frozen BK187.out 3))
      go_ret
      exact ⟨by first | rfl | (simp [errW_none, errW_some] <;> rfl) | (simp [*, errW_none, errW_some] <;> rfl), by repeat (first | (with_reducible first | exact HB.out | apply pA | apply pN | apply p1 | refine pS ?_ GE187.out) | exact HB.out)⟩
    · rw [if_neg c5] at H
      have c5b0 : (a0_0 == 2) = false := beq_eq_false_iff_ne.mpr c5
      have c5b1 : (a0_0 != 2) = true := bne_iff_ne.mpr c5
      by_cases c8 : a0_0 = 1
      · rw [if_pos c8] at H
        have c8b0 : (a0_0 == 1) = true := beq_iff_eq.mpr c8
        have c8b1 : (a0_0 != 1) = false := bne_eq_false_iff_eq.mpr c8
        clear c8
        by_cases c9 : a0_3 ≥ 9223372036854775808
        · rw [if_pos c9] at H
          have c9b0 : decide (9223372036854775808 ≤ a0_3) = true := decide_eq_true c9
          clear c9
          by_cases c10 : a0_2 ≥ (-1073741824)
          · rw [if_pos c10] at H
            have c10b0 : decide ((-1073741824) ≤ a0_2) = true := decide_eq_true c10
            clear c10
            obtain rfl := Option.some.inj H
            go_enter Try.func15, Try.ntmps15
            go_wp2_with (first | ((with_reducible refine gD (N := 1) rfl ?_); refine bE3 1 #[.int .i64 a0_0, .bool a0_1, .int .i64 a0_2, .int .u64 a0_3] 31 ?hr ?_; (case hr => first | (go_simp; done) | (go_simp; rfl)); intro gb187 hg w11 hbox hb; have n0_ := Aside0.mk (bS3 HB.out hb); have n1_ := Aside0.mk (hbox); have n2_ := Aside0.mk ((bZ3 hg HB.out)); have n3_ := Aside0.mk ((bZ3 hg HB.out)); clear HB; have HB := n0_; have BK187 := n1_; have GW187 := n2_; have GE187 := n3_; clear n0_ n1_ n2_ n3_; clear hb hbox hg; have hcz12_0 : w11.cell? ⟨gb187, 0, none⟩ = some (.int .i64 a0_0) := (blk_cell BK187.out 0).trans rfl; have hcz12_1 : w11.cell? ⟨gb187, 1, none⟩ = some (.bool a0_1) := (blk_cell BK187.out 1).trans rfl; have hcz12_2 : w11.cell? ⟨gb187, 2, none⟩ = some (.int .i64 a0_2) := (blk_cell BK187.out 2).trans rfl; have hcz12_3 : w11.cell? ⟨gb187, 3, none⟩ = some (.int .u64 a0_3) := (blk_cell BK187.out 3).trans rfl; have hfz12_0 := blk_frozen BK187.out 0; have hfz12_1 := blk_frozen BK187.out 1; have hfz12_2 := blk_frozen BK187.out 2; have hfz12_3 := blk_frozen BK187.out 3))
            go_ret
            exact ⟨by first | rfl | (simp [errW_none, errW_some] <;> rfl) | (simp [*, errW_none, errW_some] <;> rfl), by repeat (first | (with_reducible first | exact HB.out | apply pA | apply pN | apply p1 | refine pS ?_ GE187.out) | exact HB.out)⟩
          · rw [if_neg c10] at H
            have c10b0 : decide ((-1073741824) ≤ a0_2) = false := decide_eq_false c10
            clear c10
            obtain rfl := Option.some.inj H
            go_enter Try.func15, Try.ntmps15
            go_wp2_with (first | ((with_reducible refine gD (N := 1) rfl ?_); refine bE3 1 #[.int .i64 a0_0, .bool a0_1, .int .i64 a0_2, .int .u64 a0_3] 31 ?hr ?_; (case hr => first | (go_simp; done) | (go_simp; rfl)); intro gb187 hg w13 hbox hb; have n0_ := Aside0.mk (bS3 HB.out hb); have n1_ := Aside0.mk (hbox); have n2_ := Aside0.mk ((bZ3 hg HB.out)); have n3_ := Aside0.mk ((bZ3 hg HB.out)); clear HB; have HB := n0_; have BK187 := n1_; have GW187 := n2_; have GE187 := n3_; clear n0_ n1_ n2_ n3_; clear hb hbox hg; have hcz14_0 : w13.cell? ⟨gb187, 0, none⟩ = some (.int .i64 a0_0) := (blk_cell BK187.out 0).trans rfl; have hcz14_1 : w13.cell? ⟨gb187, 1, none⟩ = some (.bool a0_1) := (blk_cell BK187.out 1).trans rfl; have hcz14_2 : w13.cell? ⟨gb187, 2, none⟩ = some (.int .i64 a0_2) := (blk_cell BK187.out 2).trans rfl; have hcz14_3 : w13.cell? ⟨gb187, 3, none⟩ = some (.int .u64 a0_3) := (blk_cell BK187.out 3).trans rfl; have hfz14_0 := blk_frozen BK187.out 0; have hfz14_1 := blk_frozen BK187.out 1; have hfz14_2 := blk_frozen BK187.out 2; have hfz14_3 := blk_frozen BK187.out 3))
            go_ret
            exact ⟨by first | rfl | (simp [errW_none, errW_some] <;> rfl) | (simp [*, errW_none, errW_some] <;> rfl), by repeat (first | (with_reducible first | exact HB.out | apply pA | apply pN | apply p1 | refine pS ?_ GE187.out) | exact HB.out)⟩
        · rw [if_neg c9] at H
          have c9b0 : decide (9223372036854775808 ≤ a0_3) = false := decide_eq_false c9
          clear c9
          obtain rfl := Option.some.inj H
          go_enter Try.func15, Try.ntmps15
          go_wp2_with (first | ((with_reducible refine gD (N := 1) rfl ?_); refine bE3 1 #[.int .i64 a0_0, .bool a0_1, .int .i64 a0_2, .int .u64 a0_3] 31 ?hr ?_; (case hr => first | (go_simp; done) | (go_simp; rfl)); intro gb187 hg w15 hbox hb; have n0_ := Aside0.mk (bS3 HB.out hb); have n1_ := Aside0.mk (hbox); have n2_ := Aside0.mk ((bZ3 hg HB.out)); have n3_ := Aside0.mk ((bZ3 hg HB.out)); clear HB; have HB := n0_; have BK187 := n1_; have GW187 := n2_; have GE187 := n3_; clear n0_ n1_ n2_ n3_; clear hb hbox hg; have hcz16_0 : w15.cell? ⟨gb187, 0, none⟩ = some (.int .i64 a0_0) := (blk_cell BK187.out 0).trans rfl; have hcz16_1 : w15.cell? ⟨gb187, 1, none⟩ = some (.bool a0_1) := (blk_cell BK187.out 1).trans rfl; have hcz16_2 : w15.cell? ⟨gb187, 2, none⟩ = some (.int .i64 a0_2) := (blk_cell BK187.out 2).trans rfl; have hcz16_3 : w15.cell? ⟨gb187, 3, none⟩ = some (.int .u64 a0_3) := (blk_cell BK187.out 3).trans rfl; have hfz16_0 := blk_frozen BK187.out 0; have hfz16_1 := blk_frozen BK187.out 1; have hfz16_2 := blk_frozen BK187.out 2; have hfz16_3 := blk_frozen BK187.out 3))
          go_ret
          exact ⟨by first | rfl | (simp [errW_none, errW_some] <;> rfl) | (simp [*, errW_none, errW_some] <;> rfl), by repeat (first | (with_reducible first | exact HB.out | apply pA | apply pN | apply p1 | refine pS ?_ GE187.out) | exact HB.out)⟩
      · rw [if_neg c8] at H
        have c8b0 : (a0_0 == 1) = false := beq_eq_false_iff_ne.mpr c8
        have c8b1 : (a0_0 != 1) = true := bne_iff_ne.mpr c8
        obtain rfl := Option.some.inj H
        go_enter Try.func15, Try.ntmps15
        go_wp2_with (first | ((with_reducible refine gD (N := 1) rfl ?_); refine bE3 1 #[.int .i64 a0_0, .bool a0_1, .int .i64 a0_2, .int .u64 a0_3] 31 ?hr ?_; (case hr => first | (go_simp; done) | (go_simp; rfl)); intro gb187 hg w17 hbox hb; have n0_ := Aside0.mk (bS3 HB.out hb); have n1_ := Aside0.mk (hbox); have n2_ := Aside0.mk ((bZ3 hg HB.out)); have n3_ := Aside0.mk ((bZ3 hg HB.out)); clear HB; have HB := n0_; have BK187 := n1_; have GW187 := n2_; have GE187 := n3_; clear n0_ n1_ n2_ n3_; clear hb hbox hg; have hcz18_0 : w17.cell? ⟨gb187, 0, none⟩ = some (.int .i64 a0_0) := (blk_cell BK187.out 0).trans rfl; have hcz18_1 : w17.cell? ⟨gb187, 1, none⟩ = some (.bool a0_1) := (blk_cell BK187.out 1).trans rfl; have hcz18_2 : w17.cell? ⟨gb187, 2, none⟩ = some (.int .i64 a0_2) := (blk_cell BK187.out 2).trans rfl; have hcz18_3 : w17.cell? ⟨gb187, 3, none⟩ = some (.int .u64 a0_3) := (blk_cell BK187.out 3).trans rfl; have hfz18_0 := blk_frozen BK187.out 0; have hfz18_1 := blk_frozen BK187.out 1; have hfz18_2 := blk_frozen BK187.out 2; have hfz18_3 := blk_frozen BK187.out 3))
        go_ret
        exact ⟨by first | rfl | (simp [errW_none, errW_some] <;> rfl) | (simp [*, errW_none, errW_some] <;> rfl), by repeat (first | (with_reducible first | exact HB.out | apply pA | apply pN | apply p1 | refine pS ?_ GE187.out) | exact HB.out)⟩

end Go.Proofs.Ytcokamomcnmocaa.F
