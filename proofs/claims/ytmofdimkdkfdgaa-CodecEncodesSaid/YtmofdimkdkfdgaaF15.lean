/- Functions of the given program as plain Lean functions, and for each a proof that the program's call comes to just these answers; no further conditions. (Written by a program of this repo out of the translation.) -/
import Derived.Test.YtmofdimkdkfdgaaF0
import Derived.Test.YtmofdimkdkfdgaaF11
namespace Go.Proofs.Ytmofdimkdkfdgaa.F
open Go.RowKit Go.Proofs.YtmofdimkdkfdgaaW.PrintWords Go.Proofs.YtmofdimkdkfdgaaW.PrintLast Go.Proofs.YtmofdimkdkfdgaaW.PrintMore
attribute [local go_sem high] xor_u64 xor_u32 eqErr27 neErr27 eqErrL27 neErrL27
attribute [local go_sem] max2_int min2_int max_two min_two max_three min_three max_four min_four   -- for this text's walks alone
set_option linter.unusedVariables false
set_option linter.unusedSimpArgs false

/-! ### vernierref06_written: function 35 -/
mutual
def vernierref06_written.j0 : Nat → List Int → Int → Bool → Bool → Int → Int → Int → Int → Int → Int → Option (ByteArray)
  | 0, _, _, _, _, _, _, _, _, _, _ => none
  | k + 1, x3, x4, x264000, x264001, x264002, x264003, x264004, x264005, x264006, x264007 => vernierref06_written.l0 k x3 x4 0 x264000 x264001 x264002 x264003 x264004 x264005 x264006 x264007
def vernierref06_written.j2 : Nat → List Int → Int → Bool → Bool → Int → Int → Int → Int → Int → Int → Option (ByteArray)
  | 0, _, _, _, _, _, _, _, _, _, _ => none
  | k + 1, x3, x4, x264000, x264001, x264002, x264003, x264004, x264005, x264006, x264007 => if x3.length < 140737488355328 then ((some (x3 ++ [(97 - x4) % 256] : List Int)).bind fun y267 => (if x264004 ≥ 0 then (if x264004 ≤ 2 then (if x264005 ≥ 0 then (vernierref06_written.j3 k (strOfNums y267) (decide (x264005 ≤ 3)) x264000 x264001 x264002 x264003 x264004 x264005 x264006 x264007) else (vernierref06_written.j3 k (strOfNums y267) false x264000 x264001 x264002 x264003 x264004 x264005 x264006 x264007)) else (vernierref06_written.j3 k (strOfNums y267) false x264000 x264001 x264002 x264003 x264004 x264005 x264006 x264007)) else (vernierref06_written.j3 k (strOfNums y267) false x264000 x264001 x264002 x264003 x264004 x264005 x264006 x264007))) else (none)
def vernierref06_written.j3 : Nat → ByteArray → Bool → Bool → Bool → Int → Int → Int → Int → Int → Int → Option (ByteArray)
  | 0, _, _, _, _, _, _, _, _, _, _ => none
  | k + 1, x6, x47, x264000, x264001, x264002, x264003, x264004, x264005, x264006, x264007 => if x47 = true then ((vernierref01_Text.f k (IntKind.u64.wrap (x264005)) 2).bind fun t270 => (if 0 ≤ x264004 then (if x264004 ≤ (t270.size : Int) then (if x6.size + (t270.extract 0 (x264004 : Int).toNat).size ≤ 9223372036854775807 then (if x264006 ≥ 0 then (if x264006 ≤ 64 then ((vernierref01_Text.f k x264007 x264006).bind fun t271 => (if (x6 ++ (t270.extract 0 (x264004 : Int).toNat)).size + t271.size ≤ 9223372036854775807 then (some ((x6 ++ (t270.extract 0 (x264004 : Int).toNat)) ++ t271)) else (none))) else (some (x6 ++ (t270.extract 0 (x264004 : Int).toNat)))) else (some (x6 ++ (t270.extract 0 (x264004 : Int).toNat)))) else (none)) else (none)) else (none))) else (if x264006 ≥ 0 then (if x264006 ≤ 64 then ((vernierref01_Text.f k x264007 x264006).bind fun t272 => (if x6.size + t272.size ≤ 9223372036854775807 then (some (x6 ++ t272)) else (none))) else (some x6)) else (some x6))
def vernierref06_written.l0 : Nat → List Int → Int → Int → Bool → Bool → Int → Int → Int → Int → Int → Int → Option (ByteArray)
  | 0, _, _, _, _, _, _, _, _, _, _, _ => none
  | k + 1, x3, x4, x5, x264000, x264001, x264002, x264003, x264004, x264005, x264006, x264007 => if x5 < x264002 then (if x5 < 63 then (if x3.length < 140737488355328 then (vernierref06_written.l0 k (x3 ++ [x4]) x4 (wrap64 (x5 + 1)) x264000 x264001 x264002 x264003 x264004 x264005 x264006 x264007) else (none)) else (vernierref06_written.j2 k x3 x4 x264000 x264001 x264002 x264003 x264004 x264005 x264006 x264007)) else (vernierref06_written.j2 k x3 x4 x264000 x264001 x264002 x264003 x264004 x264005 x264006 x264007)
end
def vernierref06_written.f (k : Nat) (a0_0 : Bool) (a0_1 : Bool) (a0_2 : Int) (a0_3 : Int) (a0_4 : Int) (a0_5 : Int) (a0_6 : Int) (a0_7 : Int) : Option (ByteArray) := if a0_1 = true then (vernierref06_written.j0 k ([] : List Int) 49 a0_0 a0_1 a0_2 a0_3 a0_4 a0_5 a0_6 a0_7) else (vernierref06_written.j0 k ([] : List Int) 48 a0_0 a0_1 a0_2 a0_3 a0_4 a0_5 a0_6 a0_7)
theorem vernierref06_written.mono_l : ∀ k, (∀ y0 y1 y2 y3 y4 y5 y6 y7 y8 y9, LeO (vernierref06_written.j0 k y0 y1 y2 y3 y4 y5 y6 y7 y8 y9) (vernierref06_written.j0 (k + 1) y0 y1 y2 y3 y4 y5 y6 y7 y8 y9)) ∧ (∀ y0 y1 y2 y3 y4 y5 y6 y7 y8 y9, LeO (vernierref06_written.j2 k y0 y1 y2 y3 y4 y5 y6 y7 y8 y9) (vernierref06_written.j2 (k + 1) y0 y1 y2 y3 y4 y5 y6 y7 y8 y9)) ∧ (∀ y0 y1 y2 y3 y4 y5 y6 y7 y8 y9, LeO (vernierref06_written.j3 k y0 y1 y2 y3 y4 y5 y6 y7 y8 y9) (vernierref06_written.j3 (k + 1) y0 y1 y2 y3 y4 y5 y6 y7 y8 y9)) ∧ (∀ y0 y1 y2 y3 y4 y5 y6 y7 y8 y9 y10, LeO (vernierref06_written.l0 k y0 y1 y2 y3 y4 y5 y6 y7 y8 y9 y10) (vernierref06_written.l0 (k + 1) y0 y1 y2 y3 y4 y5 y6 y7 y8 y9 y10))
  | 0 => ⟨fun _ _ _ _ _ _ _ _ _ _ r h => by simp [vernierref06_written.j0] at h, fun _ _ _ _ _ _ _ _ _ _ r h => by simp [vernierref06_written.j2] at h, fun _ _ _ _ _ _ _ _ _ _ r h => by simp [vernierref06_written.j3] at h, fun _ _ _ _ _ _ _ _ _ _ _ r h => by simp [vernierref06_written.l0] at h⟩
  | k + 1 => by
    obtain ⟨ih0, ih1, ih2, ih3⟩ := vernierref06_written.mono_l k
    refine ⟨?_, ?_, ?_, ?_⟩
    · intro y0 y1 y2 y3 y4 y5 y6 y7 y8 y9
      unfold vernierref06_written.j0
      repeat' first
      | (with_reducible exact ih0 _ _ _ _ _ _ _ _ _ _)
      | (with_reducible exact ih1 _ _ _ _ _ _ _ _ _ _)
      | (with_reducible exact ih2 _ _ _ _ _ _ _ _ _ _)
      | (with_reducible exact ih3 _ _ _ _ _ _ _ _ _ _ _)
      | (with_reducible exact vernierref01_Text.mono _ _ _)
      | (with_reducible exact LeO.refl _)
      | (with_reducible exact LeO.none _)
      | (with_reducible refine LeO.ite ?_ ?_)
      | (with_reducible refine LeO.bind ?_ (fun _ => ?_))
      | exact ih0 _ _ _ _ _ _ _ _ _ _
      | exact ih1 _ _ _ _ _ _ _ _ _ _
      | exact ih2 _ _ _ _ _ _ _ _ _ _
      | exact ih3 _ _ _ _ _ _ _ _ _ _ _
      | exact vernierref01_Text.mono _ _ _
      | exact LeO.none _
      | refine LeO.ite ?_ ?_
      | refine LeO.bind ?_ (fun _ => ?_)
    · intro y0 y1 y2 y3 y4 y5 y6 y7 y8 y9
      unfold vernierref06_written.j2
      repeat' first
      | (with_reducible exact ih0 _ _ _ _ _ _ _ _ _ _)
      | (with_reducible exact ih1 _ _ _ _ _ _ _ _ _ _)
      | (with_reducible exact ih2 _ _ _ _ _ _ _ _ _ _)
      | (with_reducible exact ih3 _ _ _ _ _ _ _ _ _ _ _)
      | (with_reducible exact vernierref01_Text.mono _ _ _)
      | (with_reducible exact LeO.refl _)
      | (with_reducible exact LeO.none _)
      | (with_reducible refine LeO.ite ?_ ?_)
      | (with_reducible refine LeO.bind ?_ (fun _ => ?_))
      | exact ih0 _ _ _ _ _ _ _ _ _ _
      | exact ih1 _ _ _ _ _ _ _ _ _ _
      | exact ih2 _ _ _ _ _ _ _ _ _ _
      | exact ih3 _ _ _ _ _ _ _ _ _ _ _
      | exact vernierref01_Text.mono _ _ _
      | exact LeO.none _
      | refine LeO.ite ?_ ?_
      | refine LeO.bind ?_ (fun _ => ?_)
    · intro y0 y1 y2 y3 y4 y5 y6 y7 y8 y9
      unfold vernierref06_written.j3
      repeat' first
      | (with_reducible exact ih0 _ _ _ _ _ _ _ _ _ _)
      | (with_reducible exact ih1 _ _ _ _ _ _ _ _ _ _)
      | (with_reducible exact ih2 _ _ _ _ _ _ _ _ _ _)
      | (with_reducible exact ih3 _ _ _ _ _ _ _ _ _ _ _)
      | (with_reducible exact vernierref01_Text.mono _ _ _)
      | (with_reducible exact LeO.refl _)
      | (with_reducible exact LeO.none _)
      | (with_reducible refine LeO.ite ?_ ?_)
      | (with_reducible refine LeO.bind ?_ (fun _ => ?_))
      | exact ih0 _ _ _ _ _ _ _ _ _ _
      | exact ih1 _ _ _ _ _ _ _ _ _ _
      | exact ih2 _ _ _ _ _ _ _ _ _ _
      | exact ih3 _ _ _ _ _ _ _ _ _ _ _
      | exact vernierref01_Text.mono _ _ _
      | exact LeO.none _
      | refine LeO.ite ?_ ?_
      | refine LeO.bind ?_ (fun _ => ?_)
    · intro y0 y1 y2 y3 y4 y5 y6 y7 y8 y9 y10
      unfold vernierref06_written.l0
      repeat' first
      | (with_reducible exact ih0 _ _ _ _ _ _ _ _ _ _)
      | (with_reducible exact ih1 _ _ _ _ _ _ _ _ _ _)
      | (with_reducible exact ih2 _ _ _ _ _ _ _ _ _ _)
      | (with_reducible exact ih3 _ _ _ _ _ _ _ _ _ _ _)
      | (with_reducible exact vernierref01_Text.mono _ _ _)
      | (with_reducible exact LeO.refl _)
      | (with_reducible exact LeO.none _)
      | (with_reducible refine LeO.ite ?_ ?_)
      | (with_reducible refine LeO.bind ?_ (fun _ => ?_))
      | exact ih0 _ _ _ _ _ _ _ _ _ _
      | exact ih1 _ _ _ _ _ _ _ _ _ _
      | exact ih2 _ _ _ _ _ _ _ _ _ _
      | exact ih3 _ _ _ _ _ _ _ _ _ _ _
      | exact vernierref01_Text.mono _ _ _
      | exact LeO.none _
      | refine LeO.ite ?_ ?_
      | refine LeO.bind ?_ (fun _ => ?_)
theorem vernierref06_written.mono : ∀ a0 a1 a2 a3 a4 a5 a6 a7 k, LeO (vernierref06_written.f k a0 a1 a2 a3 a4 a5 a6 a7) (vernierref06_written.f (k + 1) a0 a1 a2 a3 a4 a5 a6 a7) := by
  intro a0 a1 a2 a3 a4 a5 a6 a7 k
  obtain ⟨ih0, ih1, ih2, ih3⟩ := vernierref06_written.mono_l k
  unfold vernierref06_written.f
  repeat' first
      | (with_reducible exact ih0 _ _ _ _ _ _ _ _ _ _)
      | (with_reducible exact ih1 _ _ _ _ _ _ _ _ _ _)
      | (with_reducible exact ih2 _ _ _ _ _ _ _ _ _ _)
      | (with_reducible exact ih3 _ _ _ _ _ _ _ _ _ _ _)
      | (with_reducible exact vernierref01_Text.mono _ _ _)
      | (with_reducible exact LeO.refl _)
      | (with_reducible exact LeO.none _)
      | (with_reducible refine LeO.ite ?_ ?_)
      | (with_reducible refine LeO.bind ?_ (fun _ => ?_))
      | exact ih0 _ _ _ _ _ _ _ _ _ _
      | exact ih1 _ _ _ _ _ _ _ _ _ _
      | exact ih2 _ _ _ _ _ _ _ _ _ _
      | exact ih3 _ _ _ _ _ _ _ _ _ _ _
      | exact vernierref01_Text.mono _ _ _
      | exact LeO.none _
      | refine LeO.ite ?_ ?_
      | refine LeO.bind ?_ (fun _ => ?_)
def vernierref06_written.T12 : Bool × List (List Nat × List Nat) := (true, [([], []), ([], []), ([1], [1]), ([2], [2]), ([3], [3]), ([], []), ([5], [5]), ([4, 6], [4, 6]), ([0, 7], [0, 7]), ([8, 4, 0, 1, 2, 3, 4, 5, 6, 7, 8], [0, 8])])
def vernierref06_written.B12 : List Nat := [0, 0, 2, 6, 14, 0, 32, 126, 255, 511]
theorem vernierref06_written.tab12 : rtab .any (opsOf Try.f35 12) = vernierref06_written.T12 := by kernel_rfl
theorem vernierref06_written.bits12 : waitsOk vernierref06_written.T12.2 vernierref06_written.B12 = true := by kernel_rfl
set_option maxHeartbeats 8000000 in
set_option maxRecDepth 100000 in
theorem vernierref06_written.calls (k : Nat) (a0_0 : Bool) (a0_1 : Bool) (a0_2 : Int) (a0_3 : Int) (a0_4 : Int) (a0_5 : Int) (a0_6 : Int) (a0_7 : Int) (r : ByteArray) (w : World) (h : vernierref06_written.f k a0_0 a0_1 a0_2 a0_3 a0_4 a0_5 a0_6 a0_7 = some r) :
    Calls Try.prog 35 #[.agg #[.bool a0_0, .bool a0_1, .int .i64 a0_2, .int .i64 a0_3, .int .i64 a0_4, .int .i64 a0_5, .int .i64 a0_6, .int .u64 a0_7]] w fun e w' => e = .returned (.string r) ∧ Below w.heap.size w w' := by
  have hu25 := Try.underlying25
  have HB := Aside0.mk (Below.refl w.heap.size w)
  have H : (if a0_1 = true then (vernierref06_written.j0 k ([] : List Int) 49 a0_0 a0_1 a0_2 a0_3 a0_4 a0_5 a0_6 a0_7) else (vernierref06_written.j0 k ([] : List Int) 48 a0_0 a0_1 a0_2 a0_3 a0_4 a0_5 a0_6 a0_7)) = some r := h
  clear h
  have HC2 := Aside0.mk H
  clear H
  go_enter Try.func35, Try.ntmps35
  go_upto_if 8 with (first | ((with_reducible refine gD (N := 1) rfl ?_); refine bE3 1 #[.bool a0_0, .bool a0_1, .int .i64 a0_2, .int .i64 a0_3, .int .i64 a0_4, .int .i64 a0_5, .int .i64 a0_6, .int .u64 a0_7] 25 ?hr ?_; (case hr => first | (go_simp; done) | (go_simp; rfl)); intro gb263 hg w3 hbox hb; have n0_ := Aside0.mk (bS3 HB.out hb); have n1_ := Aside0.mk (hbox); have n2_ := Aside0.mk ((bZ3 hg HB.out)); have n3_ := Aside0.mk ((bZ3 hg HB.out)); clear HB; have HB := n0_; have BK263 := n1_; have GW263 := n2_; have GE263 := n3_; clear n0_ n1_ n2_ n3_; clear hb hbox hg; have hcz4_0 : w3.cell? ⟨gb263, 0, none⟩ = some (.bool a0_0) := (blk_cell BK263.out 0).trans rfl; have hcz4_1 : w3.cell? ⟨gb263, 1, none⟩ = some (.bool a0_1) := (blk_cell BK263.out 1).trans rfl; have hcz4_2 : w3.cell? ⟨gb263, 2, none⟩ = some (.int .i64 a0_2) := (blk_cell BK263.out 2).trans rfl; have hcz4_3 : w3.cell? ⟨gb263, 3, none⟩ = some (.int .i64 a0_3) := (blk_cell BK263.out 3).trans rfl; have hcz4_4 : w3.cell? ⟨gb263, 4, none⟩ = some (.int .i64 a0_4) := (blk_cell BK263.out 4).trans rfl; have hcz4_5 : w3.cell? ⟨gb263, 5, none⟩ = some (.int .i64 a0_5) := (blk_cell BK263.out 5).trans rfl; have hcz4_6 : w3.cell? ⟨gb263, 6, none⟩ = some (.int .i64 a0_6) := (blk_cell BK263.out 6).trans rfl; have hcz4_7 : w3.cell? ⟨gb263, 7, none⟩ = some (.int .u64 a0_7) := (blk_cell BK263.out 7).trans rfl; have hfz4_0 := blk_frozen BK263.out 0; have hfz4_1 := blk_frozen BK263.out 1; have hfz4_2 := blk_frozen BK263.out 2; have hfz4_3 := blk_frozen BK263.out 3; have hfz4_4 := blk_frozen BK263.out 4; have hfz4_5 := blk_frozen BK263.out 5; have hfz4_6 := blk_frozen BK263.out 6; have hfz4_7 := blk_frozen BK263.out 7))
  (try simp only [Act.put, List.setIfInBounds_toArray, List.set_cons_zero, List.set_cons_succ])
  go_cut [4] (fun v4 wc => ∃ (kq : Nat) (x4_1 : Int), v4 = .int .u8 x4_1 ∧ Aside0 (vernierref06_written.j0 kq ([] : List Int) x4_1 a0_0 a0_1 a0_2 a0_3 a0_4 a0_5 a0_6 a0_7 = some r) ∧ Aside0 (kq ≤ k) ∧ Aside0 (Kd.R (Kd.int .u8) 5 wc w.heap.size (fun _ => True) (.slice none 0 0) ([] : List Int)) ∧ Aside0 (wc.heap[gb263]? = some (.cells #[.bool a0_0, .bool a0_1, .int .i64 a0_2, .int .i64 a0_3, .int .i64 a0_4, .int .i64 a0_5, .int .i64 a0_6, .int .u64 a0_7] 25 (0, 0))) ∧ Aside0 (Below w.heap.size w wc))
  case first =>
    have H := HC2.out
    clear HC2
    by_cases c5 : a0_1 = true
    · subst c5
      have H1 : (vernierref06_written.j0 k ([] : List Int) 49 a0_0 true a0_2 a0_3 a0_4 a0_5 a0_6 a0_7) = some r := by rw [if_pos rfl] at H; exact H
      clear H
      have H := H1
      clear H1
      have H' := Aside0.mk H
      clear H
      go_wp2
      go_meet
      case rel => exact ⟨_, (49), (by first | rfl | (simp; done) | (simp [*]; done)), H', ⟨by first | omega | exact Nat.le_refl _⟩, ⟨by first | exact Kd.R_nil _ _ _ _ _ | exact Kd.N_nil _ _ _ _ _ | exact Kd.V_nil _ _ _ _ _ | exact Kd.Q_nil _ _ _ _ _ | exact Kd.S_nil _ _ _ _ _⟩, ⟨by (with_reducible repeat (first | refine bN ?_ _ | refine bD ?_ | refine bA ?_ _)); exact BK263.out⟩, ⟨by repeat (first | (with_reducible first | exact HB.out | apply pA | apply pN | apply p1 | refine pS ?_ GE263.out) | exact HB.out)⟩⟩
    · replace c5 := Bool.eq_false_iff.mpr c5
      subst c5
      have H1 : (vernierref06_written.j0 k ([] : List Int) 48 a0_0 false a0_2 a0_3 a0_4 a0_5 a0_6 a0_7) = some r := by rw [if_neg (show ¬ (false = true) by decide)] at H; exact H
      clear H
      have H := H1
      clear H1
      have H' := Aside0.mk H
      clear H
      go_wp2
      go_meet
      case rel => exact ⟨_, (48), (by first | rfl | (simp; done) | (simp [*]; done)), H', ⟨by first | omega | exact Nat.le_refl _⟩, ⟨by first | exact Kd.R_nil _ _ _ _ _ | exact Kd.N_nil _ _ _ _ _ | exact Kd.V_nil _ _ _ _ _ | exact Kd.Q_nil _ _ _ _ _ | exact Kd.S_nil _ _ _ _ _⟩, ⟨by (with_reducible repeat (first | refine bN ?_ _ | refine bD ?_ | refine bA ?_ _)); exact BK263.out⟩, ⟨by repeat (first | (with_reducible first | exact HB.out | apply pA | apply pN | apply p1 | refine pS ?_ GE263.out) | exact HB.out)⟩⟩
  case rest =>
    clear HC2
    try clear p2
    try clear c3
    try clear c5
    try clear hcz4_0
    try clear hcz4_1
    try clear hcz4_2
    try clear hcz4_3
    try clear hcz4_4
    try clear hcz4_5
    try clear hcz4_6
    try clear hcz4_7
    try clear hfz4_0
    try clear hfz4_1
    try clear hfz4_2
    try clear hfz4_3
    try clear hfz4_4
    try clear hfz4_5
    try clear hfz4_6
    try clear hfz4_7
    obtain ⟨kq, x4_1, rfl, HA, HJ1, HO_3, BK263, HB⟩ := hcut
    cases kq with
    | zero => exact absurd HA.out (by simp [vernierref06_written.j0])
    | succ kj1 =>
      have H := HA.out
      clear HA
      simp only [vernierref06_written.j0] at H
      have HC6 := Aside0.mk H
      clear H
      go_upto_block 0 with (fail)
      go_cut [3] (fun v3 wc => ∃ (kq : Nat) (x3_5 : List Int), Aside0 (vernierref06_written.j2 kq x3_5 x4_1 a0_0 a0_1 a0_2 a0_3 a0_4 a0_5 a0_6 a0_7 = some r) ∧ Aside0 (kq ≤ kj1) ∧ Aside0 (Kd.R (Kd.int .u8) 5 wc w.heap.size (fun _ => True) v3 x3_5) ∧ Aside0 (wc.heap[gb263]? = some (.cells #[.bool a0_0, .bool a0_1, .int .i64 a0_2, .int .i64 a0_3, .int .i64 a0_4, .int .i64 a0_5, .int .i64 a0_6, .int .u64 a0_7] 25 (0, 0))) ∧ Aside0 (Below w.heap.size w wc))
      case first =>
        have H := HC6.out
        clear HC6
        have H' := Aside0.mk H
        clear H
        go_wp2
        go_loopg [3, 5] kj1 (fun kq v3 v5 w' => ∃ (x3_2 : List Int) (x5_2 : Int), v5 = .int .i64 x5_2 ∧ Aside0 (vernierref06_written.l0 kq x3_2 x4_1 x5_2 a0_0 a0_1 a0_2 a0_3 a0_4 a0_5 a0_6 a0_7 = some r) ∧ Aside0 (kq ≤ kj1) ∧ Aside0 (Kd.R (Kd.int .u8) 5 w' w.heap.size (fun _ => True) v3 x3_2) ∧ Aside0 (w'.heap[gb263]? = some (.cells #[.bool a0_0, .bool a0_1, .int .i64 a0_2, .int .i64 a0_3, .int .i64 a0_4, .int .i64 a0_5, .int .i64 a0_6, .int .u64 a0_7] 25 (0, 0))) ∧ Aside0 (Below w.heap.size w w'))
        case atStart => exact ⟨(([] : List Int)), (0), (by first | rfl | (simp; done) | (simp [*]; done)), H', ⟨Nat.le_refl _⟩, ⟨by (with_reducible repeat (first | apply Kd.R_alloc | apply Kd.R_drewN | apply Kd.R_drew)); exact HO_3.out⟩, ⟨by (with_reducible repeat (first | refine bN ?_ _ | refine bD ?_ | refine bA ?_ _)); exact BK263.out⟩, ⟨by repeat (first | (with_reducible first | exact HB.out | apply pA | apply pN | apply p1 | refine pS ?_ GE263.out) | exact HB.out)⟩⟩
        case round =>
          clear H'
          try clear p2
          try clear c3
          try clear c5
          try clear hcz4_0
          try clear hcz4_1
          try clear hcz4_2
          try clear hcz4_3
          try clear hcz4_4
          try clear hcz4_5
          try clear hcz4_6
          try clear hcz4_7
          try clear hfz4_0
          try clear hfz4_1
          try clear hfz4_2
          try clear hfz4_3
          try clear hfz4_4
          try clear hfz4_5
          try clear hfz4_6
          try clear hfz4_7
          try clear p2
          obtain ⟨x3_2, x5_2, rfl, HA, HK2, HO_3, BK263, HB⟩ := hrel
          cases gk with
          | zero => exact absurd HA.out (by simp [vernierref06_written.l0])
          | succ k2 =>
            have H := HA.out
            clear HA
            simp only [vernierref06_written.l0] at H
            by_cases c7 : x5_2 < a0_2
            · rw [if_pos c7] at H
              have c7b0 : decide (x5_2 < a0_2) = true := decide_eq_true c7
              clear c7
              (first | rw [c7b0] | (simp only [i64_w, i32_w]; rw [c7b0]) | skip)
              by_cases c8 : x5_2 < 63
              · rw [if_pos c8] at H
                have c8b0 : decide (x5_2 < 63) = true := decide_eq_true c8
                clear c8
                by_cases c9 : x3_2.length < 140737488355328
                · rw [if_pos c9] at H
                  have LMc9 := Aside0.mk c9
                  clear c9
                  obtain ⟨y264, hy264⟩ : ∃ y_ : List Int, y_ = (x3_2 ++ [x4_1]) := ⟨_, rfl⟩
                  replace H : (vernierref06_written.l0 k2 y264 x4_1 (wrap64 (x5_2 + 1)) a0_0 a0_1 a0_2 a0_3 a0_4 a0_5 a0_6 a0_7) = some r := by first | (rw [hy264]; with_reducible exact H) | (have H2_ := (Option.bind_some _ _).symm.trans H; rw [hy264]; with_reducible exact H2_) | (have H2_ := (Option.bind_some _ _).symm.trans H; with_reducible exact H2_) | with_reducible exact H | (rw [hy264]; exact H) | exact H
                  have Ny264 := Aside0.mk hy264
                  clear hy264
                  have H' := Aside0.mk H
                  clear H
                  have hcz10_0 : wr.cell? ⟨gb263, 0, none⟩ = some (.bool a0_0) := (blk_cell BK263.out 0).trans rfl
                  have hcz10_1 : wr.cell? ⟨gb263, 1, none⟩ = some (.bool a0_1) := (blk_cell BK263.out 1).trans rfl
                  have hcz10_2 : wr.cell? ⟨gb263, 2, none⟩ = some (.int .i64 a0_2) := (blk_cell BK263.out 2).trans rfl
                  have hcz10_3 : wr.cell? ⟨gb263, 3, none⟩ = some (.int .i64 a0_3) := (blk_cell BK263.out 3).trans rfl
                  have hcz10_4 : wr.cell? ⟨gb263, 4, none⟩ = some (.int .i64 a0_4) := (blk_cell BK263.out 4).trans rfl
                  have hcz10_5 : wr.cell? ⟨gb263, 5, none⟩ = some (.int .i64 a0_5) := (blk_cell BK263.out 5).trans rfl
                  have hcz10_6 : wr.cell? ⟨gb263, 6, none⟩ = some (.int .i64 a0_6) := (blk_cell BK263.out 6).trans rfl
                  have hcz10_7 : wr.cell? ⟨gb263, 7, none⟩ = some (.int .u64 a0_7) := (blk_cell BK263.out 7).trans rfl
                  have hfz10_0 := blk_frozen BK263.out 0
                  have hfz10_1 := blk_frozen BK263.out 1
                  have hfz10_2 := blk_frozen BK263.out 2
                  have hfz10_3 := blk_frozen BK263.out 3
                  have hfz10_4 := blk_frozen BK263.out 4
                  have hfz10_5 := blk_frozen BK263.out 5
                  have hfz10_6 := blk_frozen BK263.out 6
                  have hfz10_7 := blk_frozen BK263.out 7
                  go_wp2_with (first | ((with_reducible refine gate_builtin (b := .append) (xs := #[.tmp 19, .tmp 21]) rfl ?_); at_builtin; refine Kd.R_append (Kd.int .u8) (w0 := w) w.heap.size rfl (.tmp 19) (.tmp 21) 82 5 (.int .u8 0) 1 rfl Try.underlying82 info5 rfl (by decide) (by omega) u3 x3_2 x4_1 [.int .u8 x4_1] (fun _ => True) (fun _ => False) rfl rfl ?aP (fun _ hk => hk.elim) ?aF ?aO ?aB ?aS ?aL ?_; (case aP => exact rfl); (case aB => exact (by repeat (first | (with_reducible first | exact HB.out | apply pA | apply pN | apply p1 | refine pS ?_ GE263.out) | exact HB.out))); (case aF => exact (fun _ _ => trivial)); (case aO => exact (by (with_reducible repeat (first | apply Kd.R_alloc | apply Kd.R_drewN | apply Kd.R_drew)); exact HO_3.out)); (case aS => exact (bZ (by repeat (first | (with_reducible first | exact HB.out | apply pA | apply pN | apply p1 | refine pS ?_ GE263.out) | exact HB.out)))); (case aL => have := LMc9.out; omega); intro v265 w11 ho hb hg hat; rw [← Ny264.out] at ho; have n0_ := Aside0.mk (blk_grown (g := gb263) (o := .cells #[.bool a0_0, .bool a0_1, .int .i64 a0_2, .int .i64 a0_3, .int .i64 a0_4, .int .i64 a0_5, .int .i64 a0_6, .int .u64 a0_7] 25 (0, 0)) (by (with_reducible repeat (first | refine bN ?_ _ | refine bD ?_ | refine bA ?_ _)); exact BK263.out) hg (Kd.R_ne HO_3.out BK263.out (by decide))); have n1_ := Aside0.mk (hb); have n2_ := Aside0.mk (ho); clear BK263; clear HB; clear HO_3; have BK263 := n0_; have HB := n1_; have HO266 := n2_; clear n0_ n1_ n2_; clear ho hb hg hat))
                  go_roundg k2
                  case measure => have := HJ1.out; have := HK2.out; omega
                  case rel => exact ⟨(y264), (wrap64 (x5_2 + 1)), (by first | rfl | (simp; done) | (simp [*]; done)), H', ⟨by have := HJ1.out; have := HK2.out; omega⟩, ⟨by (with_reducible repeat (first | apply Kd.R_alloc | apply Kd.R_drewN | apply Kd.R_drew)); exact HO266.out⟩, ⟨by (with_reducible repeat (first | refine bN ?_ _ | refine bD ?_ | refine bA ?_ _)); exact BK263.out⟩, ⟨by repeat (first | (with_reducible first | exact HB.out | apply pA | apply pN | apply p1 | refine pS ?_ GE263.out) | exact HB.out)⟩⟩
                · rw [if_neg c9] at H
                  exact absurd H (by simp)
              · rw [if_neg c8] at H
                have c8b0 : decide (x5_2 < 63) = false := decide_eq_false c8
                clear c8
                have H' := Aside0.mk H
                clear H
                have hcz12_0 : wr.cell? ⟨gb263, 0, none⟩ = some (.bool a0_0) := (blk_cell BK263.out 0).trans rfl
                have hcz12_1 : wr.cell? ⟨gb263, 1, none⟩ = some (.bool a0_1) := (blk_cell BK263.out 1).trans rfl
                have hcz12_2 : wr.cell? ⟨gb263, 2, none⟩ = some (.int .i64 a0_2) := (blk_cell BK263.out 2).trans rfl
                have hcz12_3 : wr.cell? ⟨gb263, 3, none⟩ = some (.int .i64 a0_3) := (blk_cell BK263.out 3).trans rfl
                have hcz12_4 : wr.cell? ⟨gb263, 4, none⟩ = some (.int .i64 a0_4) := (blk_cell BK263.out 4).trans rfl
                have hcz12_5 : wr.cell? ⟨gb263, 5, none⟩ = some (.int .i64 a0_5) := (blk_cell BK263.out 5).trans rfl
                have hcz12_6 : wr.cell? ⟨gb263, 6, none⟩ = some (.int .i64 a0_6) := (blk_cell BK263.out 6).trans rfl
                have hcz12_7 : wr.cell? ⟨gb263, 7, none⟩ = some (.int .u64 a0_7) := (blk_cell BK263.out 7).trans rfl
                have hfz12_0 := blk_frozen BK263.out 0
                have hfz12_1 := blk_frozen BK263.out 1
                have hfz12_2 := blk_frozen BK263.out 2
                have hfz12_3 := blk_frozen BK263.out 3
                have hfz12_4 := blk_frozen BK263.out 4
                have hfz12_5 := blk_frozen BK263.out 5
                have hfz12_6 := blk_frozen BK263.out 6
                have hfz12_7 := blk_frozen BK263.out 7
                go_wp2
                go_meet
                case rel => exact ⟨_, (x3_2), H', ⟨by have := HJ1.out; have := HK2.out; first | omega | exact Nat.le_refl _⟩, ⟨by (with_reducible repeat (first | apply Kd.R_alloc | apply Kd.R_drewN | apply Kd.R_drew)); exact HO_3.out⟩, ⟨by (with_reducible repeat (first | refine bN ?_ _ | refine bD ?_ | refine bA ?_ _)); exact BK263.out⟩, ⟨by repeat (first | (with_reducible first | exact HB.out | apply pA | apply pN | apply p1 | refine pS ?_ GE263.out) | exact HB.out)⟩⟩
            · rw [if_neg c7] at H
              have c7b0 : decide (x5_2 < a0_2) = false := decide_eq_false c7
              clear c7
              (first | rw [c7b0] | (simp only [i64_w, i32_w]; rw [c7b0]) | skip)
              have H' := Aside0.mk H
              clear H
              have hcz13_0 : wr.cell? ⟨gb263, 0, none⟩ = some (.bool a0_0) := (blk_cell BK263.out 0).trans rfl
              have hcz13_1 : wr.cell? ⟨gb263, 1, none⟩ = some (.bool a0_1) := (blk_cell BK263.out 1).trans rfl
              have hcz13_2 : wr.cell? ⟨gb263, 2, none⟩ = some (.int .i64 a0_2) := (blk_cell BK263.out 2).trans rfl
              have hcz13_3 : wr.cell? ⟨gb263, 3, none⟩ = some (.int .i64 a0_3) := (blk_cell BK263.out 3).trans rfl
              have hcz13_4 : wr.cell? ⟨gb263, 4, none⟩ = some (.int .i64 a0_4) := (blk_cell BK263.out 4).trans rfl
              have hcz13_5 : wr.cell? ⟨gb263, 5, none⟩ = some (.int .i64 a0_5) := (blk_cell BK263.out 5).trans rfl
              have hcz13_6 : wr.cell? ⟨gb263, 6, none⟩ = some (.int .i64 a0_6) := (blk_cell BK263.out 6).trans rfl
              have hcz13_7 : wr.cell? ⟨gb263, 7, none⟩ = some (.int .u64 a0_7) := (blk_cell BK263.out 7).trans rfl
              have hfz13_0 := blk_frozen BK263.out 0
              have hfz13_1 := blk_frozen BK263.out 1
              have hfz13_2 := blk_frozen BK263.out 2
              have hfz13_3 := blk_frozen BK263.out 3
              have hfz13_4 := blk_frozen BK263.out 4
              have hfz13_5 := blk_frozen BK263.out 5
              have hfz13_6 := blk_frozen BK263.out 6
              have hfz13_7 := blk_frozen BK263.out 7
              go_wp2
              go_meet
              case rel => exact ⟨_, (x3_2), H', ⟨by have := HJ1.out; have := HK2.out; first | omega | exact Nat.le_refl _⟩, ⟨by (with_reducible repeat (first | apply Kd.R_alloc | apply Kd.R_drewN | apply Kd.R_drew)); exact HO_3.out⟩, ⟨by (with_reducible repeat (first | refine bN ?_ _ | refine bD ?_ | refine bA ?_ _)); exact BK263.out⟩, ⟨by repeat (first | (with_reducible first | exact HB.out | apply pA | apply pN | apply p1 | refine pS ?_ GE263.out) | exact HB.out)⟩⟩
      case rest =>
        clear HC6
        try clear p2
        try clear c3
        try clear c5
        try clear p6
        try clear c7
        try clear c7b0
        try clear c8
        try clear c8b0
        try clear c9
        try clear hcz10_0
        try clear hcz10_1
        try clear hcz10_2
        try clear hcz10_3
        try clear hcz10_4
        try clear hcz10_5
        try clear hcz10_6
        try clear hcz10_7
        try clear hcz12_0
        try clear hcz12_1
        try clear hcz12_2
        try clear hcz12_3
        try clear hcz12_4
        try clear hcz12_5
        try clear hcz12_6
        try clear hcz12_7
        try clear hcz13_0
        try clear hcz13_1
        try clear hcz13_2
        try clear hcz13_3
        try clear hcz13_4
        try clear hcz13_5
        try clear hcz13_6
        try clear hcz13_7
        try clear hcz4_0
        try clear hcz4_1
        try clear hcz4_2
        try clear hcz4_3
        try clear hcz4_4
        try clear hcz4_5
        try clear hcz4_6
        try clear hcz4_7
        try clear hfz10_0
        try clear hfz10_1
        try clear hfz10_2
        try clear hfz10_3
        try clear hfz10_4
        try clear hfz10_5
        try clear hfz10_6
        try clear hfz10_7
        try clear hfz12_0
        try clear hfz12_1
        try clear hfz12_2
        try clear hfz12_3
        try clear hfz12_4
        try clear hfz12_5
        try clear hfz12_6
        try clear hfz12_7
        try clear hfz13_0
        try clear hfz13_1
        try clear hfz13_2
        try clear hfz13_3
        try clear hfz13_4
        try clear hfz13_5
        try clear hfz13_6
        try clear hfz13_7
        try clear hfz4_0
        try clear hfz4_1
        try clear hfz4_2
        try clear hfz4_3
        try clear hfz4_4
        try clear hfz4_5
        try clear hfz4_6
        try clear hfz4_7
        try clear p2
        obtain ⟨kq, x3_5, HA, HJ5, HO_3, BK263, HB⟩ := hcut
        cases kq with
        | zero => exact absurd HA.out (by simp [vernierref06_written.j2])
        | succ kj5 =>
          have H := HA.out
          clear HA
          simp only [vernierref06_written.j2] at H
          by_cases c14 : x3_5.length < 140737488355328
          · rw [if_pos c14] at H
            have LMc14 := Aside0.mk c14
            clear c14
            obtain ⟨y267, hy267⟩ : ∃ y_ : List Int, y_ = (x3_5 ++ [(97 - x4_1) % 256]) := ⟨_, rfl⟩
            replace H : (if a0_4 ≥ 0 then (if a0_4 ≤ 2 then (if a0_5 ≥ 0 then (vernierref06_written.j3 kj5 (strOfNums y267) (decide (a0_5 ≤ 3)) a0_0 a0_1 a0_2 a0_3 a0_4 a0_5 a0_6 a0_7) else (vernierref06_written.j3 kj5 (strOfNums y267) false a0_0 a0_1 a0_2 a0_3 a0_4 a0_5 a0_6 a0_7)) else (vernierref06_written.j3 kj5 (strOfNums y267) false a0_0 a0_1 a0_2 a0_3 a0_4 a0_5 a0_6 a0_7)) else (vernierref06_written.j3 kj5 (strOfNums y267) false a0_0 a0_1 a0_2 a0_3 a0_4 a0_5 a0_6 a0_7)) = some r := by first | (rw [hy267]; with_reducible exact H) | (have H2_ := (Option.bind_some _ _).symm.trans H; rw [hy267]; with_reducible exact H2_) | (have H2_ := (Option.bind_some _ _).symm.trans H; with_reducible exact H2_) | with_reducible exact H | (rw [hy267]; exact H) | exact H
            have Ny267 := Aside0.mk hy267
            clear hy267
            have HC15 := Aside0.mk H
            clear H
            go_upto_region 11 with (first | ((with_reducible refine gate_builtin (b := .append) (xs := #[.tmp 23, .tmp 26]) rfl ?_); at_builtin; refine Kd.R_append (Kd.int .u8) (w0 := w) w.heap.size rfl (.tmp 23) (.tmp 26) 82 5 (.int .u8 0) 1 rfl Try.underlying82 info5 rfl (by decide) (by omega) u3 x3_5 ((97 - x4_1) % 256) [.int .u8 ((97 - x4_1) % 256)] (fun _ => True) (fun _ => False) rfl rfl ?aP (fun _ hk => hk.elim) ?aF ?aO ?aB ?aS ?aL ?_; (case aP => exact rfl); (case aB => exact (by repeat (first | (with_reducible first | exact HB.out | apply pA | apply pN | apply p1 | refine pS ?_ GE263.out) | exact HB.out))); (case aF => exact (fun _ _ => trivial)); (case aO => exact (by (with_reducible repeat (first | apply Kd.R_alloc | apply Kd.R_drewN | apply Kd.R_drew)); exact HO_3.out)); (case aS => exact (bZ (by repeat (first | (with_reducible first | exact HB.out | apply pA | apply pN | apply p1 | refine pS ?_ GE263.out) | exact HB.out)))); (case aL => have := LMc14.out; omega); intro v268 w16 ho hb hg hat; rw [← Ny267.out] at ho; have n0_ := Aside0.mk (blk_grown (g := gb263) (o := .cells #[.bool a0_0, .bool a0_1, .int .i64 a0_2, .int .i64 a0_3, .int .i64 a0_4, .int .i64 a0_5, .int .i64 a0_6, .int .u64 a0_7] 25 (0, 0)) (by (with_reducible repeat (first | refine bN ?_ _ | refine bD ?_ | refine bA ?_ _)); exact BK263.out) hg (Kd.R_ne HO_3.out BK263.out (by decide))); have n1_ := Aside0.mk (hb); have n2_ := Aside0.mk (ho); clear BK263; clear HB; clear HO_3; have BK263 := n0_; have HB := n1_; have HO269 := n2_; clear n0_ n1_ n2_; clear ho hb hg hat; have hcv17 := own_string (P := Try.prog) Try.underlying82 Try.underlying5 Try.underlying9 (Kd.own_of_R HO269.out)))
            (try simp only [Act.put, List.setIfInBounds_toArray, List.set_cons_zero, List.set_cons_succ])
            go_cut [47] (fun v47 wc => ∃ (kq : Nat) (x47_14 : Bool), v47 = .bool x47_14 ∧ Aside0 (vernierref06_written.j3 kq (strOfNums y267) x47_14 a0_0 a0_1 a0_2 a0_3 a0_4 a0_5 a0_6 a0_7 = some r) ∧ Aside0 (kq ≤ kj5) ∧ Aside0 (wc.heap[gb263]? = some (.cells #[.bool a0_0, .bool a0_1, .int .i64 a0_2, .int .i64 a0_3, .int .i64 a0_4, .int .i64 a0_5, .int .i64 a0_6, .int .u64 a0_7] 25 (0, 0))) ∧ Aside0 (Below w.heap.size w wc))
            case first =>
              have H := HC15.out
              clear HC15
              by_cases c18 : a0_4 ≥ 0
              · rw [if_pos c18] at H
                have c18b0 : decide (0 ≤ a0_4) = true := decide_eq_true c18
                clear c18
                (first | rw [c18b0] | (simp only [i64_w, i32_w]; rw [c18b0]) | skip)
                by_cases c19 : a0_4 ≤ 2
                · rw [if_pos c19] at H
                  have c19b0 : decide (a0_4 ≤ 2) = true := decide_eq_true c19
                  clear c19
                  by_cases c20 : a0_5 ≥ 0
                  · rw [if_pos c20] at H
                    have c20b0 : decide (0 ≤ a0_5) = true := decide_eq_true c20
                    clear c20
                    have H' := Aside0.mk H
                    clear H
                    have hcz21_0 : w16.cell? ⟨gb263, 0, none⟩ = some (.bool a0_0) := (blk_cell BK263.out 0).trans rfl
                    have hcz21_1 : w16.cell? ⟨gb263, 1, none⟩ = some (.bool a0_1) := (blk_cell BK263.out 1).trans rfl
                    have hcz21_2 : w16.cell? ⟨gb263, 2, none⟩ = some (.int .i64 a0_2) := (blk_cell BK263.out 2).trans rfl
                    have hcz21_3 : w16.cell? ⟨gb263, 3, none⟩ = some (.int .i64 a0_3) := (blk_cell BK263.out 3).trans rfl
                    have hcz21_4 : w16.cell? ⟨gb263, 4, none⟩ = some (.int .i64 a0_4) := (blk_cell BK263.out 4).trans rfl
                    have hcz21_5 : w16.cell? ⟨gb263, 5, none⟩ = some (.int .i64 a0_5) := (blk_cell BK263.out 5).trans rfl
                    have hcz21_6 : w16.cell? ⟨gb263, 6, none⟩ = some (.int .i64 a0_6) := (blk_cell BK263.out 6).trans rfl
                    have hcz21_7 : w16.cell? ⟨gb263, 7, none⟩ = some (.int .u64 a0_7) := (blk_cell BK263.out 7).trans rfl
                    have hfz21_0 := blk_frozen BK263.out 0
                    have hfz21_1 := blk_frozen BK263.out 1
                    have hfz21_2 := blk_frozen BK263.out 2
                    have hfz21_3 := blk_frozen BK263.out 3
                    have hfz21_4 := blk_frozen BK263.out 4
                    have hfz21_5 := blk_frozen BK263.out 5
                    have hfz21_6 := blk_frozen BK263.out 6
                    have hfz21_7 := blk_frozen BK263.out 7
                    go_wp2
                    go_meet
                    case rel => exact ⟨_, (decide (a0_5 ≤ 3)), (by first | rfl | (simp; done) | (simp [*]; done)), H', ⟨by have := HJ1.out; have := HJ5.out; first | omega | exact Nat.le_refl _⟩, ⟨by (with_reducible repeat (first | refine bN ?_ _ | refine bD ?_ | refine bA ?_ _)); exact BK263.out⟩, ⟨by repeat (first | (with_reducible first | exact HB.out | apply pA | apply pN | apply p1 | refine pS ?_ GE263.out) | exact HB.out)⟩⟩
                  · rw [if_neg c20] at H
                    have c20b0 : decide (0 ≤ a0_5) = false := decide_eq_false c20
                    clear c20
                    have H' := Aside0.mk H
                    clear H
                    have hcz22_0 : w16.cell? ⟨gb263, 0, none⟩ = some (.bool a0_0) := (blk_cell BK263.out 0).trans rfl
                    have hcz22_1 : w16.cell? ⟨gb263, 1, none⟩ = some (.bool a0_1) := (blk_cell BK263.out 1).trans rfl
                    have hcz22_2 : w16.cell? ⟨gb263, 2, none⟩ = some (.int .i64 a0_2) := (blk_cell BK263.out 2).trans rfl
                    have hcz22_3 : w16.cell? ⟨gb263, 3, none⟩ = some (.int .i64 a0_3) := (blk_cell BK263.out 3).trans rfl
                    have hcz22_4 : w16.cell? ⟨gb263, 4, none⟩ = some (.int .i64 a0_4) := (blk_cell BK263.out 4).trans rfl
                    have hcz22_5 : w16.cell? ⟨gb263, 5, none⟩ = some (.int .i64 a0_5) := (blk_cell BK263.out 5).trans rfl
                    have hcz22_6 : w16.cell? ⟨gb263, 6, none⟩ = some (.int .i64 a0_6) := (blk_cell BK263.out 6).trans rfl
                    have hcz22_7 : w16.cell? ⟨gb263, 7, none⟩ = some (.int .u64 a0_7) := (blk_cell BK263.out 7).trans rfl
                    have hfz22_0 := blk_frozen BK263.out 0
                    have hfz22_1 := blk_frozen BK263.out 1
                    have hfz22_2 := blk_frozen BK263.out 2
                    have hfz22_3 := blk_frozen BK263.out 3
                    have hfz22_4 := blk_frozen BK263.out 4
                    have hfz22_5 := blk_frozen BK263.out 5
                    have hfz22_6 := blk_frozen BK263.out 6
                    have hfz22_7 := blk_frozen BK263.out 7
                    go_wp2
                    go_meet
                    case rel => exact ⟨_, (false), (by first | rfl | (simp; done) | (simp [*]; done)), H', ⟨by have := HJ1.out; have := HJ5.out; first | omega | exact Nat.le_refl _⟩, ⟨by (with_reducible repeat (first | refine bN ?_ _ | refine bD ?_ | refine bA ?_ _)); exact BK263.out⟩, ⟨by repeat (first | (with_reducible first | exact HB.out | apply pA | apply pN | apply p1 | refine pS ?_ GE263.out) | exact HB.out)⟩⟩
                · rw [if_neg c19] at H
                  have c19b0 : decide (a0_4 ≤ 2) = false := decide_eq_false c19
                  clear c19
                  have H' := Aside0.mk H
                  clear H
                  have hcz23_0 : w16.cell? ⟨gb263, 0, none⟩ = some (.bool a0_0) := (blk_cell BK263.out 0).trans rfl
                  have hcz23_1 : w16.cell? ⟨gb263, 1, none⟩ = some (.bool a0_1) := (blk_cell BK263.out 1).trans rfl
                  have hcz23_2 : w16.cell? ⟨gb263, 2, none⟩ = some (.int .i64 a0_2) := (blk_cell BK263.out 2).trans rfl
                  have hcz23_3 : w16.cell? ⟨gb263, 3, none⟩ = some (.int .i64 a0_3) := (blk_cell BK263.out 3).trans rfl
                  have hcz23_4 : w16.cell? ⟨gb263, 4, none⟩ = some (.int .i64 a0_4) := (blk_cell BK263.out 4).trans rfl
                  have hcz23_5 : w16.cell? ⟨gb263, 5, none⟩ = some (.int .i64 a0_5) := (blk_cell BK263.out 5).trans rfl
                  have hcz23_6 : w16.cell? ⟨gb263, 6, none⟩ = some (.int .i64 a0_6) := (blk_cell BK263.out 6).trans rfl
                  have hcz23_7 : w16.cell? ⟨gb263, 7, none⟩ = some (.int .u64 a0_7) := (blk_cell BK263.out 7).trans rfl
                  have hfz23_0 := blk_frozen BK263.out 0
                  have hfz23_1 := blk_frozen BK263.out 1
                  have hfz23_2 := blk_frozen BK263.out 2
                  have hfz23_3 := blk_frozen BK263.out 3
                  have hfz23_4 := blk_frozen BK263.out 4
                  have hfz23_5 := blk_frozen BK263.out 5
                  have hfz23_6 := blk_frozen BK263.out 6
                  have hfz23_7 := blk_frozen BK263.out 7
                  go_wp2
                  go_meet
                  case rel => exact ⟨_, (false), (by first | rfl | (simp; done) | (simp [*]; done)), H', ⟨by have := HJ1.out; have := HJ5.out; first | omega | exact Nat.le_refl _⟩, ⟨by (with_reducible repeat (first | refine bN ?_ _ | refine bD ?_ | refine bA ?_ _)); exact BK263.out⟩, ⟨by repeat (first | (with_reducible first | exact HB.out | apply pA | apply pN | apply p1 | refine pS ?_ GE263.out) | exact HB.out)⟩⟩
              · rw [if_neg c18] at H
                have c18b0 : decide (0 ≤ a0_4) = false := decide_eq_false c18
                clear c18
                (first | rw [c18b0] | (simp only [i64_w, i32_w]; rw [c18b0]) | skip)
                have H' := Aside0.mk H
                clear H
                have hcz24_0 : w16.cell? ⟨gb263, 0, none⟩ = some (.bool a0_0) := (blk_cell BK263.out 0).trans rfl
                have hcz24_1 : w16.cell? ⟨gb263, 1, none⟩ = some (.bool a0_1) := (blk_cell BK263.out 1).trans rfl
                have hcz24_2 : w16.cell? ⟨gb263, 2, none⟩ = some (.int .i64 a0_2) := (blk_cell BK263.out 2).trans rfl
                have hcz24_3 : w16.cell? ⟨gb263, 3, none⟩ = some (.int .i64 a0_3) := (blk_cell BK263.out 3).trans rfl
                have hcz24_4 : w16.cell? ⟨gb263, 4, none⟩ = some (.int .i64 a0_4) := (blk_cell BK263.out 4).trans rfl
                have hcz24_5 : w16.cell? ⟨gb263, 5, none⟩ = some (.int .i64 a0_5) := (blk_cell BK263.out 5).trans rfl
                have hcz24_6 : w16.cell? ⟨gb263, 6, none⟩ = some (.int .i64 a0_6) := (blk_cell BK263.out 6).trans rfl
                have hcz24_7 : w16.cell? ⟨gb263, 7, none⟩ = some (.int .u64 a0_7) := (blk_cell BK263.out 7).trans rfl
                have hfz24_0 := blk_frozen BK263.out 0
                have hfz24_1 := blk_frozen BK263.out 1
                have hfz24_2 := blk_frozen BK263.out 2
                have hfz24_3 := blk_frozen BK263.out 3
                have hfz24_4 := blk_frozen BK263.out 4
                have hfz24_5 := blk_frozen BK263.out 5
                have hfz24_6 := blk_frozen BK263.out 6
                have hfz24_7 := blk_frozen BK263.out 7
                go_wp2
                go_meet
                case rel => exact ⟨_, (false), (by first | rfl | (simp; done) | (simp [*]; done)), H', ⟨by have := HJ1.out; have := HJ5.out; first | omega | exact Nat.le_refl _⟩, ⟨by (with_reducible repeat (first | refine bN ?_ _ | refine bD ?_ | refine bA ?_ _)); exact BK263.out⟩, ⟨by repeat (first | (with_reducible first | exact HB.out | apply pA | apply pN | apply p1 | refine pS ?_ GE263.out) | exact HB.out)⟩⟩
            case rest =>
              clear HC15
              try clear c1
              try clear hcv1
              try clear c2
              try clear p2
              try clear c3
              try clear c5
              try clear p6
              try clear c7
              try clear c7b0
              try clear c8
              try clear c8b0
              try clear c9
              try clear c14
              try clear hcv17
              try clear c18
              try clear c18b0
              try clear c19
              try clear c19b0
              try clear c20
              try clear c20b0
              try clear hcz10_0
              try clear hcz10_1
              try clear hcz10_2
              try clear hcz10_3
              try clear hcz10_4
              try clear hcz10_5
              try clear hcz10_6
              try clear hcz10_7
              try clear hcz12_0
              try clear hcz12_1
              try clear hcz12_2
              try clear hcz12_3
              try clear hcz12_4
              try clear hcz12_5
              try clear hcz12_6
              try clear hcz12_7
              try clear hcz13_0
              try clear hcz13_1
              try clear hcz13_2
              try clear hcz13_3
              try clear hcz13_4
              try clear hcz13_5
              try clear hcz13_6
              try clear hcz13_7
              try clear hcz21_0
              try clear hcz21_1
              try clear hcz21_2
              try clear hcz21_3
              try clear hcz21_4
              try clear hcz21_5
              try clear hcz21_6
              try clear hcz21_7
              try clear hcz22_0
              try clear hcz22_1
              try clear hcz22_2
              try clear hcz22_3
              try clear hcz22_4
              try clear hcz22_5
              try clear hcz22_6
              try clear hcz22_7
              try clear hcz23_0
              try clear hcz23_1
              try clear hcz23_2
              try clear hcz23_3
              try clear hcz23_4
              try clear hcz23_5
              try clear hcz23_6
              try clear hcz23_7
              try clear hcz24_0
              try clear hcz24_1
              try clear hcz24_2
              try clear hcz24_3
              try clear hcz24_4
              try clear hcz24_5
              try clear hcz24_6
              try clear hcz24_7
              try clear hcz4_0
              try clear hcz4_1
              try clear hcz4_2
              try clear hcz4_3
              try clear hcz4_4
              try clear hcz4_5
              try clear hcz4_6
              try clear hcz4_7
              try clear hfz10_0
              try clear hfz10_1
              try clear hfz10_2
              try clear hfz10_3
              try clear hfz10_4
              try clear hfz10_5
              try clear hfz10_6
              try clear hfz10_7
              try clear hfz12_0
              try clear hfz12_1
              try clear hfz12_2
              try clear hfz12_3
              try clear hfz12_4
              try clear hfz12_5
              try clear hfz12_6
              try clear hfz12_7
              try clear hfz13_0
              try clear hfz13_1
              try clear hfz13_2
              try clear hfz13_3
              try clear hfz13_4
              try clear hfz13_5
              try clear hfz13_6
              try clear hfz13_7
              try clear hfz21_0
              try clear hfz21_1
              try clear hfz21_2
              try clear hfz21_3
              try clear hfz21_4
              try clear hfz21_5
              try clear hfz21_6
              try clear hfz21_7
              try clear hfz22_0
              try clear hfz22_1
              try clear hfz22_2
              try clear hfz22_3
              try clear hfz22_4
              try clear hfz22_5
              try clear hfz22_6
              try clear hfz22_7
              try clear hfz23_0
              try clear hfz23_1
              try clear hfz23_2
              try clear hfz23_3
              try clear hfz23_4
              try clear hfz23_5
              try clear hfz23_6
              try clear hfz23_7
              try clear hfz24_0
              try clear hfz24_1
              try clear hfz24_2
              try clear hfz24_3
              try clear hfz24_4
              try clear hfz24_5
              try clear hfz24_6
              try clear hfz24_7
              try clear hfz4_0
              try clear hfz4_1
              try clear hfz4_2
              try clear hfz4_3
              try clear hfz4_4
              try clear hfz4_5
              try clear hfz4_6
              try clear hfz4_7
              try clear p2
              try clear p6
              obtain ⟨kq, x47_14, rfl, HA, HJ14, BK263, HB⟩ := hcut
              cases kq with
              | zero => exact absurd HA.out (by simp [vernierref06_written.j3])
              | succ kj14 =>
                have H := HA.out
                clear HA
                simp only [vernierref06_written.j3] at H
                by_cases c25 : x47_14 = true
                · subst c25
                  have H1 : ((vernierref01_Text.f kj14 (IntKind.u64.wrap (a0_5)) 2).bind fun t270 => (if 0 ≤ a0_4 then (if a0_4 ≤ (t270.size : Int) then (if (strOfNums y267).size + (t270.extract 0 (a0_4 : Int).toNat).size ≤ 9223372036854775807 then (if a0_6 ≥ 0 then (if a0_6 ≤ 64 then ((vernierref01_Text.f kj14 a0_7 a0_6).bind fun t271 => (if ((strOfNums y267) ++ (t270.extract 0 (a0_4 : Int).toNat)).size + t271.size ≤ 9223372036854775807 then (some (((strOfNums y267) ++ (t270.extract 0 (a0_4 : Int).toNat)) ++ t271)) else (none))) else (some ((strOfNums y267) ++ (t270.extract 0 (a0_4 : Int).toNat)))) else (some ((strOfNums y267) ++ (t270.extract 0 (a0_4 : Int).toNat)))) else (none)) else (none)) else (none))) = some r := by rw [if_pos rfl] at H; exact H
                  clear H
                  have H := H1
                  clear H1
                  replace H := Option.bind_eq_some_iff.mp H
                  obtain ⟨t270, A260, H⟩ := H
                  replace H : (if 0 ≤ a0_4 then (if a0_4 ≤ (t270.size : Int) then (if (strOfNums y267).size + (t270.extract 0 (a0_4 : Int).toNat).size ≤ 9223372036854775807 then (if a0_6 ≥ 0 then (if a0_6 ≤ 64 then ((vernierref01_Text.f kj14 a0_7 a0_6).bind fun t271 => (if ((strOfNums y267) ++ (t270.extract 0 (a0_4 : Int).toNat)).size + t271.size ≤ 9223372036854775807 then (some (((strOfNums y267) ++ (t270.extract 0 (a0_4 : Int).toNat)) ++ t271)) else (none))) else (some ((strOfNums y267) ++ (t270.extract 0 (a0_4 : Int).toNat)))) else (some ((strOfNums y267) ++ (t270.extract 0 (a0_4 : Int).toNat)))) else (none)) else (none)) else (none)) = some r := H
                  have A26 := Aside0.mk A260
                  clear A260
                  by_cases c27 : 0 ≤ a0_4
                  · rw [if_pos c27] at H
                    have c27b0 := eq_true c27
                    have c27b1 : decide (0 ≤ a0_4) = true := decide_eq_true c27
                    clear c27
                    by_cases c28 : a0_4 ≤ (t270.size : Int)
                    · rw [if_pos c28] at H
                      have c28b0 := eq_true c28
                      have c28b1 : decide (a0_4 ≤ (t270.size : Int)) = true := decide_eq_true c28
                      clear c28
                      by_cases c29 : (strOfNums y267).size + (t270.extract 0 (a0_4 : Int).toNat).size ≤ 9223372036854775807
                      · rw [if_pos c29] at H
                        have c29b0 := eq_true c29
                        have c29b1 : decide ((strOfNums y267).size + (t270.extract 0 (a0_4 : Int).toNat).size ≤ 9223372036854775807) = true := decide_eq_true c29
                        try have c29b2 : (9223372036854775807 < (strOfNums y267).size + (t270.extract 0 (a0_4 : Int).toNat).size) = False := eq_false (Nat.not_lt.2 c29)
                        try have c29b3 : (9223372036854775807 < (strOfNums y267).size + a0_4.toNat) = False := eq_false (by have z_ : a0_4 ≤ (t270.size : Int) := of_decide_eq_true (by assumption); have h_ := c29; simp only [ByteArray.size_append, ByteArray.size_extract] at h_; omega)
                        by_cases c30 : a0_6 ≥ 0
                        · rw [if_pos c30] at H
                          have c30b0 : decide (0 ≤ a0_6) = true := decide_eq_true c30
                          clear c30
                          by_cases c31 : a0_6 ≤ 64
                          · rw [if_pos c31] at H
                            have c31b0 : decide (a0_6 ≤ 64) = true := decide_eq_true c31
                            clear c31
                            replace H := Option.bind_eq_some_iff.mp H
                            obtain ⟨t271, A320, H⟩ := H
                            replace H : (if ((strOfNums y267) ++ (t270.extract 0 (a0_4 : Int).toNat)).size + t271.size ≤ 9223372036854775807 then (some (((strOfNums y267) ++ (t270.extract 0 (a0_4 : Int).toNat)) ++ t271)) else (none)) = some r := H
                            have A32 := Aside0.mk A320
                            clear A320
                            by_cases c33 : ((strOfNums y267) ++ (t270.extract 0 (a0_4 : Int).toNat)).size + t271.size ≤ 9223372036854775807
                            · rw [if_pos c33] at H
                              have c33b0 := eq_true c33
                              have c33b1 : decide (((strOfNums y267) ++ (t270.extract 0 (a0_4 : Int).toNat)).size + t271.size ≤ 9223372036854775807) = true := decide_eq_true c33
                              try have c33b2 : (9223372036854775807 < ((strOfNums y267) ++ (t270.extract 0 (a0_4 : Int).toNat)).size + t271.size) = False := eq_false (Nat.not_lt.2 c33)
                              try have c33b3 : (9223372036854775807 < (strOfNums y267).size + a0_4.toNat + t271.size) = False := eq_false (by have z_ : a0_4 ≤ (t270.size : Int) := of_decide_eq_true (by assumption); have h_ := c33; simp only [ByteArray.size_append, ByteArray.size_extract] at h_; omega)
                              obtain rfl := Option.some.inj H
                              try go_wp2
                              have n0_ := Aside0.mk (bD BK263.out)
                              have n1_ := Aside0.mk (p1 HB.out)
                              clear BK263
                              clear HB
                              have BK263 := n0_
                              have HB := n1_
                              clear n0_ n1_
                              refine start_ (n := 10) (S := fun w' => w'.cell? ⟨gb263, 0, none⟩ = some (.bool a0_0) ∧ w'.cell? ⟨gb263, 1, none⟩ = some (.bool a0_1) ∧ w'.cell? ⟨gb263, 2, none⟩ = some (.int .i64 a0_2) ∧ w'.cell? ⟨gb263, 3, none⟩ = some (.int .i64 a0_3) ∧ w'.cell? ⟨gb263, 4, none⟩ = some (.int .i64 a0_4) ∧ w'.cell? ⟨gb263, 5, none⟩ = some (.int .i64 a0_5) ∧ w'.cell? ⟨gb263, 6, none⟩ = some (.int .i64 a0_6) ∧ w'.cell? ⟨gb263, 7, none⟩ = some (.int .u64 a0_7)) (ds := []) #[false, false, false, false, false, false, false, false, false, false] (by kernel_rfl) rfl rfl ⟨(blk_cell BK263.out 0).trans rfl, (blk_cell BK263.out 1).trans rfl, (blk_cell BK263.out 2).trans rfl, (blk_cell BK263.out 3).trans rfl, (blk_cell BK263.out 4).trans rfl, (blk_cell BK263.out 5).trans rfl, (blk_cell BK263.out 6).trans rfl, (blk_cell BK263.out 7).trans rfl⟩ (fun hHeld => ?_); refine with_tabW vernierref06_written.tab12 vernierref06_written.bits12 (fun HT_ HW_ => ?_)
                              generalize wc.drew = w34 at BK263 HB hHeld ⊢
                              refine pure_ (i := 0) (N := some 48) (v := ?_) (a' := ?_) #[true, false, false, false, false, false, false, false, false, false] rfl rfl (any_of HT_.out (by kernel_rfl)) (fun _ _ _ h => h) (Or.inl ⟨by rfl, ?_⟩) ?_ ?_
                              rotate_left
                              · intro w'
                                go_simp
                                with_reducible rfl
                              rotate_left
                              · simp only [Act.put, List.setIfInBounds_toArray, List.set_cons_zero, List.set_cons_succ, i64_w, i32_w]
                                rfl
                              refine pure_ (i := 1) (N := some 49) (v := ?_) (a' := ?_) #[true, true, false, false, false, false, false, false, false, false] rfl rfl (any_of HT_.out (by kernel_rfl)) (fun _ _ _ h => h) (Or.inl ⟨by rfl, ?_⟩) ?_ ?_
                              rotate_left
                              · intro w'
                                go_simp
                                with_reducible rfl
                              rotate_left
                              · simp only [Act.put, List.setIfInBounds_toArray, List.set_cons_zero, List.set_cons_succ, i64_w, i32_w]
                                rfl
                              refine pure_ (i := 5) (N := some 53) (v := ?_) (a' := ?_) #[true, true, false, false, false, true, false, false, false, false] rfl rfl (any_of HT_.out (by kernel_rfl)) (fun _ _ _ h => h) (Or.inl ⟨by rfl, ?_⟩) ?_ ?_
                              rotate_left
                              · intro w'
                                go_simp
                                with_reducible rfl
                              rotate_left
                              · simp only [Act.put, List.setIfInBounds_toArray, List.set_cons_zero, List.set_cons_succ, i64_w, i32_w]
                                rfl
                              refine take_ (i := 2) (N := some 50) (v := ?_) (a' := ?_) #[true, true, true, false, false, true, false, false, false, false] rfl rfl (take_ofW HT_.out HW_.out (by kernel_rfl)) (fun _ _ _ h => h) (Or.inl ⟨by rfl, ?_⟩) hHeld ?_ ?_
                              rotate_left
                              · rintro w' ⟨s0, s1, s2, s3, s4, s5, s6, s7⟩
                                go_simp
                                with_reducible rfl
                              rotate_left
                              · simp only [Act.put, List.setIfInBounds_toArray, List.set_cons_zero, List.set_cons_succ, i64_w, i32_w]
                                rfl
                              refine pure_ (i := 3) (N := some 51) (v := ?_) (a' := ?_) #[true, true, true, true, false, true, false, false, false, false] rfl rfl (any_of HT_.out (by kernel_rfl)) (fun _ _ _ h => h) (Or.inl ⟨by rfl, ?_⟩) ?_ ?_
                              rotate_left
                              · intro w'
                                go_simp
                                with_reducible rfl
                              rotate_left
                              · simp only [Act.put, List.setIfInBounds_toArray, List.set_cons_zero, List.set_cons_succ, i64_w, i32_w]
                                rfl
                              refine take_ (i := 6) (N := some 54) (v := ?_) (a' := ?_) #[true, true, true, true, false, true, true, false, false, false] rfl rfl (take_ofW HT_.out HW_.out (by kernel_rfl)) (fun _ _ _ h => h) (Or.inl ⟨by rfl, ?_⟩) hHeld ?_ ?_
                              rotate_left
                              · rintro w' ⟨s0, s1, s2, s3, s4, s5, s6, s7⟩
                                go_simp
                                with_reducible rfl
                              rotate_left
                              · simp only [Act.put, List.setIfInBounds_toArray, List.set_cons_zero, List.set_cons_succ, i64_w, i32_w]
                                rfl
                              refine one_ (i := 4) (N := some 52) #[true, true, true, true, true, true, true, false, false, false] rfl rfl (one_of HT_.out (by kernel_rfl)) (by decide) (fun K hK => ?_)
                              refine goes_ Try.func28 (by kernel_rfl) rfl #[.int .u64 (IntKind.u64.wrap (a0_5)), .int .i64 2] (by rfl) rfl rfl (by (try simp only [List.map_toArray, List.map_cons, List.map_nil]); first | done | rfl | (simp only [List.length_drop, List.length_take]; rfl)) ?_
                              with_reducible refine (vernierref01_Text.calls kj14 (IntKind.u64.wrap (a0_5)) 2 t270 _ A26.out).mono ?_
                              rintro e w35 ⟨rfl, hb⟩
                              refine ⟨_, rfl, ?_⟩
                              have n0_ := Aside0.mk (bB3 BK263.out hb)
                              have n1_ := Aside0.mk (bS3 HB.out hb)
                              clear BK263
                              clear HB
                              have BK263 := n0_
                              have HB := n1_
                              clear n0_ n1_
                              (try clear hb)
                              (try clear hb2)
                              (try clear hk)
                              (try clear hi)
                              refine hK.out _ _ ⟨(blk_cell BK263.out 0).trans rfl, (blk_cell BK263.out 1).trans rfl, (blk_cell BK263.out 2).trans rfl, (blk_cell BK263.out 3).trans rfl, (blk_cell BK263.out 4).trans rfl, (blk_cell BK263.out 5).trans rfl, (blk_cell BK263.out 6).trans rfl, (blk_cell BK263.out 7).trans rfl⟩ (fun hHeld => ?_)
                              clear hK K
                              refine norm_ (a' := ?_) ?_ ?_
                              rotate_left
                              · show Act.put _ (some 52) _ = _
                                simp only [Act.put, List.setIfInBounds_toArray, List.set_cons_zero, List.set_cons_succ, i64_w, i32_w]
                                rfl
                              refine pure_ (i := 7) (N := some 55) (v := ?_) (a' := ?_) #[true, true, true, true, true, true, true, true, false, false] rfl rfl (any_of HT_.out (by kernel_rfl)) (fun _ _ _ h => h) (Or.inl ⟨by rfl, ?_⟩) ?_ ?_
                              rotate_left
                              · intro w'
                                go_simp
                                with_reducible rfl
                              rotate_left
                              · simp only [Act.put, List.setIfInBounds_toArray, List.set_cons_zero, List.set_cons_succ, i64_w, i32_w]
                                rfl
                              refine pure_ (i := 8) (N := some 56) (v := ?_) (a' := ?_) #[true, true, true, true, true, true, true, true, true, false] rfl rfl (any_of HT_.out (by kernel_rfl)) (fun _ _ _ h => h) (Or.inl ⟨by rfl, ?_⟩) ?_ ?_
                              rotate_left
                              · intro w'
                                go_simp
                                with_reducible rfl
                              rotate_left
                              · simp only [Act.put, List.setIfInBounds_toArray, List.set_cons_zero, List.set_cons_succ, i64_w, i32_w]
                                rfl
                              refine pure_ (i := 9) (N := some 6) (v := ?_) (a' := ?_) #[true, true, true, true, true, true, true, true, true, true] rfl rfl (any_of HT_.out (by kernel_rfl)) (fun _ _ _ h => h) (Or.inl ⟨by rfl, ?_⟩) ?_ ?_
                              rotate_left
                              · intro w'
                                go_simp
                                with_reducible rfl
                              rotate_left
                              · simp only [Act.put, List.setIfInBounds_toArray, List.set_cons_zero, List.set_cons_succ, i64_w, i32_w]
                                rfl
                              refine done_ (done_of HT_.out (by kernel_rfl)) ?_
                              have hcz36_0 : w35.cell? ⟨gb263, 0, none⟩ = some (.bool a0_0) := (blk_cell BK263.out 0).trans rfl
                              have hcz36_1 : w35.cell? ⟨gb263, 1, none⟩ = some (.bool a0_1) := (blk_cell BK263.out 1).trans rfl
                              have hcz36_2 : w35.cell? ⟨gb263, 2, none⟩ = some (.int .i64 a0_2) := (blk_cell BK263.out 2).trans rfl
                              have hcz36_3 : w35.cell? ⟨gb263, 3, none⟩ = some (.int .i64 a0_3) := (blk_cell BK263.out 3).trans rfl
                              have hcz36_4 : w35.cell? ⟨gb263, 4, none⟩ = some (.int .i64 a0_4) := (blk_cell BK263.out 4).trans rfl
                              have hcz36_5 : w35.cell? ⟨gb263, 5, none⟩ = some (.int .i64 a0_5) := (blk_cell BK263.out 5).trans rfl
                              have hcz36_6 : w35.cell? ⟨gb263, 6, none⟩ = some (.int .i64 a0_6) := (blk_cell BK263.out 6).trans rfl
                              have hcz36_7 : w35.cell? ⟨gb263, 7, none⟩ = some (.int .u64 a0_7) := (blk_cell BK263.out 7).trans rfl
                              have hfz36_0 := blk_frozen BK263.out 0
                              have hfz36_1 := blk_frozen BK263.out 1
                              have hfz36_2 := blk_frozen BK263.out 2
                              have hfz36_3 := blk_frozen BK263.out 3
                              have hfz36_4 := blk_frozen BK263.out 4
                              have hfz36_5 := blk_frozen BK263.out 5
                              have hfz36_6 := blk_frozen BK263.out 6
                              have hfz36_7 := blk_frozen BK263.out 7
                              try go_wp2_with (first | ((with_reducible refine gC (f := 28) rfl ?_); (with_reducible refine gD (N := 70) rfl ?_); refine goesY_ (some 70) Try.func28 #[.int .u64 a0_7, .int .i64 a0_6] ?_; (with_reducible refine (vernierref01_Text.calls kj14 a0_7 a0_6 t271 _ A32.out).mono ?_); rintro e w37 ⟨rfl, hb⟩; refine ⟨_, rfl, ?_⟩; have n0_ := Aside0.mk (bB3 BK263.out hb); have n1_ := Aside0.mk (bS3 HB.out hb); clear BK263; clear HB; have BK263 := n0_; have HB := n1_; clear n0_ n1_; (try clear hb); (try clear hb2); (try clear hk); (try clear hi)))
                              go_ret
                              exact ⟨by first | rfl | (simp [errW_none, errW_some] <;> rfl) | (simp [*, errW_none, errW_some] <;> rfl), by repeat (first | (with_reducible first | exact HB.out | apply pA | apply pN | apply p1 | refine pS ?_ GE263.out) | exact HB.out)⟩
                            · rw [if_neg c33] at H
                              exact absurd H (by simp)
                          · rw [if_neg c31] at H
                            have c31b0 : decide (a0_6 ≤ 64) = false := decide_eq_false c31
                            clear c31
                            obtain rfl := Option.some.inj H
                            try go_wp2
                            have n0_ := Aside0.mk (bD BK263.out)
                            have n1_ := Aside0.mk (p1 HB.out)
                            clear BK263
                            clear HB
                            have BK263 := n0_
                            have HB := n1_
                            clear n0_ n1_
                            refine start_ (n := 10) (S := fun w' => w'.cell? ⟨gb263, 0, none⟩ = some (.bool a0_0) ∧ w'.cell? ⟨gb263, 1, none⟩ = some (.bool a0_1) ∧ w'.cell? ⟨gb263, 2, none⟩ = some (.int .i64 a0_2) ∧ w'.cell? ⟨gb263, 3, none⟩ = some (.int .i64 a0_3) ∧ w'.cell? ⟨gb263, 4, none⟩ = some (.int .i64 a0_4) ∧ w'.cell? ⟨gb263, 5, none⟩ = some (.int .i64 a0_5) ∧ w'.cell? ⟨gb263, 6, none⟩ = some (.int .i64 a0_6) ∧ w'.cell? ⟨gb263, 7, none⟩ = some (.int .u64 a0_7)) (ds := []) #[false, false, false, false, false, false, false, false, false, false] (by kernel_rfl) rfl rfl ⟨(blk_cell BK263.out 0).trans rfl, (blk_cell BK263.out 1).trans rfl, (blk_cell BK263.out 2).trans rfl, (blk_cell BK263.out 3).trans rfl, (blk_cell BK263.out 4).trans rfl, (blk_cell BK263.out 5).trans rfl, (blk_cell BK263.out 6).trans rfl, (blk_cell BK263.out 7).trans rfl⟩ (fun hHeld => ?_); refine with_tabW vernierref06_written.tab12 vernierref06_written.bits12 (fun HT_ HW_ => ?_)
                            generalize wc.drew = w38 at BK263 HB hHeld ⊢
                            refine pure_ (i := 0) (N := some 48) (v := ?_) (a' := ?_) #[true, false, false, false, false, false, false, false, false, false] rfl rfl (any_of HT_.out (by kernel_rfl)) (fun _ _ _ h => h) (Or.inl ⟨by rfl, ?_⟩) ?_ ?_
                            rotate_left
                            · intro w'
                              go_simp
                              with_reducible rfl
                            rotate_left
                            · simp only [Act.put, List.setIfInBounds_toArray, List.set_cons_zero, List.set_cons_succ, i64_w, i32_w]
                              rfl
                            refine pure_ (i := 1) (N := some 49) (v := ?_) (a' := ?_) #[true, true, false, false, false, false, false, false, false, false] rfl rfl (any_of HT_.out (by kernel_rfl)) (fun _ _ _ h => h) (Or.inl ⟨by rfl, ?_⟩) ?_ ?_
                            rotate_left
                            · intro w'
                              go_simp
                              with_reducible rfl
                            rotate_left
                            · simp only [Act.put, List.setIfInBounds_toArray, List.set_cons_zero, List.set_cons_succ, i64_w, i32_w]
                              rfl
                            refine pure_ (i := 5) (N := some 53) (v := ?_) (a' := ?_) #[true, true, false, false, false, true, false, false, false, false] rfl rfl (any_of HT_.out (by kernel_rfl)) (fun _ _ _ h => h) (Or.inl ⟨by rfl, ?_⟩) ?_ ?_
                            rotate_left
                            · intro w'
                              go_simp
                              with_reducible rfl
                            rotate_left
                            · simp only [Act.put, List.setIfInBounds_toArray, List.set_cons_zero, List.set_cons_succ, i64_w, i32_w]
                              rfl
                            refine take_ (i := 2) (N := some 50) (v := ?_) (a' := ?_) #[true, true, true, false, false, true, false, false, false, false] rfl rfl (take_ofW HT_.out HW_.out (by kernel_rfl)) (fun _ _ _ h => h) (Or.inl ⟨by rfl, ?_⟩) hHeld ?_ ?_
                            rotate_left
                            · rintro w' ⟨s0, s1, s2, s3, s4, s5, s6, s7⟩
                              go_simp
                              with_reducible rfl
                            rotate_left
                            · simp only [Act.put, List.setIfInBounds_toArray, List.set_cons_zero, List.set_cons_succ, i64_w, i32_w]
                              rfl
                            refine pure_ (i := 3) (N := some 51) (v := ?_) (a' := ?_) #[true, true, true, true, false, true, false, false, false, false] rfl rfl (any_of HT_.out (by kernel_rfl)) (fun _ _ _ h => h) (Or.inl ⟨by rfl, ?_⟩) ?_ ?_
                            rotate_left
                            · intro w'
                              go_simp
                              with_reducible rfl
                            rotate_left
                            · simp only [Act.put, List.setIfInBounds_toArray, List.set_cons_zero, List.set_cons_succ, i64_w, i32_w]
                              rfl
                            refine take_ (i := 6) (N := some 54) (v := ?_) (a' := ?_) #[true, true, true, true, false, true, true, false, false, false] rfl rfl (take_ofW HT_.out HW_.out (by kernel_rfl)) (fun _ _ _ h => h) (Or.inl ⟨by rfl, ?_⟩) hHeld ?_ ?_
                            rotate_left
                            · rintro w' ⟨s0, s1, s2, s3, s4, s5, s6, s7⟩
                              go_simp
                              with_reducible rfl
                            rotate_left
                            · simp only [Act.put, List.setIfInBounds_toArray, List.set_cons_zero, List.set_cons_succ, i64_w, i32_w]
                              rfl
                            refine one_ (i := 4) (N := some 52) #[true, true, true, true, true, true, true, false, false, false] rfl rfl (one_of HT_.out (by kernel_rfl)) (by decide) (fun K hK => ?_)
                            refine goes_ Try.func28 (by kernel_rfl) rfl #[.int .u64 (IntKind.u64.wrap (a0_5)), .int .i64 2] (by rfl) rfl rfl (by (try simp only [List.map_toArray, List.map_cons, List.map_nil]); first | done | rfl | (simp only [List.length_drop, List.length_take]; rfl)) ?_
                            with_reducible refine (vernierref01_Text.calls kj14 (IntKind.u64.wrap (a0_5)) 2 t270 _ A26.out).mono ?_
                            rintro e w39 ⟨rfl, hb⟩
                            refine ⟨_, rfl, ?_⟩
                            have n0_ := Aside0.mk (bB3 BK263.out hb)
                            have n1_ := Aside0.mk (bS3 HB.out hb)
                            clear BK263
                            clear HB
                            have BK263 := n0_
                            have HB := n1_
                            clear n0_ n1_
                            (try clear hb)
                            (try clear hb2)
                            (try clear hk)
                            (try clear hi)
                            refine hK.out _ _ ⟨(blk_cell BK263.out 0).trans rfl, (blk_cell BK263.out 1).trans rfl, (blk_cell BK263.out 2).trans rfl, (blk_cell BK263.out 3).trans rfl, (blk_cell BK263.out 4).trans rfl, (blk_cell BK263.out 5).trans rfl, (blk_cell BK263.out 6).trans rfl, (blk_cell BK263.out 7).trans rfl⟩ (fun hHeld => ?_)
                            clear hK K
                            refine norm_ (a' := ?_) ?_ ?_
                            rotate_left
                            · show Act.put _ (some 52) _ = _
                              simp only [Act.put, List.setIfInBounds_toArray, List.set_cons_zero, List.set_cons_succ, i64_w, i32_w]
                              rfl
                            refine pure_ (i := 7) (N := some 55) (v := ?_) (a' := ?_) #[true, true, true, true, true, true, true, true, false, false] rfl rfl (any_of HT_.out (by kernel_rfl)) (fun _ _ _ h => h) (Or.inl ⟨by rfl, ?_⟩) ?_ ?_
                            rotate_left
                            · intro w'
                              go_simp
                              with_reducible rfl
                            rotate_left
                            · simp only [Act.put, List.setIfInBounds_toArray, List.set_cons_zero, List.set_cons_succ, i64_w, i32_w]
                              rfl
                            refine pure_ (i := 8) (N := some 56) (v := ?_) (a' := ?_) #[true, true, true, true, true, true, true, true, true, false] rfl rfl (any_of HT_.out (by kernel_rfl)) (fun _ _ _ h => h) (Or.inl ⟨by rfl, ?_⟩) ?_ ?_
                            rotate_left
                            · intro w'
                              go_simp
                              with_reducible rfl
                            rotate_left
                            · simp only [Act.put, List.setIfInBounds_toArray, List.set_cons_zero, List.set_cons_succ, i64_w, i32_w]
                              rfl
                            refine pure_ (i := 9) (N := some 6) (v := ?_) (a' := ?_) #[true, true, true, true, true, true, true, true, true, true] rfl rfl (any_of HT_.out (by kernel_rfl)) (fun _ _ _ h => h) (Or.inl ⟨by rfl, ?_⟩) ?_ ?_
                            rotate_left
                            · intro w'
                              go_simp
                              with_reducible rfl
                            rotate_left
                            · simp only [Act.put, List.setIfInBounds_toArray, List.set_cons_zero, List.set_cons_succ, i64_w, i32_w]
                              rfl
                            refine done_ (done_of HT_.out (by kernel_rfl)) ?_
                            have hcz40_0 : w39.cell? ⟨gb263, 0, none⟩ = some (.bool a0_0) := (blk_cell BK263.out 0).trans rfl
                            have hcz40_1 : w39.cell? ⟨gb263, 1, none⟩ = some (.bool a0_1) := (blk_cell BK263.out 1).trans rfl
                            have hcz40_2 : w39.cell? ⟨gb263, 2, none⟩ = some (.int .i64 a0_2) := (blk_cell BK263.out 2).trans rfl
                            have hcz40_3 : w39.cell? ⟨gb263, 3, none⟩ = some (.int .i64 a0_3) := (blk_cell BK263.out 3).trans rfl
                            have hcz40_4 : w39.cell? ⟨gb263, 4, none⟩ = some (.int .i64 a0_4) := (blk_cell BK263.out 4).trans rfl
                            have hcz40_5 : w39.cell? ⟨gb263, 5, none⟩ = some (.int .i64 a0_5) := (blk_cell BK263.out 5).trans rfl
                            have hcz40_6 : w39.cell? ⟨gb263, 6, none⟩ = some (.int .i64 a0_6) := (blk_cell BK263.out 6).trans rfl
                            have hcz40_7 : w39.cell? ⟨gb263, 7, none⟩ = some (.int .u64 a0_7) := (blk_cell BK263.out 7).trans rfl
                            have hfz40_0 := blk_frozen BK263.out 0
                            have hfz40_1 := blk_frozen BK263.out 1
                            have hfz40_2 := blk_frozen BK263.out 2
                            have hfz40_3 := blk_frozen BK263.out 3
                            have hfz40_4 := blk_frozen BK263.out 4
                            have hfz40_5 := blk_frozen BK263.out 5
                            have hfz40_6 := blk_frozen BK263.out 6
                            have hfz40_7 := blk_frozen BK263.out 7
                            try go_wp2
                            go_ret
                            exact ⟨by first | rfl | (simp [errW_none, errW_some] <;> rfl) | (simp [*, errW_none, errW_some] <;> rfl), by repeat (first | (with_reducible first | exact HB.out | apply pA | apply pN | apply p1 | refine pS ?_ GE263.out) | exact HB.out)⟩
                        · rw [if_neg c30] at H
                          have c30b0 : decide (0 ≤ a0_6) = false := decide_eq_false c30
                          clear c30
                          obtain rfl := Option.some.inj H
                          try go_wp2
                          have n0_ := Aside0.mk (bD BK263.out)
                          have n1_ := Aside0.mk (p1 HB.out)
                          clear BK263
                          clear HB
                          have BK263 := n0_
                          have HB := n1_
                          clear n0_ n1_
                          refine start_ (n := 10) (S := fun w' => w'.cell? ⟨gb263, 0, none⟩ = some (.bool a0_0) ∧ w'.cell? ⟨gb263, 1, none⟩ = some (.bool a0_1) ∧ w'.cell? ⟨gb263, 2, none⟩ = some (.int .i64 a0_2) ∧ w'.cell? ⟨gb263, 3, none⟩ = some (.int .i64 a0_3) ∧ w'.cell? ⟨gb263, 4, none⟩ = some (.int .i64 a0_4) ∧ w'.cell? ⟨gb263, 5, none⟩ = some (.int .i64 a0_5) ∧ w'.cell? ⟨gb263, 6, none⟩ = some (.int .i64 a0_6) ∧ w'.cell? ⟨gb263, 7, none⟩ = some (.int .u64 a0_7)) (ds := []) #[false, false, false, false, false, false, false, false, false, false] (by kernel_rfl) rfl rfl ⟨(blk_cell BK263.out 0).trans rfl, (blk_cell BK263.out 1).trans rfl, (blk_cell BK263.out 2).trans rfl, (blk_cell BK263.out 3).trans rfl, (blk_cell BK263.out 4).trans rfl, (blk_cell BK263.out 5).trans rfl, (blk_cell BK263.out 6).trans rfl, (blk_cell BK263.out 7).trans rfl⟩ (fun hHeld => ?_); refine with_tabW vernierref06_written.tab12 vernierref06_written.bits12 (fun HT_ HW_ => ?_)
                          generalize wc.drew = w41 at BK263 HB hHeld ⊢
                          refine pure_ (i := 0) (N := some 48) (v := ?_) (a' := ?_) #[true, false, false, false, false, false, false, false, false, false] rfl rfl (any_of HT_.out (by kernel_rfl)) (fun _ _ _ h => h) (Or.inl ⟨by rfl, ?_⟩) ?_ ?_
                          rotate_left
                          · intro w'
                            go_simp
                            with_reducible rfl
                          rotate_left
                          · simp only [Act.put, List.setIfInBounds_toArray, List.set_cons_zero, List.set_cons_succ, i64_w, i32_w]
                            rfl
                          refine pure_ (i := 1) (N := some 49) (v := ?_) (a' := ?_) #[true, true, false, false, false, false, false, false, false, false] rfl rfl (any_of HT_.out (by kernel_rfl)) (fun _ _ _ h => h) (Or.inl ⟨by rfl, ?_⟩) ?_ ?_
                          rotate_left
                          · intro w'
                            go_simp
                            with_reducible rfl
                          rotate_left
                          · simp only [Act.put, List.setIfInBounds_toArray, List.set_cons_zero, List.set_cons_succ, i64_w, i32_w]
                            rfl
                          refine pure_ (i := 5) (N := some 53) (v := ?_) (a' := ?_) #[true, true, false, false, false, true, false, false, false, false] rfl rfl (any_of HT_.out (by kernel_rfl)) (fun _ _ _ h => h) (Or.inl ⟨by rfl, ?_⟩) ?_ ?_
                          rotate_left
                          · intro w'
                            go_simp
                            with_reducible rfl
                          rotate_left
                          · simp only [Act.put, List.setIfInBounds_toArray, List.set_cons_zero, List.set_cons_succ, i64_w, i32_w]
                            rfl
                          refine take_ (i := 2) (N := some 50) (v := ?_) (a' := ?_) #[true, true, true, false, false, true, false, false, false, false] rfl rfl (take_ofW HT_.out HW_.out (by kernel_rfl)) (fun _ _ _ h => h) (Or.inl ⟨by rfl, ?_⟩) hHeld ?_ ?_
                          rotate_left
                          · rintro w' ⟨s0, s1, s2, s3, s4, s5, s6, s7⟩
                            go_simp
                            with_reducible rfl
                          rotate_left
                          · simp only [Act.put, List.setIfInBounds_toArray, List.set_cons_zero, List.set_cons_succ, i64_w, i32_w]
                            rfl
                          refine pure_ (i := 3) (N := some 51) (v := ?_) (a' := ?_) #[true, true, true, true, false, true, false, false, false, false] rfl rfl (any_of HT_.out (by kernel_rfl)) (fun _ _ _ h => h) (Or.inl ⟨by rfl, ?_⟩) ?_ ?_
                          rotate_left
                          · intro w'
                            go_simp
                            with_reducible rfl
                          rotate_left
                          · simp only [Act.put, List.setIfInBounds_toArray, List.set_cons_zero, List.set_cons_succ, i64_w, i32_w]
                            rfl
                          refine take_ (i := 6) (N := some 54) (v := ?_) (a' := ?_) #[true, true, true, true, false, true, true, false, false, false] rfl rfl (take_ofW HT_.out HW_.out (by kernel_rfl)) (fun _ _ _ h => h) (Or.inl ⟨by rfl, ?_⟩) hHeld ?_ ?_
                          rotate_left
                          · rintro w' ⟨s0, s1, s2, s3, s4, s5, s6, s7⟩
                            go_simp
                            with_reducible rfl
                          rotate_left
                          · simp only [Act.put, List.setIfInBounds_toArray, List.set_cons_zero, List.set_cons_succ, i64_w, i32_w]
                            rfl
                          refine one_ (i := 4) (N := some 52) #[true, true, true, true, true, true, true, false, false, false] rfl rfl (one_of HT_.out (by kernel_rfl)) (by decide) (fun K hK => ?_)
                          refine goes_ Try.func28 (by kernel_rfl) rfl #[.int .u64 (IntKind.u64.wrap (a0_5)), .int .i64 2] (by rfl) rfl rfl (by (try simp only [List.map_toArray, List.map_cons, List.map_nil]); first | done | rfl | (simp only [List.length_drop, List.length_take]; rfl)) ?_
                          with_reducible refine (vernierref01_Text.calls kj14 (IntKind.u64.wrap (a0_5)) 2 t270 _ A26.out).mono ?_
                          rintro e w42 ⟨rfl, hb⟩
                          refine ⟨_, rfl, ?_⟩
                          have n0_ := Aside0.mk (bB3 BK263.out hb)
                          have n1_ := Aside0.mk (bS3 HB.out hb)
                          clear BK263
                          clear HB
                          have BK263 := n0_
                          have HB := n1_
                          clear n0_ n1_
                          (try clear hb)
                          (try clear hb2)
                          (try clear hk)
                          (try clear hi)
                          refine hK.out _ _ ⟨(blk_cell BK263.out 0).trans rfl, (blk_cell BK263.out 1).trans rfl, (blk_cell BK263.out 2).trans rfl, (blk_cell BK263.out 3).trans rfl, (blk_cell BK263.out 4).trans rfl, (blk_cell BK263.out 5).trans rfl, (blk_cell BK263.out 6).trans rfl, (blk_cell BK263.out 7).trans rfl⟩ (fun hHeld => ?_)
                          clear hK K
                          refine norm_ (a' := ?_) ?_ ?_
                          rotate_left
                          · show Act.put _ (some 52) _ = _
                            simp only [Act.put, List.setIfInBounds_toArray, List.set_cons_zero, List.set_cons_succ, i64_w, i32_w]
                            rfl
                          refine pure_ (i := 7) (N := some 55) (v := ?_) (a' := ?_) #[true, true, true, true, true, true, true, true, false, false] rfl rfl (any_of HT_.out (by kernel_rfl)) (fun _ _ _ h => h) (Or.inl ⟨by rfl, ?_⟩) ?_ ?_
                          rotate_left
                          · intro w'
                            go_simp
                            with_reducible rfl
                          rotate_left
                          · simp only [Act.put, List.setIfInBounds_toArray, List.set_cons_zero, List.set_cons_succ, i64_w, i32_w]
                            rfl
                          refine pure_ (i := 8) (N := some 56) (v := ?_) (a' := ?_) #[true, true, true, true, true, true, true, true, true, false] rfl rfl (any_of HT_.out (by kernel_rfl)) (fun _ _ _ h => h) (Or.inl ⟨by rfl, ?_⟩) ?_ ?_
                          rotate_left
                          · intro w'
                            go_simp
                            with_reducible rfl
                          rotate_left
                          · simp only [Act.put, List.setIfInBounds_toArray, List.set_cons_zero, List.set_cons_succ, i64_w, i32_w]
                            rfl
                          refine pure_ (i := 9) (N := some 6) (v := ?_) (a' := ?_) #[true, true, true, true, true, true, true, true, true, true] rfl rfl (any_of HT_.out (by kernel_rfl)) (fun _ _ _ h => h) (Or.inl ⟨by rfl, ?_⟩) ?_ ?_
                          rotate_left
                          · intro w'
                            go_simp
                            with_reducible rfl
                          rotate_left
                          · simp only [Act.put, List.setIfInBounds_toArray, List.set_cons_zero, List.set_cons_succ, i64_w, i32_w]
                            rfl
                          refine done_ (done_of HT_.out (by kernel_rfl)) ?_
                          have hcz43_0 : w42.cell? ⟨gb263, 0, none⟩ = some (.bool a0_0) := (blk_cell BK263.out 0).trans rfl
                          have hcz43_1 : w42.cell? ⟨gb263, 1, none⟩ = some (.bool a0_1) := (blk_cell BK263.out 1).trans rfl
                          have hcz43_2 : w42.cell? ⟨gb263, 2, none⟩ = some (.int .i64 a0_2) := (blk_cell BK263.out 2).trans rfl
                          have hcz43_3 : w42.cell? ⟨gb263, 3, none⟩ = some (.int .i64 a0_3) := (blk_cell BK263.out 3).trans rfl
                          have hcz43_4 : w42.cell? ⟨gb263, 4, none⟩ = some (.int .i64 a0_4) := (blk_cell BK263.out 4).trans rfl
                          have hcz43_5 : w42.cell? ⟨gb263, 5, none⟩ = some (.int .i64 a0_5) := (blk_cell BK263.out 5).trans rfl
                          have hcz43_6 : w42.cell? ⟨gb263, 6, none⟩ = some (.int .i64 a0_6) := (blk_cell BK263.out 6).trans rfl
                          have hcz43_7 : w42.cell? ⟨gb263, 7, none⟩ = some (.int .u64 a0_7) := (blk_cell BK263.out 7).trans rfl
                          have hfz43_0 := blk_frozen BK263.out 0
                          have hfz43_1 := blk_frozen BK263.out 1
                          have hfz43_2 := blk_frozen BK263.out 2
                          have hfz43_3 := blk_frozen BK263.out 3
                          have hfz43_4 := blk_frozen BK263.out 4
                          have hfz43_5 := blk_frozen BK263.out 5
                          have hfz43_6 := blk_frozen BK263.out 6
                          have hfz43_7 := blk_frozen BK263.out 7
                          try go_wp2
                          go_ret
                          exact ⟨by first | rfl | (simp [errW_none, errW_some] <;> rfl) | (simp [*, errW_none, errW_some] <;> rfl), by repeat (first | (with_reducible first | exact HB.out | apply pA | apply pN | apply p1 | refine pS ?_ GE263.out) | exact HB.out)⟩
                      · rw [if_neg c29] at H
                        exact absurd H (by simp)
                    · rw [if_neg c28] at H
                      exact absurd H (by simp)
                  · rw [if_neg c27] at H
                    exact absurd H (by simp)
                · replace c25 := Bool.eq_false_iff.mpr c25
                  subst c25
                  have H1 : (if a0_6 ≥ 0 then (if a0_6 ≤ 64 then ((vernierref01_Text.f kj14 a0_7 a0_6).bind fun t272 => (if (strOfNums y267).size + t272.size ≤ 9223372036854775807 then (some ((strOfNums y267) ++ t272)) else (none))) else (some (strOfNums y267))) else (some (strOfNums y267))) = some r := by rw [if_neg (show ¬ (false = true) by decide)] at H; exact H
                  clear H
                  have H := H1
                  clear H1
                  by_cases c44 : a0_6 ≥ 0
                  · rw [if_pos c44] at H
                    have c44b0 : decide (0 ≤ a0_6) = true := decide_eq_true c44
                    clear c44
                    by_cases c45 : a0_6 ≤ 64
                    · rw [if_pos c45] at H
                      have c45b0 : decide (a0_6 ≤ 64) = true := decide_eq_true c45
                      clear c45
                      replace H := Option.bind_eq_some_iff.mp H
                      obtain ⟨t272, A460, H⟩ := H
                      replace H : (if (strOfNums y267).size + t272.size ≤ 9223372036854775807 then (some ((strOfNums y267) ++ t272)) else (none)) = some r := H
                      have A46 := Aside0.mk A460
                      clear A460
                      by_cases c47 : (strOfNums y267).size + t272.size ≤ 9223372036854775807
                      · rw [if_pos c47] at H
                        have c47b0 := eq_true c47
                        have c47b1 : decide ((strOfNums y267).size + t272.size ≤ 9223372036854775807) = true := decide_eq_true c47
                        try have c47b2 : (9223372036854775807 < (strOfNums y267).size + t272.size) = False := eq_false (Nat.not_lt.2 c47)
                        obtain rfl := Option.some.inj H
                        have hcz48_0 : wc.cell? ⟨gb263, 0, none⟩ = some (.bool a0_0) := (blk_cell BK263.out 0).trans rfl
                        have hcz48_1 : wc.cell? ⟨gb263, 1, none⟩ = some (.bool a0_1) := (blk_cell BK263.out 1).trans rfl
                        have hcz48_2 : wc.cell? ⟨gb263, 2, none⟩ = some (.int .i64 a0_2) := (blk_cell BK263.out 2).trans rfl
                        have hcz48_3 : wc.cell? ⟨gb263, 3, none⟩ = some (.int .i64 a0_3) := (blk_cell BK263.out 3).trans rfl
                        have hcz48_4 : wc.cell? ⟨gb263, 4, none⟩ = some (.int .i64 a0_4) := (blk_cell BK263.out 4).trans rfl
                        have hcz48_5 : wc.cell? ⟨gb263, 5, none⟩ = some (.int .i64 a0_5) := (blk_cell BK263.out 5).trans rfl
                        have hcz48_6 : wc.cell? ⟨gb263, 6, none⟩ = some (.int .i64 a0_6) := (blk_cell BK263.out 6).trans rfl
                        have hcz48_7 : wc.cell? ⟨gb263, 7, none⟩ = some (.int .u64 a0_7) := (blk_cell BK263.out 7).trans rfl
                        have hfz48_0 := blk_frozen BK263.out 0
                        have hfz48_1 := blk_frozen BK263.out 1
                        have hfz48_2 := blk_frozen BK263.out 2
                        have hfz48_3 := blk_frozen BK263.out 3
                        have hfz48_4 := blk_frozen BK263.out 4
                        have hfz48_5 := blk_frozen BK263.out 5
                        have hfz48_6 := blk_frozen BK263.out 6
                        have hfz48_7 := blk_frozen BK263.out 7
                        go_wp2_with (first | ((with_reducible refine gC (f := 28) rfl ?_); (with_reducible refine gD (N := 70) rfl ?_); refine goesY_ (some 70) Try.func28 #[.int .u64 a0_7, .int .i64 a0_6] ?_; (with_reducible refine (vernierref01_Text.calls kj14 a0_7 a0_6 t272 _ A46.out).mono ?_); rintro e w49 ⟨rfl, hb⟩; refine ⟨_, rfl, ?_⟩; have n0_ := Aside0.mk (bB3 BK263.out hb); have n1_ := Aside0.mk (bS3 HB.out hb); clear BK263; clear HB; have BK263 := n0_; have HB := n1_; clear n0_ n1_; (try clear hb); (try clear hb2); (try clear hk); (try clear hi)))
                        go_ret
                        exact ⟨by first | rfl | (simp [errW_none, errW_some] <;> rfl) | (simp [*, errW_none, errW_some] <;> rfl), by repeat (first | (with_reducible first | exact HB.out | apply pA | apply pN | apply p1 | refine pS ?_ GE263.out) | exact HB.out)⟩
                      · rw [if_neg c47] at H
                        exact absurd H (by simp)
                    · rw [if_neg c45] at H
                      have c45b0 : decide (a0_6 ≤ 64) = false := decide_eq_false c45
                      clear c45
                      obtain rfl := Option.some.inj H
                      have hcz50_0 : wc.cell? ⟨gb263, 0, none⟩ = some (.bool a0_0) := (blk_cell BK263.out 0).trans rfl
                      have hcz50_1 : wc.cell? ⟨gb263, 1, none⟩ = some (.bool a0_1) := (blk_cell BK263.out 1).trans rfl
                      have hcz50_2 : wc.cell? ⟨gb263, 2, none⟩ = some (.int .i64 a0_2) := (blk_cell BK263.out 2).trans rfl
                      have hcz50_3 : wc.cell? ⟨gb263, 3, none⟩ = some (.int .i64 a0_3) := (blk_cell BK263.out 3).trans rfl
                      have hcz50_4 : wc.cell? ⟨gb263, 4, none⟩ = some (.int .i64 a0_4) := (blk_cell BK263.out 4).trans rfl
                      have hcz50_5 : wc.cell? ⟨gb263, 5, none⟩ = some (.int .i64 a0_5) := (blk_cell BK263.out 5).trans rfl
                      have hcz50_6 : wc.cell? ⟨gb263, 6, none⟩ = some (.int .i64 a0_6) := (blk_cell BK263.out 6).trans rfl
                      have hcz50_7 : wc.cell? ⟨gb263, 7, none⟩ = some (.int .u64 a0_7) := (blk_cell BK263.out 7).trans rfl
                      have hfz50_0 := blk_frozen BK263.out 0
                      have hfz50_1 := blk_frozen BK263.out 1
                      have hfz50_2 := blk_frozen BK263.out 2
                      have hfz50_3 := blk_frozen BK263.out 3
                      have hfz50_4 := blk_frozen BK263.out 4
                      have hfz50_5 := blk_frozen BK263.out 5
                      have hfz50_6 := blk_frozen BK263.out 6
                      have hfz50_7 := blk_frozen BK263.out 7
                      go_wp2
                      go_ret
                      exact ⟨by first | rfl | (simp [errW_none, errW_some] <;> rfl) | (simp [*, errW_none, errW_some] <;> rfl), by repeat (first | (with_reducible first | exact HB.out | apply pA | apply pN | apply p1 | refine pS ?_ GE263.out) | exact HB.out)⟩
                  · rw [if_neg c44] at H
                    have c44b0 : decide (0 ≤ a0_6) = false := decide_eq_false c44
                    clear c44
                    obtain rfl := Option.some.inj H
                    have hcz51_0 : wc.cell? ⟨gb263, 0, none⟩ = some (.bool a0_0) := (blk_cell BK263.out 0).trans rfl
                    have hcz51_1 : wc.cell? ⟨gb263, 1, none⟩ = some (.bool a0_1) := (blk_cell BK263.out 1).trans rfl
                    have hcz51_2 : wc.cell? ⟨gb263, 2, none⟩ = some (.int .i64 a0_2) := (blk_cell BK263.out 2).trans rfl
                    have hcz51_3 : wc.cell? ⟨gb263, 3, none⟩ = some (.int .i64 a0_3) := (blk_cell BK263.out 3).trans rfl
                    have hcz51_4 : wc.cell? ⟨gb263, 4, none⟩ = some (.int .i64 a0_4) := (blk_cell BK263.out 4).trans rfl
                    have hcz51_5 : wc.cell? ⟨gb263, 5, none⟩ = some (.int .i64 a0_5) := (blk_cell BK263.out 5).trans rfl
                    have hcz51_6 : wc.cell? ⟨gb263, 6, none⟩ = some (.int .i64 a0_6) := (blk_cell BK263.out 6).trans rfl
                    have hcz51_7 : wc.cell? ⟨gb263, 7, none⟩ = some (.int .u64 a0_7) := (blk_cell BK263.out 7).trans rfl
                    have hfz51_0 := blk_frozen BK263.out 0
                    have hfz51_1 := blk_frozen BK263.out 1
                    have hfz51_2 := blk_frozen BK263.out 2
                    have hfz51_3 := blk_frozen BK263.out 3
                    have hfz51_4 := blk_frozen BK263.out 4
                    have hfz51_5 := blk_frozen BK263.out 5
                    have hfz51_6 := blk_frozen BK263.out 6
                    have hfz51_7 := blk_frozen BK263.out 7
                    go_wp2
                    go_ret
                    exact ⟨by first | rfl | (simp [errW_none, errW_some] <;> rfl) | (simp [*, errW_none, errW_some] <;> rfl), by repeat (first | (with_reducible first | exact HB.out | apply pA | apply pN | apply p1 | refine pS ?_ GE263.out) | exact HB.out)⟩
          · rw [if_neg c14] at H
            exact absurd H (by simp)

end Go.Proofs.Ytmofdimkdkfdgaa.F
