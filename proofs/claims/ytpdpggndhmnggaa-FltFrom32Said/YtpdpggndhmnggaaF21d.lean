/- Functions of the given program as plain Lean functions, and for each a proof that the program's call comes to just these answers; no further conditions. (Written by a program of this repo out of the translation.) -/
import Derived.Test.YtpdpggndhmnggaaF0d
import Derived.Test.YtpdpggndhmnggaaF19d
import Derived.Test.YtpdpggndhmnggaaF20d
namespace Go.Proofs.Ytpdpggndhmnggaa.F
open Go.RowKit Go.Proofs.YtpdpggndhmnggaaW.PrintWords Go.Proofs.YtpdpggndhmnggaaW.PrintLast Go.Proofs.YtpdpggndhmnggaaW.PrintMore
attribute [local go_sem high] xor_u64 xor_u32 eqErr25 neErr25 eqErrL25 neErrL25
attribute [local go_sem] max2_int min2_int max_two min_two max_three min_three max_four min_four   -- for this text's walks alone
set_option linter.unusedVariables false
set_option linter.unusedSimpArgs false
mutual
def vernierref06_Head.l0 : Nat → Int → Int → List Int → Int → Option (ByteArray)
 | 0, _, _, _, _ => none
 | k + 1, x0, x3, x4, x5 => if x5 ≤ x3 then (if x4.length < 140737488355328 then (vernierref06_Head.l0 k x0 x3 (x4 ++ [49]) (wrap64 (x5 + 1))) else (none)) else (vernierref06_Head.l1 k x0 x3 x4 0)
def vernierref06_Head.l1 : Nat → Int → Int → List Int → Int → Option (ByteArray)
 | 0, _, _, _, _ => none
 | k + 1, x0, x3, x4, x6 => if x6 > x3 then (if x4.length < 140737488355328 then (vernierref06_Head.l1 k x0 x3 (x4 ++ [48]) (wrap64 (x6 - 1))) else (none)) else (if x3 ≥ 0 then (if x4.length < 140737488355328 then ((some (x4 ++ [48] : List Int)).bind fun y418 => ((vernierref01_Text.f k (IntKind.u64.wrap (wrap64 (x0 - (wrap64 (4 * x3))))) 2).bind fun t421 => (if (strOfNums y418).size + t421.size ≤ 9223372036854775807 then (some ((strOfNums y418) ++ t421)) else (none)))) else (none)) else (if x4.length < 140737488355328 then ((some (x4 ++ [49] : List Int)).bind fun y422 => ((vernierref01_Text.f k (IntKind.u64.wrap (wrap64 (x0 - (wrap64 (4 * x3))))) 2).bind fun t425 => (if (strOfNums y422).size + t425.size ≤ 9223372036854775807 then (some ((strOfNums y422) ++ t425)) else (none)))) else (none)))
end
def vernierref06_Head.f (k : Nat) (a0 : Int) : Option (ByteArray) := (vernierref06_regime.f a0).bind fun t411 => (vernierref06_Head.l0 k a0 t411 ([] : List Int) 0)
def vernierref06_Head.T14 : Bool × List (List Nat × List Nat) := (true, [([], []), ([0], [0]), ([], []), ([], []), ([3], [3]), ([2, 4], [2, 4]), ([5], [5]), ([6], [6]), ([1, 7], [1, 7]), ([8, 7, 0, 1, 2, 3, 4, 5, 6, 7, 8], [8])])
def vernierref06_Head.B14 : List Nat := [0, 1, 0, 0, 8, 28, 60, 124, 255, 511]
theorem vernierref06_Head.tab14 : rtab .any (opsOf Try.f104 14) = vernierref06_Head.T14 := by kernel_rfl
theorem vernierref06_Head.bits14 : waitsOk vernierref06_Head.T14.2 vernierref06_Head.B14 = true := by kernel_rfl
set_option maxHeartbeats 8000000 in
set_option maxRecDepth 100000 in
theorem vernierref06_Head.calls (k : Nat) (a0 : Int) (r : ByteArray) (w : World) (h : vernierref06_Head.f k a0 = some r) :
  Calls Try.prog 104 #[.int .i64 a0] w fun e w' => e = .returned (.string r) ∧ Below w.heap.size w w' := by
 have HB := Aside0.mk (Below.refl w.heap.size w)
 have H : ((vernierref06_regime.f a0).bind fun t411 => (vernierref06_Head.l0 k a0 t411 ([] : List Int) 0)) = some r := h
 clear h
 replace H := Option.bind_eq_some_iff.mp H
 obtain ⟨t411, A20, H⟩ := H
 try dsimp -simprocs only at H
 have A2 := Aside0.mk A20
 clear A20
 have H' := Aside0.mk H
 clear H
 go_enter Try.func104, Try.ntmps104
 go_wp2_with (first | ((with_reducible refine gX_ 110 8 rfl rfl ?_); refine goesY_ (some 8) Try.func110 #[.int .i64 a0] ?_; (with_reducible refine (vernierref06_regime.calls a0 t411 _ A2.out).mono ?_); rintro e w' ⟨rfl, ⟨nd, rfl⟩⟩; refine ⟨_, rfl, ?_⟩))
 go_loopg [4, 5] k (fun kq v4 v5 w' => ∃ (x4_1 : List Int) (x5_1 : Int), v5 = .int .i64 x5_1 ∧ Aside0 (vernierref06_Head.l0 kq a0 t411 x4_1 x5_1 = some r) ∧ Aside0 (kq ≤ k) ∧ Aside0 (Kd.R (Kd.int .u8) 5 w' w.heap.size (fun _ => True) v4 x4_1) ∧ Aside0 (Below w.heap.size w w'))
 case atStart => exact ⟨(([] : List Int)), (0), (by first | rfl | (simp; done) | (simp [*]; done)), H', ⟨Nat.le_refl _⟩, ⟨by first | exact Kd.R_nil _ _ _ _ _ | exact Kd.N_nil _ _ _ _ _ | exact Kd.V_nil _ _ _ _ _ | exact Kd.Q_nil _ _ _ _ _ | exact Kd.S_nil _ _ _ _ _⟩, ⟨bR3 HB.out⟩⟩
 case round =>
  clear H'
  try clear c1
  try clear p2
  obtain ⟨x4_1, x5_1, rfl, HA, HK1, HO_4, HB⟩ := hrel
  cases gk with
  | zero => exact absurd HA.out (by simp [vernierref06_Head.l0])
  | succ k1 =>
   have H := HA.out
   clear HA
   simp only [vernierref06_Head.l0] at H
   by_cases c3 : x5_1 ≤ t411
   ·
    rw [if_pos c3] at H
    have c3b0 : decide (x5_1 ≤ t411) = true := decide_eq_true c3
    clear c3
    by_cases c4 : x4_1.length < 140737488355328
    ·
     rw [if_pos c4] at H
     have LMc4 := Aside0.mk c4
     clear c4
     obtain ⟨y412, hy412⟩ : ∃ y_ : List Int, y_ = (x4_1 ++ [49]) := ⟨_, rfl⟩
     replace H : (vernierref06_Head.l0 k1 a0 t411 y412 (wrap64 (x5_1 + 1))) = some r := by first | (rw [hy412]; with_reducible exact H) | (have H2_ := (Option.bind_some _ _).symm.trans H; rw [hy412]; with_reducible exact H2_) | (have H2_ := (Option.bind_some _ _).symm.trans H; with_reducible exact H2_) | with_reducible exact H | (rw [hy412]; exact H) | exact H
     have Ny412 := Aside0.mk hy412
     clear hy412
     have H' := Aside0.mk H
     clear H
     go_wp2_with (first | ((with_reducible refine gate_builtin (b := .append) (xs := #[.tmp 14, .tmp 15]) rfl ?_); at_builtin; refine Kd.R_append (Kd.int .u8) (w0 := w) w.heap.size rfl (.tmp 14) (.tmp 15) 137 5 (.int .u8 0) 1 rfl Try.underlying137 info5 rfl (by decide) (by omega) u4 x4_1 49 [.int .u8 49] (fun _ => True) (fun _ => False) rfl rfl ?aP (fun _ hk => hk.elim) ?aF ?aO ?aB ?aS ?aL ?_; (case aP => exact rfl); (case aB => exact (bR3 HB.out)); (case aF => exact (fun _ _ => trivial)); (case aO => exact (by (with_reducible repeat (first | apply Kd.R_alloc | apply Kd.R_drewN | apply Kd.R_drew)); exact HO_4.out)); (case aS => exact (bZ (bR3 HB.out))); (case aL => have := LMc4.out; omega); intro v413 w5 ho hb hg hat; rw [← Ny412.out] at ho; replace HB := Aside0.mk (hb); have HO414 := Aside0.mk (ho); clear HO_4; clear ho hb hg hat))
     go_roundg k1
     case measure => have := HK1.out; omega
     case rel => exact ⟨(y412), (wrap64 (x5_1 + 1)), (by first | rfl | (simp; done) | (simp [*]; done)), H', ⟨by have := HK1.out; omega⟩, ⟨by (with_reducible repeat (first | apply Kd.R_alloc | apply Kd.R_drewN | apply Kd.R_drew)); exact HO414.out⟩, ⟨bR3 HB.out⟩⟩
    ·
     rw [if_neg c4] at H
     exact absurd H (by simp)
   ·
    rw [if_neg c3] at H
    have c3b0 : decide (x5_1 ≤ t411) = false := decide_eq_false c3
    clear c3
    have H' := Aside0.mk H
    clear H
    go_wp2
    go_loopg [4, 6] k1 (fun kq v4 v6 w' => ∃ (x4_2 : List Int) (x6_2 : Int), v6 = .int .i64 x6_2 ∧ Aside0 (vernierref06_Head.l1 kq a0 t411 x4_2 x6_2 = some r) ∧ Aside0 (kq ≤ k1) ∧ Aside0 (Kd.R (Kd.int .u8) 5 w' w.heap.size (fun _ => True) v4 x4_2) ∧ Aside0 (Below w.heap.size w w'))
    case atStart => exact ⟨(x4_1), (0), (by first | rfl | (simp; done) | (simp [*]; done)), H', ⟨Nat.le_refl _⟩, ⟨by (with_reducible repeat (first | apply Kd.R_alloc | apply Kd.R_drewN | apply Kd.R_drew)); exact HO_4.out⟩, ⟨bR3 HB.out⟩⟩
    case round =>
     clear H'
     try clear c1
     try clear p2
     try clear c3
     try clear c3b0
     try clear c4
     try clear p2
     obtain ⟨x4_2, x6_2, rfl, HA, HK2, HO_4, HB⟩ := hrel
     cases gk with
     | zero => exact absurd HA.out (by simp [vernierref06_Head.l1])
     | succ k2 =>
      have H := HA.out
      clear HA
      simp only [vernierref06_Head.l1] at H
      by_cases c6 : x6_2 > t411
      ·
       rw [if_pos c6] at H
       have c6b0 : decide (t411 < x6_2) = true := decide_eq_true c6
       clear c6
       by_cases c7 : x4_2.length < 140737488355328
       ·
        rw [if_pos c7] at H
        have LMc7 := Aside0.mk c7
        clear c7
        obtain ⟨y415, hy415⟩ : ∃ y_ : List Int, y_ = (x4_2 ++ [48]) := ⟨_, rfl⟩
        replace H : (vernierref06_Head.l1 k2 a0 t411 y415 (wrap64 (x6_2 - 1))) = some r := by first | (rw [hy415]; with_reducible exact H) | (have H2_ := (Option.bind_some _ _).symm.trans H; rw [hy415]; with_reducible exact H2_) | (have H2_ := (Option.bind_some _ _).symm.trans H; with_reducible exact H2_) | with_reducible exact H | (rw [hy415]; exact H) | exact H
        have Ny415 := Aside0.mk hy415
        clear hy415
        have H' := Aside0.mk H
        clear H
        go_wp2_with (first | ((with_reducible refine gate_builtin (b := .append) (xs := #[.tmp 22, .tmp 23]) rfl ?_); at_builtin; refine Kd.R_append (Kd.int .u8) (w0 := w) w.heap.size rfl (.tmp 22) (.tmp 23) 137 5 (.int .u8 0) 1 rfl Try.underlying137 info5 rfl (by decide) (by omega) u4 x4_2 48 [.int .u8 48] (fun _ => True) (fun _ => False) rfl rfl ?aP (fun _ hk => hk.elim) ?aF ?aO ?aB ?aS ?aL ?_; (case aP => exact rfl); (case aB => exact (bR3 HB.out)); (case aF => exact (fun _ _ => trivial)); (case aO => exact (by (with_reducible repeat (first | apply Kd.R_alloc | apply Kd.R_drewN | apply Kd.R_drew)); exact HO_4.out)); (case aS => exact (bZ (bR3 HB.out))); (case aL => have := LMc7.out; omega); intro v416 w8 ho hb hg hat; rw [← Ny415.out] at ho; replace HB := Aside0.mk (hb); have HO417 := Aside0.mk (ho); clear HO_4; clear ho hb hg hat))
        go_roundg k2
        case measure => have := HK1.out; have := HK2.out; omega
        case rel => exact ⟨(y415), (wrap64 (x6_2 - 1)), (by first | rfl | (simp; done) | (simp [*]; done)), H', ⟨by have := HK1.out; have := HK2.out; omega⟩, ⟨by (with_reducible repeat (first | apply Kd.R_alloc | apply Kd.R_drewN | apply Kd.R_drew)); exact HO417.out⟩, ⟨bR3 HB.out⟩⟩
       ·
        rw [if_neg c7] at H
        exact absurd H (by simp)
      ·
       rw [if_neg c6] at H
       have c6b0 : decide (t411 < x6_2) = false := decide_eq_false c6
       clear c6
       by_cases c9 : t411 ≥ 0
       ·
        rw [if_pos c9] at H
        have c9b0 : decide (0 ≤ t411) = true := decide_eq_true c9
        clear c9
        by_cases c10 : x4_2.length < 140737488355328
        ·
         rw [if_pos c10] at H
         have LMc10 := Aside0.mk c10
         clear c10
         obtain ⟨y418, hy418⟩ : ∃ y_ : List Int, y_ = (x4_2 ++ [48]) := ⟨_, rfl⟩
         replace H : ((vernierref01_Text.f k2 (IntKind.u64.wrap (wrap64 (a0 - (wrap64 (4 * t411))))) 2).bind fun t421 => (if (strOfNums y418).size + t421.size ≤ 9223372036854775807 then (some ((strOfNums y418) ++ t421)) else (none))) = some r := by first | (rw [hy418]; with_reducible exact H) | (have H2_ := (Option.bind_some _ _).symm.trans H; rw [hy418]; with_reducible exact H2_) | (have H2_ := (Option.bind_some _ _).symm.trans H; with_reducible exact H2_) | with_reducible exact H | (rw [hy418]; exact H) | exact H
         have Ny418 := Aside0.mk hy418
         clear hy418
         replace H := Option.bind_eq_some_iff.mp H
         obtain ⟨t421, A110, H⟩ := H
         try dsimp -simprocs only at H
         have A11 := Aside0.mk A110
         clear A110
         by_cases c12 : (strOfNums y418).size + t421.size ≤ 9223372036854775807
         ·
          rw [if_pos c12] at H
          have c12b0 := eq_true c12
          have c12b1 : decide ((strOfNums y418).size + t421.size ≤ 9223372036854775807) = true := decide_eq_true c12
          try have c12b2 : (9223372036854775807 < (strOfNums y418).size + t421.size) = False := eq_false (Nat.not_lt.2 c12)
          obtain rfl := Option.some.inj H
          try go_wp2_with (first | ((with_reducible refine gate_builtin (b := .append) (xs := #[.tmp 27, .tmp 28]) rfl ?_); at_builtin; refine Kd.R_append (Kd.int .u8) (w0 := w) w.heap.size rfl (.tmp 27) (.tmp 28) 137 5 (.int .u8 0) 1 rfl Try.underlying137 info5 rfl (by decide) (by omega) u4 x4_2 48 [.int .u8 48] (fun _ => True) (fun _ => False) rfl rfl ?aP (fun _ hk => hk.elim) ?aF ?aO ?aB ?aS ?aL ?_; (case aP => exact rfl); (case aB => exact (bR3 HB.out)); (case aF => exact (fun _ _ => trivial)); (case aO => exact (by (with_reducible repeat (first | apply Kd.R_alloc | apply Kd.R_drewN | apply Kd.R_drew)); exact HO_4.out)); (case aS => exact (bZ (bR3 HB.out))); (case aL => have := LMc10.out; omega); intro v419 w13 ho hb hg hat; rw [← Ny418.out] at ho; replace HB := Aside0.mk (hb); have HO420 := Aside0.mk (ho); clear HO_4; clear ho hb hg hat))
          have n0_ := Aside0.mk (Kd.R_drew HO420.out)
          have n1_ := Aside0.mk (p1 HB.out)
          clear HO420
          clear HB
          have HO420 := n0_
          have HB := n1_
          clear n0_ n1_
          have hcv15 := own_string (P := Try.prog) Try.underlying137 Try.underlying5 Try.underlying9 (Kd.own_of_R HO420.out)
          refine start_ (n := 10) (S := fun w' => (convert 137 9 v419).run Try.prog w' = .ok (.string (strOfNums y418)) w') (ds := []) #[false, false, false, false, false, false, false, false, false, false] (by kernel_rfl) rfl rfl hcv15 (fun hHeld => ?_); refine with_tabW vernierref06_Head.tab14 vernierref06_Head.bits14 (fun HT_ HW_ => ?_)
          generalize w13.drew = w14 at HO420 HB hHeld ⊢
          refine pure_ (i := 0) (N := some 33) (v := ?_) (a' := ?_) #[true, false, false, false, false, false, false, false, false, false] rfl rfl (any_of HT_.out (by kernel_rfl)) (fun _ _ _ h => h) (Or.inl ⟨by rfl, ?_⟩) ?_ ?_
          rotate_left
          ·
           intro w'
           go_simp
           with_reducible rfl
          rotate_left
          ·
           simp only [Act.put, lS_, lZ_, lC_, i64_w, i32_w]
           rfl
          refine take_ (i := 1) (N := some 34) (v := ?_) (a' := ?_) #[true, true, false, false, false, false, false, false, false, false] rfl rfl (take_ofW HT_.out HW_.out (by kernel_rfl)) (fun _ _ _ h => h) (Or.inl ⟨by rfl, ?_⟩) hHeld ?_ ?_
          rotate_left
          ·
           intro w' hS_
           go_simp
           with_reducible rfl
          rotate_left
          ·
           simp only [Act.put, lS_, lZ_, lC_, i64_w, i32_w]
           rfl
          refine pure_ (i := 2) (N := some 35) (v := ?_) (a' := ?_) #[true, true, true, false, false, false, false, false, false, false] rfl rfl (any_of HT_.out (by kernel_rfl)) (fun _ _ _ h => h) (Or.inl ⟨by rfl, ?_⟩) ?_ ?_
          rotate_left
          ·
           intro w'
           go_simp
           with_reducible rfl
          rotate_left
          ·
           simp only [Act.put, lS_, lZ_, lC_, i64_w, i32_w]
           rfl
          refine pure_ (i := 3) (N := some 36) (v := ?_) (a' := ?_) #[true, true, true, true, false, false, false, false, false, false] rfl rfl (any_of HT_.out (by kernel_rfl)) (fun _ _ _ h => h) (Or.inl ⟨by rfl, ?_⟩) ?_ ?_
          rotate_left
          ·
           intro w'
           go_simp
           with_reducible rfl
          rotate_left
          ·
           simp only [Act.put, lS_, lZ_, lC_, i64_w, i32_w]
           rfl
          refine pure_ (i := 4) (N := some 37) (v := ?_) (a' := ?_) #[true, true, true, true, true, false, false, false, false, false] rfl rfl (any_of HT_.out (by kernel_rfl)) (fun _ _ _ h => h) (Or.inl ⟨by rfl, ?_⟩) ?_ ?_
          rotate_left
          ·
           intro w'
           go_simp
           with_reducible rfl
          rotate_left
          ·
           simp only [Act.put, lS_, lZ_, lC_, i64_w, i32_w]
           rfl
          refine pure_ (i := 5) (N := some 38) (v := ?_) (a' := ?_) #[true, true, true, true, true, true, false, false, false, false] rfl rfl (any_of HT_.out (by kernel_rfl)) (fun _ _ _ h => h) (Or.inl ⟨by rfl, ?_⟩) ?_ ?_
          rotate_left
          ·
           intro w'
           go_simp
           with_reducible rfl
          rotate_left
          ·
           simp only [Act.put, lS_, lZ_, lC_, i64_w, i32_w]
           rfl
          refine pure_ (i := 6) (N := some 39) (v := ?_) (a' := ?_) #[true, true, true, true, true, true, true, false, false, false] rfl rfl (any_of HT_.out (by kernel_rfl)) (fun _ _ _ h => h) (Or.inl ⟨by rfl, ?_⟩) ?_ ?_
          rotate_left
          ·
           intro w'
           go_simp
           with_reducible rfl
          rotate_left
          ·
           simp only [Act.put, lS_, lZ_, lC_, i64_w, i32_w]
           rfl
          refine one_ (i := 7) (N := some 40) #[true, true, true, true, true, true, true, true, false, false] rfl rfl (one_of HT_.out (by kernel_rfl)) (by decide) (fun K hK => ?_)
          refine goes_ Try.func74 (by kernel_rfl) rfl #[.int .u64 (IntKind.u64.wrap (wrap64 (a0 - (wrap64 (4 * t411))))), .int .i64 2] (by rfl) rfl rfl (by (try simp only [List.map_toArray, List.map_cons, List.map_nil]); first | done | rfl | (simp only [List.length_drop, List.length_take]; rfl)) ?_
          with_reducible refine (vernierref01_Text.calls k2 (IntKind.u64.wrap (wrap64 (a0 - (wrap64 (4 * t411))))) 2 t421 _ A11.out).mono ?_
          rintro e w16 ⟨rfl, hb⟩
          refine ⟨_, rfl, ?_⟩
          have n0_ := Aside0.mk (Kd.R_below (by (with_reducible repeat (first | apply Kd.R_alloc | apply Kd.R_drewN | apply Kd.R_drew)); exact HO420.out) hb)
          have n1_ := Aside0.mk (bS3 HB.out hb)
          clear HO420
          clear HB
          have HO420 := n0_
          have HB := n1_
          clear n0_ n1_
          (try clear hb)
          (try clear hb2)
          (try clear hk)
          (try clear hi)
          refine hK.out _ _ (own_string (P := Try.prog) Try.underlying137 Try.underlying5 Try.underlying9 (Kd.own_of_R HO420.out)) (fun hHeld => ?_)
          clear hK K
          refine norm_ (a' := ?_) ?_ ?_
          rotate_left
          ·
           show Act.put _ (some 40) _ = _
           simp only [Act.put, lS_, lZ_, lC_, i64_w, i32_w]
           rfl
          refine pure_ (i := 8) (N := some 41) (v := ?_) (a' := ?_) #[true, true, true, true, true, true, true, true, true, false] rfl rfl (any_of HT_.out (by kernel_rfl)) (fun _ _ _ h => h) (Or.inl ⟨by rfl, ?_⟩) ?_ ?_
          rotate_left
          ·
           intro w'
           go_simp
           with_reducible rfl
          rotate_left
          ·
           simp only [Act.put, lS_, lZ_, lC_, i64_w, i32_w]
           rfl
          refine pure_ (i := 9) (N := some 2) (v := ?_) (a' := ?_) #[true, true, true, true, true, true, true, true, true, true] rfl rfl (any_of HT_.out (by kernel_rfl)) (fun _ _ _ h => h) (Or.inl ⟨by rfl, ?_⟩) ?_ ?_
          rotate_left
          ·
           intro w'
           go_simp
           with_reducible rfl
          rotate_left
          ·
           simp only [Act.put, lS_, lZ_, lC_, i64_w, i32_w]
           rfl
          refine done_ (done_of HT_.out (by kernel_rfl)) ?_
          try go_wp2
          go_ret
          exact ⟨eR3, bR3 HB.out⟩
         ·
          rw [if_neg c12] at H
          exact absurd H (by simp)
        ·
         rw [if_neg c10] at H
         exact absurd H (by simp)
       ·
        rw [if_neg c9] at H
        have c9b0 : decide (0 ≤ t411) = false := decide_eq_false c9
        clear c9
        by_cases c18 : x4_2.length < 140737488355328
        ·
         rw [if_pos c18] at H
         have LMc18 := Aside0.mk c18
         clear c18
         obtain ⟨y422, hy422⟩ : ∃ y_ : List Int, y_ = (x4_2 ++ [49]) := ⟨_, rfl⟩
         replace H : ((vernierref01_Text.f k2 (IntKind.u64.wrap (wrap64 (a0 - (wrap64 (4 * t411))))) 2).bind fun t425 => (if (strOfNums y422).size + t425.size ≤ 9223372036854775807 then (some ((strOfNums y422) ++ t425)) else (none))) = some r := by first | (rw [hy422]; with_reducible exact H) | (have H2_ := (Option.bind_some _ _).symm.trans H; rw [hy422]; with_reducible exact H2_) | (have H2_ := (Option.bind_some _ _).symm.trans H; with_reducible exact H2_) | with_reducible exact H | (rw [hy422]; exact H) | exact H
         have Ny422 := Aside0.mk hy422
         clear hy422
         replace H := Option.bind_eq_some_iff.mp H
         obtain ⟨t425, A190, H⟩ := H
         try dsimp -simprocs only at H
         have A19 := Aside0.mk A190
         clear A190
         by_cases c20 : (strOfNums y422).size + t425.size ≤ 9223372036854775807
         ·
          rw [if_pos c20] at H
          have c20b0 := eq_true c20
          have c20b1 : decide ((strOfNums y422).size + t425.size ≤ 9223372036854775807) = true := decide_eq_true c20
          try have c20b2 : (9223372036854775807 < (strOfNums y422).size + t425.size) = False := eq_false (Nat.not_lt.2 c20)
          obtain rfl := Option.some.inj H
          try go_wp2_with (first | ((with_reducible refine gate_builtin (b := .append) (xs := #[.tmp 30, .tmp 31]) rfl ?_); at_builtin; refine Kd.R_append (Kd.int .u8) (w0 := w) w.heap.size rfl (.tmp 30) (.tmp 31) 137 5 (.int .u8 0) 1 rfl Try.underlying137 info5 rfl (by decide) (by omega) u4 x4_2 49 [.int .u8 49] (fun _ => True) (fun _ => False) rfl rfl ?aP (fun _ hk => hk.elim) ?aF ?aO ?aB ?aS ?aL ?_; (case aP => exact rfl); (case aB => exact (bR3 HB.out)); (case aF => exact (fun _ _ => trivial)); (case aO => exact (by (with_reducible repeat (first | apply Kd.R_alloc | apply Kd.R_drewN | apply Kd.R_drew)); exact HO_4.out)); (case aS => exact (bZ (bR3 HB.out))); (case aL => have := LMc18.out; omega); intro v423 w21 ho hb hg hat; rw [← Ny422.out] at ho; replace HB := Aside0.mk (hb); have HO424 := Aside0.mk (ho); clear HO_4; clear ho hb hg hat))
          have n0_ := Aside0.mk (Kd.R_drew HO424.out)
          have n1_ := Aside0.mk (p1 HB.out)
          clear HO424
          clear HB
          have HO424 := n0_
          have HB := n1_
          clear n0_ n1_
          have hcv23 := own_string (P := Try.prog) Try.underlying137 Try.underlying5 Try.underlying9 (Kd.own_of_R HO424.out)
          refine start_ (n := 10) (S := fun w' => (convert 137 9 v423).run Try.prog w' = .ok (.string (strOfNums y422)) w') (ds := []) #[false, false, false, false, false, false, false, false, false, false] (by kernel_rfl) rfl rfl hcv23 (fun hHeld => ?_); refine with_tabW vernierref06_Head.tab14 vernierref06_Head.bits14 (fun HT_ HW_ => ?_)
          generalize w21.drew = w22 at HO424 HB hHeld ⊢
          refine pure_ (i := 0) (N := some 33) (v := ?_) (a' := ?_) #[true, false, false, false, false, false, false, false, false, false] rfl rfl (any_of HT_.out (by kernel_rfl)) (fun _ _ _ h => h) (Or.inl ⟨by rfl, ?_⟩) ?_ ?_
          rotate_left
          ·
           intro w'
           go_simp
           with_reducible rfl
          rotate_left
          ·
           simp only [Act.put, lS_, lZ_, lC_, i64_w, i32_w]
           rfl
          refine take_ (i := 1) (N := some 34) (v := ?_) (a' := ?_) #[true, true, false, false, false, false, false, false, false, false] rfl rfl (take_ofW HT_.out HW_.out (by kernel_rfl)) (fun _ _ _ h => h) (Or.inl ⟨by rfl, ?_⟩) hHeld ?_ ?_
          rotate_left
          ·
           intro w' hS_
           go_simp
           with_reducible rfl
          rotate_left
          ·
           simp only [Act.put, lS_, lZ_, lC_, i64_w, i32_w]
           rfl
          refine pure_ (i := 2) (N := some 35) (v := ?_) (a' := ?_) #[true, true, true, false, false, false, false, false, false, false] rfl rfl (any_of HT_.out (by kernel_rfl)) (fun _ _ _ h => h) (Or.inl ⟨by rfl, ?_⟩) ?_ ?_
          rotate_left
          ·
           intro w'
           go_simp
           with_reducible rfl
          rotate_left
          ·
           simp only [Act.put, lS_, lZ_, lC_, i64_w, i32_w]
           rfl
          refine pure_ (i := 3) (N := some 36) (v := ?_) (a' := ?_) #[true, true, true, true, false, false, false, false, false, false] rfl rfl (any_of HT_.out (by kernel_rfl)) (fun _ _ _ h => h) (Or.inl ⟨by rfl, ?_⟩) ?_ ?_
          rotate_left
          ·
           intro w'
           go_simp
           with_reducible rfl
          rotate_left
          ·
           simp only [Act.put, lS_, lZ_, lC_, i64_w, i32_w]
           rfl
          refine pure_ (i := 4) (N := some 37) (v := ?_) (a' := ?_) #[true, true, true, true, true, false, false, false, false, false] rfl rfl (any_of HT_.out (by kernel_rfl)) (fun _ _ _ h => h) (Or.inl ⟨by rfl, ?_⟩) ?_ ?_
          rotate_left
          ·
           intro w'
           go_simp
           with_reducible rfl
          rotate_left
          ·
           simp only [Act.put, lS_, lZ_, lC_, i64_w, i32_w]
           rfl
          refine pure_ (i := 5) (N := some 38) (v := ?_) (a' := ?_) #[true, true, true, true, true, true, false, false, false, false] rfl rfl (any_of HT_.out (by kernel_rfl)) (fun _ _ _ h => h) (Or.inl ⟨by rfl, ?_⟩) ?_ ?_
          rotate_left
          ·
           intro w'
           go_simp
           with_reducible rfl
          rotate_left
          ·
           simp only [Act.put, lS_, lZ_, lC_, i64_w, i32_w]
           rfl
          refine pure_ (i := 6) (N := some 39) (v := ?_) (a' := ?_) #[true, true, true, true, true, true, true, false, false, false] rfl rfl (any_of HT_.out (by kernel_rfl)) (fun _ _ _ h => h) (Or.inl ⟨by rfl, ?_⟩) ?_ ?_
          rotate_left
          ·
           intro w'
           go_simp
           with_reducible rfl
          rotate_left
          ·
           simp only [Act.put, lS_, lZ_, lC_, i64_w, i32_w]
           rfl
          refine one_ (i := 7) (N := some 40) #[true, true, true, true, true, true, true, true, false, false] rfl rfl (one_of HT_.out (by kernel_rfl)) (by decide) (fun K hK => ?_)
          refine goes_ Try.func74 (by kernel_rfl) rfl #[.int .u64 (IntKind.u64.wrap (wrap64 (a0 - (wrap64 (4 * t411))))), .int .i64 2] (by rfl) rfl rfl (by (try simp only [List.map_toArray, List.map_cons, List.map_nil]); first | done | rfl | (simp only [List.length_drop, List.length_take]; rfl)) ?_
          with_reducible refine (vernierref01_Text.calls k2 (IntKind.u64.wrap (wrap64 (a0 - (wrap64 (4 * t411))))) 2 t425 _ A19.out).mono ?_
          rintro e w24 ⟨rfl, hb⟩
          refine ⟨_, rfl, ?_⟩
          have n0_ := Aside0.mk (Kd.R_below (by (with_reducible repeat (first | apply Kd.R_alloc | apply Kd.R_drewN | apply Kd.R_drew)); exact HO424.out) hb)
          have n1_ := Aside0.mk (bS3 HB.out hb)
          clear HO424
          clear HB
          have HO424 := n0_
          have HB := n1_
          clear n0_ n1_
          (try clear hb)
          (try clear hb2)
          (try clear hk)
          (try clear hi)
          refine hK.out _ _ (own_string (P := Try.prog) Try.underlying137 Try.underlying5 Try.underlying9 (Kd.own_of_R HO424.out)) (fun hHeld => ?_)
          clear hK K
          refine norm_ (a' := ?_) ?_ ?_
          rotate_left
          ·
           show Act.put _ (some 40) _ = _
           simp only [Act.put, lS_, lZ_, lC_, i64_w, i32_w]
           rfl
          refine pure_ (i := 8) (N := some 41) (v := ?_) (a' := ?_) #[true, true, true, true, true, true, true, true, true, false] rfl rfl (any_of HT_.out (by kernel_rfl)) (fun _ _ _ h => h) (Or.inl ⟨by rfl, ?_⟩) ?_ ?_
          rotate_left
          ·
           intro w'
           go_simp
           with_reducible rfl
          rotate_left
          ·
           simp only [Act.put, lS_, lZ_, lC_, i64_w, i32_w]
           rfl
          refine pure_ (i := 9) (N := some 2) (v := ?_) (a' := ?_) #[true, true, true, true, true, true, true, true, true, true] rfl rfl (any_of HT_.out (by kernel_rfl)) (fun _ _ _ h => h) (Or.inl ⟨by rfl, ?_⟩) ?_ ?_
          rotate_left
          ·
           intro w'
           go_simp
           with_reducible rfl
          rotate_left
          ·
           simp only [Act.put, lS_, lZ_, lC_, i64_w, i32_w]
           rfl
          refine done_ (done_of HT_.out (by kernel_rfl)) ?_
          try go_wp2
          go_ret
          exact ⟨eR3, bR3 HB.out⟩
         ·
          rw [if_neg c20] at H
          exact absurd H (by simp)
        ·
         rw [if_neg c18] at H
         exact absurd H (by simp)
end Go.Proofs.Ytpdpggndhmnggaa.F
