/- Functions of the given program as plain Lean functions, and for each a proof that the program's call comes to just these answers; no further conditions. (Written by a program of this repo out of the translation.) -/
import Derived.Test.YtlllaoihpkdpmaaDoorF0b
import Derived.Test.YtlllaoihpkdpmaaDoorF5b
import Derived.Test.YtlllaoihpkdpmaaDoorF7b
import Derived.Test.YtlllaoihpkdpmaaDoorF11b
import Derived.Test.YtlllaoihpkdpmaaDoorF21b
namespace Go.Proofs.YtlllaoihpkdpmaaDoor.F
open Go.RowKit Go.Proofs.YtlllaoihpkdpmaaDoorW.PrintWords Go.Proofs.YtlllaoihpkdpmaaDoorW.PrintLast Go.Proofs.YtlllaoihpkdpmaaDoorW.PrintMore
attribute [local go_sem high] xor_u64 xor_u32 eqErr25 neErr25 eqErrL25 neErrL25
attribute [local go_sem] max2_int min2_int max_two min_two max_three min_three max_four min_four   -- for this text's walks alone
set_option linter.unusedVariables false
set_option linter.unusedSimpArgs false
mutual
def vernierlaw16_IntsModes.j0 : Nat → Bool → Int → Bool → Int → Int → Int → Int → Int → Int → Int → Bool → Option (Bool)
  | 0, _, _, _, _, _, _, _, _, _, _, _ => none
  | k + 1, x5, x6, x7, x9, x11, x13, x15, x19, x21, x23, x157 => if x157 = true then (some false) else ((ints_IsWhole.f k x6 x11).bind fun bt621 => ((ints_IsWhole.f k x6 x13).bind fun bt623 => (if bt621.2.isNone = true then (if bt623.2.isNone = true then (if bt621.1 = true then (if bt623.1 = true then (if x9 = x11 then (vernierlaw16_IntsModes.j1 k x5 x7 x11 x13 x15 x19 x21 x23 false) else (vernierlaw16_IntsModes.j1 k x5 x7 x11 x13 x15 x19 x21 x23 (x9 != x13))) else (vernierlaw16_IntsModes.j1 k x5 x7 x11 x13 x15 x19 x21 x23 true)) else (vernierlaw16_IntsModes.j1 k x5 x7 x11 x13 x15 x19 x21 x23 true)) else (vernierlaw16_IntsModes.j1 k x5 x7 x11 x13 x15 x19 x21 x23 true)) else (vernierlaw16_IntsModes.j1 k x5 x7 x11 x13 x15 x19 x21 x23 true))))
def vernierlaw16_IntsModes.j1 : Nat → Bool → Bool → Int → Int → Int → Int → Int → Int → Bool → Option (Bool)
  | 0, _, _, _, _, _, _, _, _, _ => none
  | k + 1, x5, x7, x11, x13, x15, x19, x21, x23, x193 => if x193 = true then (some false) else (if x19 = 0 then (if (x7 != (x21 == 0)) = true then (some false) else (if (x7 != (x11 == x13)) = true then (some false) else (if x5 = true then (if x15 = x11 then (if x15 = x13 then (some true) else (some (decide (x23 ≥ 0)))) else (if x23 < 0 then (if x15 = x13 then (some true) else (some (decide (x23 ≥ 0)))) else (some false))) else (some false)))) else (if (x7 != false) = true then (some false) else (if (x7 != (x11 == x13)) = true then (some false) else (if x5 = true then (if x15 = x11 then (if x15 = x13 then (some true) else (some (decide (x23 ≥ 0)))) else (if x23 < 0 then (if x15 = x13 then (some true) else (some (decide (x23 ≥ 0)))) else (some false))) else (some false)))))
end
def vernierlaw16_IntsModes.f (k : Nat) (a0 : Int) (a1 : Int) : Option (Bool) := (vernierlaw16_shown.f k).bind fun t595 => ((vernierlaw16_width.f k a0).bind fun t596 => ((ints_IsWhole.f k t596 a1).bind fun bt597 => ((ints_Whole.f k t596 a1 0).bind fun bt599 => ((ints_Whole.f k t596 a1 1).bind fun bt601 => ((ints_Whole.f k t596 a1 2).bind fun bt603 => ((ints_Whole.f k t596 a1 3).bind fun bt605 => (if bt597.2.isNone = true then ((order_Cmp.f t596 bt601.1 a1).bind fun bt608 => ((order_Cmp.f t596 a1 bt603.1).bind fun bt610 => ((order_Sign.f t596 a1).bind fun bt612 => (if bt599.2.isNone = true then (if bt601.2.isNone = true then (if bt603.2.isNone = true then (if bt605.2.isNone = true then (if bt608.2.isNone = true then (if bt610.2.isNone = true then (if bt612.2.isNone = true then (if bt608.1 > 0 then (vernierlaw16_IntsModes.j0 k t595 t596 bt597.1 bt599.1 bt601.1 bt603.1 bt605.1 bt608.1 bt610.1 bt612.1 true) else (vernierlaw16_IntsModes.j0 k t595 t596 bt597.1 bt599.1 bt601.1 bt603.1 bt605.1 bt608.1 bt610.1 bt612.1 (decide (bt610.1 > 0)))) else (vernierlaw16_IntsModes.j0 k t595 t596 bt597.1 bt599.1 bt601.1 bt603.1 bt605.1 bt608.1 bt610.1 bt612.1 true)) else (vernierlaw16_IntsModes.j0 k t595 t596 bt597.1 bt599.1 bt601.1 bt603.1 bt605.1 bt608.1 bt610.1 bt612.1 true)) else (vernierlaw16_IntsModes.j0 k t595 t596 bt597.1 bt599.1 bt601.1 bt603.1 bt605.1 bt608.1 bt610.1 bt612.1 true)) else (vernierlaw16_IntsModes.j0 k t595 t596 bt597.1 bt599.1 bt601.1 bt603.1 bt605.1 bt608.1 bt610.1 bt612.1 true)) else (vernierlaw16_IntsModes.j0 k t595 t596 bt597.1 bt599.1 bt601.1 bt603.1 bt605.1 bt608.1 bt610.1 bt612.1 true)) else (vernierlaw16_IntsModes.j0 k t595 t596 bt597.1 bt599.1 bt601.1 bt603.1 bt605.1 bt608.1 bt610.1 bt612.1 true)) else (vernierlaw16_IntsModes.j0 k t595 t596 bt597.1 bt599.1 bt601.1 bt603.1 bt605.1 bt608.1 bt610.1 bt612.1 true))))) else ((vernierlaw16_nar.f k t596).bind fun t627 => ((order_Cmp.f t596 a1 t627).bind fun bt628 => (if t595 = true then (if (bt597.2.getD 0) = 9 then (if bt599.2.isNone = true then (some false) else (if (bt599.2.getD 0) = 9 then (if bt601.2.isNone = true then (some false) else (if (bt601.2.getD 0) = 9 then (if bt603.2.isNone = true then (some false) else (if (bt603.2.getD 0) = 9 then (if bt605.2.isNone = true then (some false) else (if (bt605.2.getD 0) = 9 then (if bt628.1 = 0 then (if bt628.2.isNone = true then (some true) else (some false)) else (some false)) else (some false))) else (some false))) else (some false))) else (some false))) else (some false)) else (some false)))))))))))
set_option maxHeartbeats 8000000 in
set_option maxRecDepth 100000 in
theorem vernierlaw16_IntsModes.calls (k : Nat) (a0 : Int) (a1 : Int) (r : Bool) (w : World) (HT : Tz w) (h : vernierlaw16_IntsModes.f k a0 a1 = some r) :
    Calls Tryd.prog 4 #[.int .i64 a0, .int .u64 a1] w fun e w' => e = .returned (.bool r) ∧ Below w.heap.size w w' := by
  have hu25 := Tryd.underlying25
  have hu40 := Tryd.underlying40
  have HB := Aside0.mk (Below.refl w.heap.size w)
  have H : ((vernierlaw16_shown.f k).bind fun t595 => ((vernierlaw16_width.f k a0).bind fun t596 => ((ints_IsWhole.f k t596 a1).bind fun bt597 => ((ints_Whole.f k t596 a1 0).bind fun bt599 => ((ints_Whole.f k t596 a1 1).bind fun bt601 => ((ints_Whole.f k t596 a1 2).bind fun bt603 => ((ints_Whole.f k t596 a1 3).bind fun bt605 => (if bt597.2.isNone = true then ((order_Cmp.f t596 bt601.1 a1).bind fun bt608 => ((order_Cmp.f t596 a1 bt603.1).bind fun bt610 => ((order_Sign.f t596 a1).bind fun bt612 => (if bt599.2.isNone = true then (if bt601.2.isNone = true then (if bt603.2.isNone = true then (if bt605.2.isNone = true then (if bt608.2.isNone = true then (if bt610.2.isNone = true then (if bt612.2.isNone = true then (if bt608.1 > 0 then (vernierlaw16_IntsModes.j0 k t595 t596 bt597.1 bt599.1 bt601.1 bt603.1 bt605.1 bt608.1 bt610.1 bt612.1 true) else (vernierlaw16_IntsModes.j0 k t595 t596 bt597.1 bt599.1 bt601.1 bt603.1 bt605.1 bt608.1 bt610.1 bt612.1 (decide (bt610.1 > 0)))) else (vernierlaw16_IntsModes.j0 k t595 t596 bt597.1 bt599.1 bt601.1 bt603.1 bt605.1 bt608.1 bt610.1 bt612.1 true)) else (vernierlaw16_IntsModes.j0 k t595 t596 bt597.1 bt599.1 bt601.1 bt603.1 bt605.1 bt608.1 bt610.1 bt612.1 true)) else (vernierlaw16_IntsModes.j0 k t595 t596 bt597.1 bt599.1 bt601.1 bt603.1 bt605.1 bt608.1 bt610.1 bt612.1 true)) else (vernierlaw16_IntsModes.j0 k t595 t596 bt597.1 bt599.1 bt601.1 bt603.1 bt605.1 bt608.1 bt610.1 bt612.1 true)) else (vernierlaw16_IntsModes.j0 k t595 t596 bt597.1 bt599.1 bt601.1 bt603.1 bt605.1 bt608.1 bt610.1 bt612.1 true)) else (vernierlaw16_IntsModes.j0 k t595 t596 bt597.1 bt599.1 bt601.1 bt603.1 bt605.1 bt608.1 bt610.1 bt612.1 true)) else (vernierlaw16_IntsModes.j0 k t595 t596 bt597.1 bt599.1 bt601.1 bt603.1 bt605.1 bt608.1 bt610.1 bt612.1 true))))) else ((vernierlaw16_nar.f k t596).bind fun t627 => ((order_Cmp.f t596 a1 t627).bind fun bt628 => (if t595 = true then (if (bt597.2.getD 0) = 9 then (if bt599.2.isNone = true then (some false) else (if (bt599.2.getD 0) = 9 then (if bt601.2.isNone = true then (some false) else (if (bt601.2.getD 0) = 9 then (if bt603.2.isNone = true then (some false) else (if (bt603.2.getD 0) = 9 then (if bt605.2.isNone = true then (some false) else (if (bt605.2.getD 0) = 9 then (if bt628.1 = 0 then (if bt628.2.isNone = true then (some true) else (some false)) else (some false)) else (some false))) else (some false))) else (some false))) else (some false))) else (some false)) else (some false)))))))))))) = some r := h
  clear h
  replace H := Option.bind_eq_some_iff.mp H
  obtain ⟨t595, A30, H⟩ := H
  try dsimp -simprocs only at H
  have A3 := Aside0.mk A30
  clear A30
  replace H := Option.bind_eq_some_iff.mp H
  obtain ⟨t596, A40, H⟩ := H
  try dsimp -simprocs only at H
  have A4 := Aside0.mk A40
  clear A40
  replace H := Option.bind_eq_some_iff.mp H
  obtain ⟨⟨t597, t598⟩, A50, H⟩ := H
  try dsimp -simprocs only at H
  have A5 := Aside0.mk A50
  clear A50
  replace H := Option.bind_eq_some_iff.mp H
  obtain ⟨⟨t599, t600⟩, A60, H⟩ := H
  try dsimp -simprocs only at H
  have A6 := Aside0.mk A60
  clear A60
  replace H := Option.bind_eq_some_iff.mp H
  obtain ⟨⟨t601, t602⟩, A70, H⟩ := H
  try dsimp -simprocs only at H
  have A7 := Aside0.mk A70
  clear A70
  replace H := Option.bind_eq_some_iff.mp H
  obtain ⟨⟨t603, t604⟩, A80, H⟩ := H
  try dsimp -simprocs only at H
  have A8 := Aside0.mk A80
  clear A80
  replace H := Option.bind_eq_some_iff.mp H
  obtain ⟨⟨t605, t606⟩, A90, H⟩ := H
  try dsimp -simprocs only at H
  have A9 := Aside0.mk A90
  clear A90
  rcases t598 with _ | q607
  · rw [if_pos (show (none : Option Int).isNone = true by rfl)] at H
    try simp only [Option.getD_some] at H
    try simp only [errW_none, errW_some]
    replace H := Option.bind_eq_some_iff.mp H
    obtain ⟨⟨t608, t609⟩, A100, H⟩ := H
    try dsimp -simprocs only at H
    have A10 := Aside0.mk A100
    clear A100
    replace H := Option.bind_eq_some_iff.mp H
    obtain ⟨⟨t610, t611⟩, A110, H⟩ := H
    try dsimp -simprocs only at H
    have A11 := Aside0.mk A110
    clear A110
    replace H := Option.bind_eq_some_iff.mp H
    obtain ⟨⟨t612, t613⟩, A120, H⟩ := H
    try dsimp -simprocs only at H
    have A12 := Aside0.mk A120
    clear A120
    have HC13 := Aside0.mk H
    clear H
    go_enter Tryd.func4, Tryd.ntmps4
    go_upto_region 14 with (first | ((with_reducible refine gC (f := 5) rfl ?_); (with_reducible refine gD (N := 27) rfl ?_); refine goesY_ (some 27) Tryd.func5 #[] ?_; (with_reducible refine (vernierlaw16_shown.calls k  t595 _ A3.out).mono ?_); rintro e w14 ⟨rfl, hb⟩; refine ⟨_, rfl, ?_⟩; have n0_ := Aside0.mk (bS3 HB.out hb); clear HB; have HB := n0_; clear n0_; (try clear hb); (try clear hb2); (try clear hk); (try clear hi)) | ((with_reducible refine gC (f := 11) rfl ?_); (with_reducible refine gD (N := 29) rfl ?_); refine goesY_ (some 29) Tryd.func11 #[.int .i64 a0] ?_; (with_reducible refine (vernierlaw16_width.calls k a0 t596 _ A4.out).mono ?_); rintro e w' ⟨rfl, ⟨nd, rfl⟩⟩; refine ⟨_, rfl, ?_⟩) | ((with_reducible refine gC (f := 7) rfl ?_); (with_reducible refine gD (N := 33) rfl ?_); refine goesY_ (some 33) Tryd.func7 #[.int .i64 t596, .int .u64 a1] ?_; (with_reducible refine (ints_IsWhole.calls k t596 a1 t597 none _ (tz3 HT) A5.out).mono ?_); rintro e w15 ⟨rfl, hb⟩; refine ⟨_, rfl, ?_⟩; have n0_ := Aside0.mk (bS3 HB.out hb); clear HB; have HB := n0_; clear n0_; (try clear hb); (try clear hb2); (try clear hk); (try clear hi); (try simp only [errW_none, errW_some])) | ((with_reducible refine gC (f := 6) rfl ?_); (with_reducible refine gD (N := 39) rfl ?_); refine goesY_ (some 39) Tryd.func6 #[.int .i64 t596, .int .u64 a1, .int .i64 0] ?_; (with_reducible refine (ints_Whole.calls k t596 a1 0 t599 t600 _ A6.out).mono ?_); rintro e w16 ⟨rfl, hb⟩; refine ⟨_, rfl, ?_⟩; have n0_ := Aside0.mk (bS3 HB.out hb); clear HB; have HB := n0_; clear n0_; (try clear hb); (try clear hb2); (try clear hk); (try clear hi); (try simp only [errW_none, errW_some])) | ((with_reducible refine gC (f := 6) rfl ?_); (with_reducible refine gD (N := 45) rfl ?_); refine goesY_ (some 45) Tryd.func6 #[.int .i64 t596, .int .u64 a1, .int .i64 1] ?_; (with_reducible refine (ints_Whole.calls k t596 a1 1 t601 t602 _ A7.out).mono ?_); rintro e w17 ⟨rfl, hb⟩; refine ⟨_, rfl, ?_⟩; have n0_ := Aside0.mk (bS3 HB.out hb); clear HB; have HB := n0_; clear n0_; (try clear hb); (try clear hb2); (try clear hk); (try clear hi); (try simp only [errW_none, errW_some])) | ((with_reducible refine gC (f := 6) rfl ?_); (with_reducible refine gD (N := 51) rfl ?_); refine goesY_ (some 51) Tryd.func6 #[.int .i64 t596, .int .u64 a1, .int .i64 2] ?_; (with_reducible refine (ints_Whole.calls k t596 a1 2 t603 t604 _ A8.out).mono ?_); rintro e w18 ⟨rfl, hb⟩; refine ⟨_, rfl, ?_⟩; have n0_ := Aside0.mk (bS3 HB.out hb); clear HB; have HB := n0_; clear n0_; (try clear hb); (try clear hb2); (try clear hk); (try clear hi); (try simp only [errW_none, errW_some])) | ((with_reducible refine gC (f := 6) rfl ?_); (with_reducible refine gD (N := 57) rfl ?_); refine goesY_ (some 57) Tryd.func6 #[.int .i64 t596, .int .u64 a1, .int .i64 3] ?_; (with_reducible refine (ints_Whole.calls k t596 a1 3 t605 t606 _ A9.out).mono ?_); rintro e w19 ⟨rfl, hb⟩; refine ⟨_, rfl, ?_⟩; have n0_ := Aside0.mk (bS3 HB.out hb); clear HB; have HB := n0_; clear n0_; (try clear hb); (try clear hb2); (try clear hk); (try clear hi); (try simp only [errW_none, errW_some])) | ((with_reducible refine gC (f := 12) rfl ?_); (with_reducible refine gD (N := 108) rfl ?_); refine goesY_ (some 108) Tryd.func12 #[.int .i64 t596, .int .u64 t601, .int .u64 a1] ?_; (with_reducible refine (order_Cmp.calls t596 t601 a1 t608 t609 _ A10.out).mono ?_); rintro e w' ⟨rfl, ⟨nd, rfl⟩⟩; refine ⟨_, rfl, ?_⟩; (try simp only [errW_none, errW_some])) | ((with_reducible refine gC (f := 12) rfl ?_); (with_reducible refine gD (N := 115) rfl ?_); refine goesY_ (some 115) Tryd.func12 #[.int .i64 t596, .int .u64 a1, .int .u64 t603] ?_; (with_reducible refine (order_Cmp.calls t596 a1 t603 t610 t611 _ A11.out).mono ?_); rintro e w' ⟨rfl, ⟨nd, rfl⟩⟩; refine ⟨_, rfl, ?_⟩; (try simp only [errW_none, errW_some])) | ((with_reducible refine gC (f := 14) rfl ?_); (with_reducible refine gD (N := 121) rfl ?_); refine goesY_ (some 121) Tryd.func14 #[.int .i64 t596, .int .u64 a1] ?_; (with_reducible refine (order_Sign.calls t596 a1 t612 t613 _ A12.out).mono ?_); rintro e w' ⟨rfl, ⟨nd, rfl⟩⟩; refine ⟨_, rfl, ?_⟩; (try simp only [errW_none, errW_some])))
    (try simp only [Act.put, List.setIfInBounds_toArray, List.set_cons_zero, List.set_cons_succ])
    go_cut [157] (fun v157 wc => ∃ (kq : Nat) (x157_12 : Bool), v157 = .bool x157_12 ∧ Aside0 (vernierlaw16_IntsModes.j0 kq t595 t596 t597 t599 t601 t603 t605 t608 t610 t612 x157_12 = some r) ∧ Aside0 (kq ≤ k) ∧ Aside0 (Below w.heap.size w wc))
    case first =>
      have H := HC13.out
      clear HC13
      rcases t600 with _ | q614
      · rw [if_pos (show (none : Option Int).isNone = true by rfl)] at H
        try simp only [Option.getD_some] at H
        try simp only [errW_none, errW_some]
        rcases t602 with _ | q615
        · rw [if_pos (show (none : Option Int).isNone = true by rfl)] at H
          try simp only [Option.getD_some] at H
          try simp only [errW_none, errW_some]
          rcases t604 with _ | q616
          · rw [if_pos (show (none : Option Int).isNone = true by rfl)] at H
            try simp only [Option.getD_some] at H
            try simp only [errW_none, errW_some]
            rcases t606 with _ | q617
            · rw [if_pos (show (none : Option Int).isNone = true by rfl)] at H
              try simp only [Option.getD_some] at H
              try simp only [errW_none, errW_some]
              rcases t609 with _ | q618
              · rw [if_pos (show (none : Option Int).isNone = true by rfl)] at H
                try simp only [Option.getD_some] at H
                try simp only [errW_none, errW_some]
                rcases t611 with _ | q619
                · rw [if_pos (show (none : Option Int).isNone = true by rfl)] at H
                  try simp only [Option.getD_some] at H
                  try simp only [errW_none, errW_some]
                  rcases t613 with _ | q620
                  · rw [if_pos (show (none : Option Int).isNone = true by rfl)] at H
                    try simp only [Option.getD_some] at H
                    try simp only [errW_none, errW_some]
                    by_cases c20 : t608 > 0
                    · rw [if_pos c20] at H
                      have c20b0 : decide (0 < t608) = true := decide_eq_true c20
                      clear c20
                      (first | rw [c20b0] | (simp only [i64_w, i32_w]; rw [c20b0]) | skip)
                      have H' := Aside0.mk H
                      clear H
                      as_aux_lemma =>
                        go_wp2
                        go_meet
                        case rel => exact ⟨_, (true), (by first | rfl | (simp; done) | (simp [*]; done)), H', ⟨by first | omega | exact Nat.le_refl _⟩, ⟨bR3 HB.out⟩⟩
                    · rw [if_neg c20] at H
                      have c20b0 : decide (0 < t608) = false := decide_eq_false c20
                      clear c20
                      (first | rw [c20b0] | (simp only [i64_w, i32_w]; rw [c20b0]) | skip)
                      have H' := Aside0.mk H
                      clear H
                      as_aux_lemma =>
                        go_wp2
                        go_meet
                        case rel => exact ⟨_, (decide (t610 > 0)), (by first | rfl | (simp; done) | (simp [*]; done)), H', ⟨by first | omega | exact Nat.le_refl _⟩, ⟨bR3 HB.out⟩⟩
                  · rw [if_neg (show ¬ (some q620).isNone = true by simp)] at H
                    try simp only [Option.getD_some] at H
                    try simp only [errW_none, errW_some]
                    have H' := Aside0.mk H
                    clear H
                    as_aux_lemma =>
                      go_wp2
                      go_meet
                      case rel => exact ⟨_, (true), (by first | rfl | (simp; done) | (simp [*]; done)), H', ⟨by first | omega | exact Nat.le_refl _⟩, ⟨bR3 HB.out⟩⟩
                · rw [if_neg (show ¬ (some q619).isNone = true by simp)] at H
                  try simp only [Option.getD_some] at H
                  try simp only [errW_none, errW_some]
                  have H' := Aside0.mk H
                  clear H
                  as_aux_lemma =>
                    go_wp2
                    go_meet
                    case rel => exact ⟨_, (true), (by first | rfl | (simp; done) | (simp [*]; done)), H', ⟨by first | omega | exact Nat.le_refl _⟩, ⟨bR3 HB.out⟩⟩
              · rw [if_neg (show ¬ (some q618).isNone = true by simp)] at H
                try simp only [Option.getD_some] at H
                try simp only [errW_none, errW_some]
                have H' := Aside0.mk H
                clear H
                as_aux_lemma =>
                  go_wp2
                  go_meet
                  case rel => exact ⟨_, (true), (by first | rfl | (simp; done) | (simp [*]; done)), H', ⟨by first | omega | exact Nat.le_refl _⟩, ⟨bR3 HB.out⟩⟩
            · rw [if_neg (show ¬ (some q617).isNone = true by simp)] at H
              try simp only [Option.getD_some] at H
              try simp only [errW_none, errW_some]
              have H' := Aside0.mk H
              clear H
              as_aux_lemma =>
                go_wp2
                go_meet
                case rel => exact ⟨_, (true), (by first | rfl | (simp; done) | (simp [*]; done)), H', ⟨by first | omega | exact Nat.le_refl _⟩, ⟨bR3 HB.out⟩⟩
          · rw [if_neg (show ¬ (some q616).isNone = true by simp)] at H
            try simp only [Option.getD_some] at H
            try simp only [errW_none, errW_some]
            have H' := Aside0.mk H
            clear H
            as_aux_lemma =>
              go_wp2
              go_meet
              case rel => exact ⟨_, (true), (by first | rfl | (simp; done) | (simp [*]; done)), H', ⟨by first | omega | exact Nat.le_refl _⟩, ⟨bR3 HB.out⟩⟩
        · rw [if_neg (show ¬ (some q615).isNone = true by simp)] at H
          try simp only [Option.getD_some] at H
          try simp only [errW_none, errW_some]
          have H' := Aside0.mk H
          clear H
          as_aux_lemma =>
            go_wp2
            go_meet
            case rel => exact ⟨_, (true), (by first | rfl | (simp; done) | (simp [*]; done)), H', ⟨by first | omega | exact Nat.le_refl _⟩, ⟨bR3 HB.out⟩⟩
      · rw [if_neg (show ¬ (some q614).isNone = true by simp)] at H
        try simp only [Option.getD_some] at H
        try simp only [errW_none, errW_some]
        have H' := Aside0.mk H
        clear H
        as_aux_lemma =>
          go_wp2
          go_meet
          case rel => exact ⟨_, (true), (by first | rfl | (simp; done) | (simp [*]; done)), H', ⟨by first | omega | exact Nat.le_refl _⟩, ⟨bR3 HB.out⟩⟩
    case rest =>
      clear HC13
      try clear c1
      try clear c2
      try clear p2
      try clear c4
      try clear c5
      try clear c6
      try clear q6
      try clear c7
      try clear c11
      try clear c12
      try clear c14
      try clear c20
      try clear c20b0
      try clear q607
      try clear q614
      try clear q615
      try clear q616
      try clear q617
      try clear q618
      try clear q619
      try clear q620
      obtain ⟨kq, x157_12, rfl, HA, HJ12, HB⟩ := hcut
      cases kq with
      | zero => exact absurd HA.out (by simp [vernierlaw16_IntsModes.j0])
      | succ kj12 =>
        have H := HA.out
        clear HA
        simp only [vernierlaw16_IntsModes.j0] at H
        by_cases c21 : x157_12 = true
        · subst c21
          rw [if_pos rfl] at H
          obtain rfl := Option.some.inj H
          as_aux_lemma =>
            go_wp2
            go_ret
            exact ⟨eR3, bR3 HB.out⟩
        · replace c21 := Bool.eq_false_iff.mpr c21
          subst c21
          rw [if_neg (show ¬ (false = true) by decide)] at H
          replace H := Option.bind_eq_some_iff.mp H
          obtain ⟨⟨t621, t622⟩, A220, H⟩ := H
          try dsimp -simprocs only at H
          have A22 := Aside0.mk A220
          clear A220
          replace H := Option.bind_eq_some_iff.mp H
          obtain ⟨⟨t623, t624⟩, A230, H⟩ := H
          try dsimp -simprocs only at H
          have A23 := Aside0.mk A230
          clear A230
          have HC24 := Aside0.mk H
          clear H
          go_upto_region 18 with (first | ((with_reducible refine gC (f := 7) rfl ?_); (with_reducible refine gD (N := 161) rfl ?_); refine goesY_ (some 161) Tryd.func7 #[.int .i64 t596, .int .u64 t601] ?_; (with_reducible refine (ints_IsWhole.calls kj12 t596 t601 t621 t622 _ (tz3 HT) A22.out).mono ?_); rintro e w25 ⟨rfl, hb⟩; refine ⟨_, rfl, ?_⟩; have n0_ := Aside0.mk (bS3 HB.out hb); clear HB; have HB := n0_; clear n0_; (try clear hb); (try clear hb2); (try clear hk); (try clear hi); (try simp only [errW_none, errW_some])) | ((with_reducible refine gC (f := 7) rfl ?_); (with_reducible refine gD (N := 167) rfl ?_); refine goesY_ (some 167) Tryd.func7 #[.int .i64 t596, .int .u64 t603] ?_; (with_reducible refine (ints_IsWhole.calls kj12 t596 t603 t623 t624 _ (tz3 HT) A23.out).mono ?_); rintro e w26 ⟨rfl, hb⟩; refine ⟨_, rfl, ?_⟩; have n0_ := Aside0.mk (bS3 HB.out hb); clear HB; have HB := n0_; clear n0_; (try clear hb); (try clear hb2); (try clear hk); (try clear hi); (try simp only [errW_none, errW_some])))
          (try simp only [Act.put, List.setIfInBounds_toArray, List.set_cons_zero, List.set_cons_succ])
          go_cut [193] (fun v193 wc => ∃ (kq : Nat) (x193_23 : Bool), v193 = .bool x193_23 ∧ Aside0 (vernierlaw16_IntsModes.j1 kq t595 t597 t601 t603 t605 t608 t610 t612 x193_23 = some r) ∧ Aside0 (kq ≤ kj12) ∧ Aside0 (Below w.heap.size w wc))
          case first =>
            have H := HC24.out
            clear HC24
            rcases t622 with _ | q625
            · rw [if_pos (show (none : Option Int).isNone = true by rfl)] at H
              try simp only [Option.getD_some] at H
              try simp only [errW_none, errW_some]
              rcases t624 with _ | q626
              · rw [if_pos (show (none : Option Int).isNone = true by rfl)] at H
                try simp only [Option.getD_some] at H
                try simp only [errW_none, errW_some]
                by_cases c27 : t621 = true
                · subst c27
                  rw [if_pos rfl] at H
                  by_cases c28 : t623 = true
                  · subst c28
                    rw [if_pos rfl] at H
                    by_cases c29 : t599 = t601
                    · rw [if_pos c29] at H
                      have c29b0 : (t599 == t601) = true := beq_iff_eq.mpr c29
                      have c29b1 : (t599 != t601) = false := bne_eq_false_iff_eq.mpr c29
                      clear c29
                      (first | rw [c29b0] | (simp only [i64_w, i32_w]; rw [c29b0]) | skip)
                      have H' := Aside0.mk H
                      clear H
                      as_aux_lemma =>
                        go_wp2
                        go_meet
                        case rel => exact ⟨_, (false), (by first | rfl | (simp; done) | (simp [*]; done)), H', ⟨by have := HJ12.out; first | omega | exact Nat.le_refl _⟩, ⟨bR3 HB.out⟩⟩
                    · rw [if_neg c29] at H
                      have c29b0 : (t599 == t601) = false := beq_eq_false_iff_ne.mpr c29
                      have c29b1 : (t599 != t601) = true := bne_iff_ne.mpr c29
                      (first | rw [c29b0] | (simp only [i64_w, i32_w]; rw [c29b0]) | skip)
                      have H' := Aside0.mk H
                      clear H
                      as_aux_lemma =>
                        go_wp2
                        go_meet
                        case rel => exact ⟨_, ((t599 != t603)), (by first | rfl | (simp; done) | (simp [*]; done)), H', ⟨by have := HJ12.out; first | omega | exact Nat.le_refl _⟩, ⟨bR3 HB.out⟩⟩
                  · replace c28 := Bool.eq_false_iff.mpr c28
                    subst c28
                    rw [if_neg (show ¬ (false = true) by decide)] at H
                    have H' := Aside0.mk H
                    clear H
                    as_aux_lemma =>
                      go_wp2
                      go_meet
                      case rel => exact ⟨_, (true), (by first | rfl | (simp; done) | (simp [*]; done)), H', ⟨by have := HJ12.out; first | omega | exact Nat.le_refl _⟩, ⟨bR3 HB.out⟩⟩
                · replace c27 := Bool.eq_false_iff.mpr c27
                  subst c27
                  rw [if_neg (show ¬ (false = true) by decide)] at H
                  have H' := Aside0.mk H
                  clear H
                  as_aux_lemma =>
                    go_wp2
                    go_meet
                    case rel => exact ⟨_, (true), (by first | rfl | (simp; done) | (simp [*]; done)), H', ⟨by have := HJ12.out; first | omega | exact Nat.le_refl _⟩, ⟨bR3 HB.out⟩⟩
              · rw [if_neg (show ¬ (some q626).isNone = true by simp)] at H
                try simp only [Option.getD_some] at H
                try simp only [errW_none, errW_some]
                have H' := Aside0.mk H
                clear H
                as_aux_lemma =>
                  go_wp2
                  go_meet
                  case rel => exact ⟨_, (true), (by first | rfl | (simp; done) | (simp [*]; done)), H', ⟨by have := HJ12.out; first | omega | exact Nat.le_refl _⟩, ⟨bR3 HB.out⟩⟩
            · rw [if_neg (show ¬ (some q625).isNone = true by simp)] at H
              try simp only [Option.getD_some] at H
              try simp only [errW_none, errW_some]
              have H' := Aside0.mk H
              clear H
              as_aux_lemma =>
                go_wp2
                go_meet
                case rel => exact ⟨_, (true), (by first | rfl | (simp; done) | (simp [*]; done)), H', ⟨by have := HJ12.out; first | omega | exact Nat.le_refl _⟩, ⟨bR3 HB.out⟩⟩
          case rest =>
            clear HC24
            try clear c1
            try clear c2
            try clear p2
            try clear c4
            try clear c5
            try clear c6
            try clear q6
            try clear c7
            try clear c11
            try clear c12
            try clear c14
            try clear c20
            try clear c20b0
            try clear c21
            try clear c27
            try clear c28
            try clear c29
            try clear c29b0
            try clear c29b1
            try clear p2
            try clear q6
            try clear q607
            try clear q614
            try clear q615
            try clear q616
            try clear q617
            try clear q618
            try clear q619
            try clear q620
            try clear q625
            try clear q626
            obtain ⟨kq, x193_23, rfl, HA, HJ23, HB⟩ := hcut
            cases kq with
            | zero => exact absurd HA.out (by simp [vernierlaw16_IntsModes.j1])
            | succ kj23 =>
              have H := HA.out
              clear HA
              simp only [vernierlaw16_IntsModes.j1] at H
              by_cases c30 : x193_23 = true
              · subst c30
                rw [if_pos rfl] at H
                obtain rfl := Option.some.inj H
                as_aux_lemma =>
                  go_wp2
                  go_ret
                  exact ⟨eR3, bR3 HB.out⟩
              · replace c30 := Bool.eq_false_iff.mpr c30
                subst c30
                rw [if_neg (show ¬ (false = true) by decide)] at H
                by_cases c31 : t608 = 0
                · rw [if_pos c31] at H
                  have c31b0 : (t608 == 0) = true := beq_iff_eq.mpr c31
                  have c31b1 : (t608 != 0) = false := bne_eq_false_iff_eq.mpr c31
                  clear c31
                  by_cases c32 : (t597 != (t610 == 0)) = true
                  · rw [if_pos c32] at H
                    have c32b0 : (t597 != (t610 == 0)) = true := c32
                    (try (have c32b1 : decide (t597 = (t610 == 0)) = false := by simpa using c32))
                    (try (have c32b2 : (t597 == (t610 == 0)) = false := by simpa using c32))
                    (try (have c32b3 : ¬ (t597 = (t610 == 0)) := by simpa using c32))
                    clear c32
                    obtain rfl := Option.some.inj H
                    as_aux_lemma =>
                      go_wp2
                      go_ret
                      exact ⟨eR3, bR3 HB.out⟩
                  · rw [if_neg c32] at H
                    have c32b0 : (t597 != (t610 == 0)) = false := by simpa using c32
                    (try (have c32b1 : decide (t597 = (t610 == 0)) = true := by simpa using c32))
                    (try (have c32b2 : (t597 == (t610 == 0)) = true := by simpa using c32))
                    clear c32
                    by_cases c33 : (t597 != (t601 == t603)) = true
                    · rw [if_pos c33] at H
                      have c33b0 : (t597 != (t601 == t603)) = true := c33
                      (try (have c33b1 : decide (t597 = (t601 == t603)) = false := by simpa using c33))
                      (try (have c33b2 : (t597 == (t601 == t603)) = false := by simpa using c33))
                      (try (have c33b3 : ¬ (t597 = (t601 == t603)) := by simpa using c33))
                      clear c33
                      obtain rfl := Option.some.inj H
                      as_aux_lemma =>
                        go_wp2
                        go_ret
                        exact ⟨eR3, bR3 HB.out⟩
                    · rw [if_neg c33] at H
                      have c33b0 : (t597 != (t601 == t603)) = false := by simpa using c33
                      (try (have c33b1 : decide (t597 = (t601 == t603)) = true := by simpa using c33))
                      (try (have c33b2 : (t597 == (t601 == t603)) = true := by simpa using c33))
                      clear c33
                      by_cases c34 : t595 = true
                      · subst c34
                        rw [if_pos rfl] at H
                        by_cases c35 : t605 = t601
                        · rw [if_pos c35] at H
                          have c35b0 : (t605 == t601) = true := beq_iff_eq.mpr c35
                          have c35b1 : (t605 != t601) = false := bne_eq_false_iff_eq.mpr c35
                          clear c35
                          by_cases c36 : t605 = t603
                          · rw [if_pos c36] at H
                            have c36b0 : (t605 == t603) = true := beq_iff_eq.mpr c36
                            have c36b1 : (t605 != t603) = false := bne_eq_false_iff_eq.mpr c36
                            clear c36
                            obtain rfl := Option.some.inj H
                            as_aux_lemma =>
                              go_wp2
                              go_ret
                              exact ⟨eR3, bR3 HB.out⟩
                          · rw [if_neg c36] at H
                            have c36b0 : (t605 == t603) = false := beq_eq_false_iff_ne.mpr c36
                            have c36b1 : (t605 != t603) = true := bne_iff_ne.mpr c36
                            obtain rfl := Option.some.inj H
                            as_aux_lemma =>
                              go_wp2
                              go_ret
                              exact ⟨eR3, bR3 HB.out⟩
                        · rw [if_neg c35] at H
                          have c35b0 : (t605 == t601) = false := beq_eq_false_iff_ne.mpr c35
                          have c35b1 : (t605 != t601) = true := bne_iff_ne.mpr c35
                          by_cases c37 : t612 < 0
                          · rw [if_pos c37] at H
                            have c37b0 : decide (t612 < 0) = true := decide_eq_true c37
                            clear c37
                            by_cases c38 : t605 = t603
                            · rw [if_pos c38] at H
                              have c38b0 : (t605 == t603) = true := beq_iff_eq.mpr c38
                              have c38b1 : (t605 != t603) = false := bne_eq_false_iff_eq.mpr c38
                              clear c38
                              obtain rfl := Option.some.inj H
                              as_aux_lemma =>
                                go_wp2
                                go_ret
                                exact ⟨eR3, bR3 HB.out⟩
                            · rw [if_neg c38] at H
                              have c38b0 : (t605 == t603) = false := beq_eq_false_iff_ne.mpr c38
                              have c38b1 : (t605 != t603) = true := bne_iff_ne.mpr c38
                              obtain rfl := Option.some.inj H
                              as_aux_lemma =>
                                go_wp2
                                go_ret
                                exact ⟨eR3, bR3 HB.out⟩
                          · rw [if_neg c37] at H
                            have c37b0 : decide (t612 < 0) = false := decide_eq_false c37
                            clear c37
                            obtain rfl := Option.some.inj H
                            as_aux_lemma =>
                              go_wp2
                              go_ret
                              exact ⟨eR3, bR3 HB.out⟩
                      · replace c34 := Bool.eq_false_iff.mpr c34
                        subst c34
                        rw [if_neg (show ¬ (false = true) by decide)] at H
                        obtain rfl := Option.some.inj H
                        as_aux_lemma =>
                          go_wp2
                          go_ret
                          exact ⟨eR3, bR3 HB.out⟩
                · rw [if_neg c31] at H
                  have c31b0 : (t608 == 0) = false := beq_eq_false_iff_ne.mpr c31
                  have c31b1 : (t608 != 0) = true := bne_iff_ne.mpr c31
                  by_cases c39 : (t597 != false) = true
                  · rw [if_pos c39] at H
                    have c39b0 : (t597 != false) = true := c39
                    (try (have c39b1 : decide (t597 = false) = false := by simpa using c39))
                    (try (have c39b2 : (t597 == false) = false := by simpa using c39))
                    (try (have c39b3 : ¬ (t597 = false) := by simpa using c39))
                    clear c39
                    obtain rfl := Option.some.inj H
                    as_aux_lemma =>
                      go_wp2
                      go_ret
                      exact ⟨eR3, bR3 HB.out⟩
                  · rw [if_neg c39] at H
                    have c39b0 : (t597 != false) = false := by simpa using c39
                    (try (have c39b1 : decide (t597 = false) = true := by simpa using c39))
                    (try (have c39b2 : (t597 == false) = true := by simpa using c39))
                    clear c39
                    by_cases c40 : (t597 != (t601 == t603)) = true
                    · rw [if_pos c40] at H
                      have c40b0 : (t597 != (t601 == t603)) = true := c40
                      (try (have c40b1 : decide (t597 = (t601 == t603)) = false := by simpa using c40))
                      (try (have c40b2 : (t597 == (t601 == t603)) = false := by simpa using c40))
                      (try (have c40b3 : ¬ (t597 = (t601 == t603)) := by simpa using c40))
                      clear c40
                      obtain rfl := Option.some.inj H
                      as_aux_lemma =>
                        go_wp2
                        go_ret
                        exact ⟨eR3, bR3 HB.out⟩
                    · rw [if_neg c40] at H
                      have c40b0 : (t597 != (t601 == t603)) = false := by simpa using c40
                      (try (have c40b1 : decide (t597 = (t601 == t603)) = true := by simpa using c40))
                      (try (have c40b2 : (t597 == (t601 == t603)) = true := by simpa using c40))
                      clear c40
                      by_cases c41 : t595 = true
                      · subst c41
                        rw [if_pos rfl] at H
                        by_cases c42 : t605 = t601
                        · rw [if_pos c42] at H
                          have c42b0 : (t605 == t601) = true := beq_iff_eq.mpr c42
                          have c42b1 : (t605 != t601) = false := bne_eq_false_iff_eq.mpr c42
                          clear c42
                          by_cases c43 : t605 = t603
                          · rw [if_pos c43] at H
                            have c43b0 : (t605 == t603) = true := beq_iff_eq.mpr c43
                            have c43b1 : (t605 != t603) = false := bne_eq_false_iff_eq.mpr c43
                            clear c43
                            obtain rfl := Option.some.inj H
                            as_aux_lemma =>
                              go_wp2
                              go_ret
                              exact ⟨eR3, bR3 HB.out⟩
                          · rw [if_neg c43] at H
                            have c43b0 : (t605 == t603) = false := beq_eq_false_iff_ne.mpr c43
                            have c43b1 : (t605 != t603) = true := bne_iff_ne.mpr c43
                            obtain rfl := Option.some.inj H
                            as_aux_lemma =>
                              go_wp2
                              go_ret
                              exact ⟨eR3, bR3 HB.out⟩
                        · rw [if_neg c42] at H
                          have c42b0 : (t605 == t601) = false := beq_eq_false_iff_ne.mpr c42
                          have c42b1 : (t605 != t601) = true := bne_iff_ne.mpr c42
                          by_cases c44 : t612 < 0
                          · rw [if_pos c44] at H
                            have c44b0 : decide (t612 < 0) = true := decide_eq_true c44
                            clear c44
                            by_cases c45 : t605 = t603
                            · rw [if_pos c45] at H
                              have c45b0 : (t605 == t603) = true := beq_iff_eq.mpr c45
                              have c45b1 : (t605 != t603) = false := bne_eq_false_iff_eq.mpr c45
                              clear c45
                              obtain rfl := Option.some.inj H
                              as_aux_lemma =>
                                go_wp2
                                go_ret
                                exact ⟨eR3, bR3 HB.out⟩
                            · rw [if_neg c45] at H
                              have c45b0 : (t605 == t603) = false := beq_eq_false_iff_ne.mpr c45
                              have c45b1 : (t605 != t603) = true := bne_iff_ne.mpr c45
                              obtain rfl := Option.some.inj H
                              as_aux_lemma =>
                                go_wp2
                                go_ret
                                exact ⟨eR3, bR3 HB.out⟩
                          · rw [if_neg c44] at H
                            have c44b0 : decide (t612 < 0) = false := decide_eq_false c44
                            clear c44
                            obtain rfl := Option.some.inj H
                            as_aux_lemma =>
                              go_wp2
                              go_ret
                              exact ⟨eR3, bR3 HB.out⟩
                      · replace c41 := Bool.eq_false_iff.mpr c41
                        subst c41
                        rw [if_neg (show ¬ (false = true) by decide)] at H
                        obtain rfl := Option.some.inj H
                        as_aux_lemma =>
                          go_wp2
                          go_ret
                          exact ⟨eR3, bR3 HB.out⟩
  · rw [if_neg (show ¬ (some q607).isNone = true by simp)] at H
    try simp only [Option.getD_some] at H
    try simp only [errW_none, errW_some]
    replace H := Option.bind_eq_some_iff.mp H
    obtain ⟨t627, A460, H⟩ := H
    try dsimp -simprocs only at H
    have A46 := Aside0.mk A460
    clear A460
    replace H := Option.bind_eq_some_iff.mp H
    obtain ⟨⟨t628, t629⟩, A470, H⟩ := H
    try dsimp -simprocs only at H
    have A47 := Aside0.mk A470
    clear A470
    by_cases c48 : t595 = true
    · subst c48
      rw [if_pos rfl] at H
      by_cases c49 : q607 = 9
      · rw [if_pos c49] at H
        have c49b0 : (q607 == 9) = true := beq_iff_eq.mpr c49
        have c49b1 : (q607 != 9) = false := bne_eq_false_iff_eq.mpr c49
        clear c49
        rcases t600 with _ | q630
        · rw [if_pos (show (none : Option Int).isNone = true by rfl)] at H
          try simp only [Option.getD_some] at H
          try simp only [errW_none, errW_some]
          obtain rfl := Option.some.inj H
          go_enter Tryd.func4, Tryd.ntmps4
          as_aux_lemma =>
            go_wp2_with (first | ((with_reducible refine gC (f := 5) rfl ?_); (with_reducible refine gD (N := 27) rfl ?_); refine goesY_ (some 27) Tryd.func5 #[] ?_; (with_reducible refine (vernierlaw16_shown.calls k  true _ A3.out).mono ?_); rintro e w50 ⟨rfl, hb⟩; refine ⟨_, rfl, ?_⟩; have n0_ := Aside0.mk (bS3 HB.out hb); clear HB; have HB := n0_; clear n0_; (try clear hb); (try clear hb2); (try clear hk); (try clear hi)) | ((with_reducible refine gC (f := 11) rfl ?_); (with_reducible refine gD (N := 29) rfl ?_); refine goesY_ (some 29) Tryd.func11 #[.int .i64 a0] ?_; (with_reducible refine (vernierlaw16_width.calls k a0 t596 _ A4.out).mono ?_); rintro e w' ⟨rfl, ⟨nd, rfl⟩⟩; refine ⟨_, rfl, ?_⟩) | ((with_reducible refine gC (f := 7) rfl ?_); (with_reducible refine gD (N := 33) rfl ?_); refine goesY_ (some 33) Tryd.func7 #[.int .i64 t596, .int .u64 a1] ?_; (with_reducible refine (ints_IsWhole.calls k t596 a1 t597 (some q607) _ (tz3 HT) A5.out).mono ?_); rintro e w51 ⟨rfl, hb⟩; refine ⟨_, rfl, ?_⟩; have n0_ := Aside0.mk (bS3 HB.out hb); clear HB; have HB := n0_; clear n0_; (try clear hb); (try clear hb2); (try clear hk); (try clear hi); (try simp only [errW_none, errW_some])) | ((with_reducible refine gC (f := 6) rfl ?_); (with_reducible refine gD (N := 39) rfl ?_); refine goesY_ (some 39) Tryd.func6 #[.int .i64 t596, .int .u64 a1, .int .i64 0] ?_; (with_reducible refine (ints_Whole.calls k t596 a1 0 t599 none _ A6.out).mono ?_); rintro e w52 ⟨rfl, hb⟩; refine ⟨_, rfl, ?_⟩; have n0_ := Aside0.mk (bS3 HB.out hb); clear HB; have HB := n0_; clear n0_; (try clear hb); (try clear hb2); (try clear hk); (try clear hi); (try simp only [errW_none, errW_some])) | ((with_reducible refine gC (f := 6) rfl ?_); (with_reducible refine gD (N := 45) rfl ?_); refine goesY_ (some 45) Tryd.func6 #[.int .i64 t596, .int .u64 a1, .int .i64 1] ?_; (with_reducible refine (ints_Whole.calls k t596 a1 1 t601 t602 _ A7.out).mono ?_); rintro e w53 ⟨rfl, hb⟩; refine ⟨_, rfl, ?_⟩; have n0_ := Aside0.mk (bS3 HB.out hb); clear HB; have HB := n0_; clear n0_; (try clear hb); (try clear hb2); (try clear hk); (try clear hi); (try simp only [errW_none, errW_some])) | ((with_reducible refine gC (f := 6) rfl ?_); (with_reducible refine gD (N := 51) rfl ?_); refine goesY_ (some 51) Tryd.func6 #[.int .i64 t596, .int .u64 a1, .int .i64 2] ?_; (with_reducible refine (ints_Whole.calls k t596 a1 2 t603 t604 _ A8.out).mono ?_); rintro e w54 ⟨rfl, hb⟩; refine ⟨_, rfl, ?_⟩; have n0_ := Aside0.mk (bS3 HB.out hb); clear HB; have HB := n0_; clear n0_; (try clear hb); (try clear hb2); (try clear hk); (try clear hi); (try simp only [errW_none, errW_some])) | ((with_reducible refine gC (f := 6) rfl ?_); (with_reducible refine gD (N := 57) rfl ?_); refine goesY_ (some 57) Tryd.func6 #[.int .i64 t596, .int .u64 a1, .int .i64 3] ?_; (with_reducible refine (ints_Whole.calls k t596 a1 3 t605 t606 _ A9.out).mono ?_); rintro e w55 ⟨rfl, hb⟩; refine ⟨_, rfl, ?_⟩; have n0_ := Aside0.mk (bS3 HB.out hb); clear HB; have HB := n0_; clear n0_; (try clear hb); (try clear hb2); (try clear hk); (try clear hi); (try simp only [errW_none, errW_some])) | ((with_reducible refine gC (f := 13) rfl ?_); (with_reducible refine gD (N := 66) rfl ?_); refine goesY_ (some 66) Tryd.func13 #[.int .i64 t596] ?_; (with_reducible refine (vernierlaw16_nar.calls k t596 t627 _ A46.out).mono ?_); rintro e w' ⟨rfl, ⟨nd, rfl⟩⟩; refine ⟨_, rfl, ?_⟩) | ((with_reducible refine gC (f := 12) rfl ?_); (with_reducible refine gD (N := 67) rfl ?_); refine goesY_ (some 67) Tryd.func12 #[.int .i64 t596, .int .u64 a1, .int .u64 t627] ?_; (with_reducible refine (order_Cmp.calls t596 a1 t627 t628 t629 _ A47.out).mono ?_); rintro e w' ⟨rfl, ⟨nd, rfl⟩⟩; refine ⟨_, rfl, ?_⟩; (try simp only [errW_none, errW_some])))
            go_ret
            exact ⟨eR3, bR3 HB.out⟩
        · rw [if_neg (show ¬ (some q630).isNone = true by simp)] at H
          try simp only [Option.getD_some] at H
          try simp only [errW_none, errW_some]
          by_cases c56 : q630 = 9
          · rw [if_pos c56] at H
            have c56b0 : (q630 == 9) = true := beq_iff_eq.mpr c56
            have c56b1 : (q630 != 9) = false := bne_eq_false_iff_eq.mpr c56
            clear c56
            rcases t602 with _ | q631
            · rw [if_pos (show (none : Option Int).isNone = true by rfl)] at H
              try simp only [Option.getD_some] at H
              try simp only [errW_none, errW_some]
              obtain rfl := Option.some.inj H
              go_enter Tryd.func4, Tryd.ntmps4
              as_aux_lemma =>
                go_wp2_with (first | ((with_reducible refine gC (f := 5) rfl ?_); (with_reducible refine gD (N := 27) rfl ?_); refine goesY_ (some 27) Tryd.func5 #[] ?_; (with_reducible refine (vernierlaw16_shown.calls k  true _ A3.out).mono ?_); rintro e w57 ⟨rfl, hb⟩; refine ⟨_, rfl, ?_⟩; have n0_ := Aside0.mk (bS3 HB.out hb); clear HB; have HB := n0_; clear n0_; (try clear hb); (try clear hb2); (try clear hk); (try clear hi)) | ((with_reducible refine gC (f := 11) rfl ?_); (with_reducible refine gD (N := 29) rfl ?_); refine goesY_ (some 29) Tryd.func11 #[.int .i64 a0] ?_; (with_reducible refine (vernierlaw16_width.calls k a0 t596 _ A4.out).mono ?_); rintro e w' ⟨rfl, ⟨nd, rfl⟩⟩; refine ⟨_, rfl, ?_⟩) | ((with_reducible refine gC (f := 7) rfl ?_); (with_reducible refine gD (N := 33) rfl ?_); refine goesY_ (some 33) Tryd.func7 #[.int .i64 t596, .int .u64 a1] ?_; (with_reducible refine (ints_IsWhole.calls k t596 a1 t597 (some q607) _ (tz3 HT) A5.out).mono ?_); rintro e w58 ⟨rfl, hb⟩; refine ⟨_, rfl, ?_⟩; have n0_ := Aside0.mk (bS3 HB.out hb); clear HB; have HB := n0_; clear n0_; (try clear hb); (try clear hb2); (try clear hk); (try clear hi); (try simp only [errW_none, errW_some])) | ((with_reducible refine gC (f := 6) rfl ?_); (with_reducible refine gD (N := 39) rfl ?_); refine goesY_ (some 39) Tryd.func6 #[.int .i64 t596, .int .u64 a1, .int .i64 0] ?_; (with_reducible refine (ints_Whole.calls k t596 a1 0 t599 (some q630) _ A6.out).mono ?_); rintro e w59 ⟨rfl, hb⟩; refine ⟨_, rfl, ?_⟩; have n0_ := Aside0.mk (bS3 HB.out hb); clear HB; have HB := n0_; clear n0_; (try clear hb); (try clear hb2); (try clear hk); (try clear hi); (try simp only [errW_none, errW_some])) | ((with_reducible refine gC (f := 6) rfl ?_); (with_reducible refine gD (N := 45) rfl ?_); refine goesY_ (some 45) Tryd.func6 #[.int .i64 t596, .int .u64 a1, .int .i64 1] ?_; (with_reducible refine (ints_Whole.calls k t596 a1 1 t601 none _ A7.out).mono ?_); rintro e w60 ⟨rfl, hb⟩; refine ⟨_, rfl, ?_⟩; have n0_ := Aside0.mk (bS3 HB.out hb); clear HB; have HB := n0_; clear n0_; (try clear hb); (try clear hb2); (try clear hk); (try clear hi); (try simp only [errW_none, errW_some])) | ((with_reducible refine gC (f := 6) rfl ?_); (with_reducible refine gD (N := 51) rfl ?_); refine goesY_ (some 51) Tryd.func6 #[.int .i64 t596, .int .u64 a1, .int .i64 2] ?_; (with_reducible refine (ints_Whole.calls k t596 a1 2 t603 t604 _ A8.out).mono ?_); rintro e w61 ⟨rfl, hb⟩; refine ⟨_, rfl, ?_⟩; have n0_ := Aside0.mk (bS3 HB.out hb); clear HB; have HB := n0_; clear n0_; (try clear hb); (try clear hb2); (try clear hk); (try clear hi); (try simp only [errW_none, errW_some])) | ((with_reducible refine gC (f := 6) rfl ?_); (with_reducible refine gD (N := 57) rfl ?_); refine goesY_ (some 57) Tryd.func6 #[.int .i64 t596, .int .u64 a1, .int .i64 3] ?_; (with_reducible refine (ints_Whole.calls k t596 a1 3 t605 t606 _ A9.out).mono ?_); rintro e w62 ⟨rfl, hb⟩; refine ⟨_, rfl, ?_⟩; have n0_ := Aside0.mk (bS3 HB.out hb); clear HB; have HB := n0_; clear n0_; (try clear hb); (try clear hb2); (try clear hk); (try clear hi); (try simp only [errW_none, errW_some])) | ((with_reducible refine gC (f := 13) rfl ?_); (with_reducible refine gD (N := 66) rfl ?_); refine goesY_ (some 66) Tryd.func13 #[.int .i64 t596] ?_; (with_reducible refine (vernierlaw16_nar.calls k t596 t627 _ A46.out).mono ?_); rintro e w' ⟨rfl, ⟨nd, rfl⟩⟩; refine ⟨_, rfl, ?_⟩) | ((with_reducible refine gC (f := 12) rfl ?_); (with_reducible refine gD (N := 67) rfl ?_); refine goesY_ (some 67) Tryd.func12 #[.int .i64 t596, .int .u64 a1, .int .u64 t627] ?_; (with_reducible refine (order_Cmp.calls t596 a1 t627 t628 t629 _ A47.out).mono ?_); rintro e w' ⟨rfl, ⟨nd, rfl⟩⟩; refine ⟨_, rfl, ?_⟩; (try simp only [errW_none, errW_some])))
                go_ret
                exact ⟨eR3, bR3 HB.out⟩
            · rw [if_neg (show ¬ (some q631).isNone = true by simp)] at H
              try simp only [Option.getD_some] at H
              try simp only [errW_none, errW_some]
              by_cases c63 : q631 = 9
              · rw [if_pos c63] at H
                have c63b0 : (q631 == 9) = true := beq_iff_eq.mpr c63
                have c63b1 : (q631 != 9) = false := bne_eq_false_iff_eq.mpr c63
                clear c63
                rcases t604 with _ | q632
                · rw [if_pos (show (none : Option Int).isNone = true by rfl)] at H
                  try simp only [Option.getD_some] at H
                  try simp only [errW_none, errW_some]
                  obtain rfl := Option.some.inj H
                  go_enter Tryd.func4, Tryd.ntmps4
                  as_aux_lemma =>
                    go_wp2_with (first | ((with_reducible refine gC (f := 5) rfl ?_); (with_reducible refine gD (N := 27) rfl ?_); refine goesY_ (some 27) Tryd.func5 #[] ?_; (with_reducible refine (vernierlaw16_shown.calls k  true _ A3.out).mono ?_); rintro e w64 ⟨rfl, hb⟩; refine ⟨_, rfl, ?_⟩; have n0_ := Aside0.mk (bS3 HB.out hb); clear HB; have HB := n0_; clear n0_; (try clear hb); (try clear hb2); (try clear hk); (try clear hi)) | ((with_reducible refine gC (f := 11) rfl ?_); (with_reducible refine gD (N := 29) rfl ?_); refine goesY_ (some 29) Tryd.func11 #[.int .i64 a0] ?_; (with_reducible refine (vernierlaw16_width.calls k a0 t596 _ A4.out).mono ?_); rintro e w' ⟨rfl, ⟨nd, rfl⟩⟩; refine ⟨_, rfl, ?_⟩) | ((with_reducible refine gC (f := 7) rfl ?_); (with_reducible refine gD (N := 33) rfl ?_); refine goesY_ (some 33) Tryd.func7 #[.int .i64 t596, .int .u64 a1] ?_; (with_reducible refine (ints_IsWhole.calls k t596 a1 t597 (some q607) _ (tz3 HT) A5.out).mono ?_); rintro e w65 ⟨rfl, hb⟩; refine ⟨_, rfl, ?_⟩; have n0_ := Aside0.mk (bS3 HB.out hb); clear HB; have HB := n0_; clear n0_; (try clear hb); (try clear hb2); (try clear hk); (try clear hi); (try simp only [errW_none, errW_some])) | ((with_reducible refine gC (f := 6) rfl ?_); (with_reducible refine gD (N := 39) rfl ?_); refine goesY_ (some 39) Tryd.func6 #[.int .i64 t596, .int .u64 a1, .int .i64 0] ?_; (with_reducible refine (ints_Whole.calls k t596 a1 0 t599 (some q630) _ A6.out).mono ?_); rintro e w66 ⟨rfl, hb⟩; refine ⟨_, rfl, ?_⟩; have n0_ := Aside0.mk (bS3 HB.out hb); clear HB; have HB := n0_; clear n0_; (try clear hb); (try clear hb2); (try clear hk); (try clear hi); (try simp only [errW_none, errW_some])) | ((with_reducible refine gC (f := 6) rfl ?_); (with_reducible refine gD (N := 45) rfl ?_); refine goesY_ (some 45) Tryd.func6 #[.int .i64 t596, .int .u64 a1, .int .i64 1] ?_; (with_reducible refine (ints_Whole.calls k t596 a1 1 t601 (some q631) _ A7.out).mono ?_); rintro e w67 ⟨rfl, hb⟩; refine ⟨_, rfl, ?_⟩; have n0_ := Aside0.mk (bS3 HB.out hb); clear HB; have HB := n0_; clear n0_; (try clear hb); (try clear hb2); (try clear hk); (try clear hi); (try simp only [errW_none, errW_some])) | ((with_reducible refine gC (f := 6) rfl ?_); (with_reducible refine gD (N := 51) rfl ?_); refine goesY_ (some 51) Tryd.func6 #[.int .i64 t596, .int .u64 a1, .int .i64 2] ?_; (with_reducible refine (ints_Whole.calls k t596 a1 2 t603 none _ A8.out).mono ?_); rintro e w68 ⟨rfl, hb⟩; refine ⟨_, rfl, ?_⟩; have n0_ := Aside0.mk (bS3 HB.out hb); clear HB; have HB := n0_; clear n0_; (try clear hb); (try clear hb2); (try clear hk); (try clear hi); (try simp only [errW_none, errW_some])) | ((with_reducible refine gC (f := 6) rfl ?_); (with_reducible refine gD (N := 57) rfl ?_); refine goesY_ (some 57) Tryd.func6 #[.int .i64 t596, .int .u64 a1, .int .i64 3] ?_; (with_reducible refine (ints_Whole.calls k t596 a1 3 t605 t606 _ A9.out).mono ?_); rintro e w69 ⟨rfl, hb⟩; refine ⟨_, rfl, ?_⟩; have n0_ := Aside0.mk (bS3 HB.out hb); clear HB; have HB := n0_; clear n0_; (try clear hb); (try clear hb2); (try clear hk); (try clear hi); (try simp only [errW_none, errW_some])) | ((with_reducible refine gC (f := 13) rfl ?_); (with_reducible refine gD (N := 66) rfl ?_); refine goesY_ (some 66) Tryd.func13 #[.int .i64 t596] ?_; (with_reducible refine (vernierlaw16_nar.calls k t596 t627 _ A46.out).mono ?_); rintro e w' ⟨rfl, ⟨nd, rfl⟩⟩; refine ⟨_, rfl, ?_⟩) | ((with_reducible refine gC (f := 12) rfl ?_); (with_reducible refine gD (N := 67) rfl ?_); refine goesY_ (some 67) Tryd.func12 #[.int .i64 t596, .int .u64 a1, .int .u64 t627] ?_; (with_reducible refine (order_Cmp.calls t596 a1 t627 t628 t629 _ A47.out).mono ?_); rintro e w' ⟨rfl, ⟨nd, rfl⟩⟩; refine ⟨_, rfl, ?_⟩; (try simp only [errW_none, errW_some])))
                    go_ret
                    exact ⟨eR3, bR3 HB.out⟩
                · rw [if_neg (show ¬ (some q632).isNone = true by simp)] at H
                  try simp only [Option.getD_some] at H
                  try simp only [errW_none, errW_some]
                  by_cases c70 : q632 = 9
                  · rw [if_pos c70] at H
                    have c70b0 : (q632 == 9) = true := beq_iff_eq.mpr c70
                    have c70b1 : (q632 != 9) = false := bne_eq_false_iff_eq.mpr c70
                    clear c70
                    rcases t606 with _ | q633
                    · rw [if_pos (show (none : Option Int).isNone = true by rfl)] at H
                      try simp only [Option.getD_some] at H
                      try simp only [errW_none, errW_some]
                      obtain rfl := Option.some.inj H
                      go_enter Tryd.func4, Tryd.ntmps4
                      as_aux_lemma =>
                        go_wp2_with (first | ((with_reducible refine gC (f := 5) rfl ?_); (with_reducible refine gD (N := 27) rfl ?_); refine goesY_ (some 27) Tryd.func5 #[] ?_; (with_reducible refine (vernierlaw16_shown.calls k  true _ A3.out).mono ?_); rintro e w71 ⟨rfl, hb⟩; refine ⟨_, rfl, ?_⟩; have n0_ := Aside0.mk (bS3 HB.out hb); clear HB; have HB := n0_; clear n0_; (try clear hb); (try clear hb2); (try clear hk); (try clear hi)) | ((with_reducible refine gC (f := 11) rfl ?_); (with_reducible refine gD (N := 29) rfl ?_); refine goesY_ (some 29) Tryd.func11 #[.int .i64 a0] ?_; (with_reducible refine (vernierlaw16_width.calls k a0 t596 _ A4.out).mono ?_); rintro e w' ⟨rfl, ⟨nd, rfl⟩⟩; refine ⟨_, rfl, ?_⟩) | ((with_reducible refine gC (f := 7) rfl ?_); (with_reducible refine gD (N := 33) rfl ?_); refine goesY_ (some 33) Tryd.func7 #[.int .i64 t596, .int .u64 a1] ?_; (with_reducible refine (ints_IsWhole.calls k t596 a1 t597 (some q607) _ (tz3 HT) A5.out).mono ?_); rintro e w72 ⟨rfl, hb⟩; refine ⟨_, rfl, ?_⟩; have n0_ := Aside0.mk (bS3 HB.out hb); clear HB; have HB := n0_; clear n0_; (try clear hb); (try clear hb2); (try clear hk); (try clear hi); (try simp only [errW_none, errW_some])) | ((with_reducible refine gC (f := 6) rfl ?_); (with_reducible refine gD (N := 39) rfl ?_); refine goesY_ (some 39) Tryd.func6 #[.int .i64 t596, .int .u64 a1, .int .i64 0] ?_; (with_reducible refine (ints_Whole.calls k t596 a1 0 t599 (some q630) _ A6.out).mono ?_); rintro e w73 ⟨rfl, hb⟩; refine ⟨_, rfl, ?_⟩; have n0_ := Aside0.mk (bS3 HB.out hb); clear HB; have HB := n0_; clear n0_; (try clear hb); (try clear hb2); (try clear hk); (try clear hi); (try simp only [errW_none, errW_some])) | ((with_reducible refine gC (f := 6) rfl ?_); (with_reducible refine gD (N := 45) rfl ?_); refine goesY_ (some 45) Tryd.func6 #[.int .i64 t596, .int .u64 a1, .int .i64 1] ?_; (with_reducible refine (ints_Whole.calls k t596 a1 1 t601 (some q631) _ A7.out).mono ?_); rintro e w74 ⟨rfl, hb⟩; refine ⟨_, rfl, ?_⟩; have n0_ := Aside0.mk (bS3 HB.out hb); clear HB; have HB := n0_; clear n0_; (try clear hb); (try clear hb2); (try clear hk); (try clear hi); (try simp only [errW_none, errW_some])) | ((with_reducible refine gC (f := 6) rfl ?_); (with_reducible refine gD (N := 51) rfl ?_); refine goesY_ (some 51) Tryd.func6 #[.int .i64 t596, .int .u64 a1, .int .i64 2] ?_; (with_reducible refine (ints_Whole.calls k t596 a1 2 t603 (some q632) _ A8.out).mono ?_); rintro e w75 ⟨rfl, hb⟩; refine ⟨_, rfl, ?_⟩; have n0_ := Aside0.mk (bS3 HB.out hb); clear HB; have HB := n0_; clear n0_; (try clear hb); (try clear hb2); (try clear hk); (try clear hi); (try simp only [errW_none, errW_some])) | ((with_reducible refine gC (f := 6) rfl ?_); (with_reducible refine gD (N := 57) rfl ?_); refine goesY_ (some 57) Tryd.func6 #[.int .i64 t596, .int .u64 a1, .int .i64 3] ?_; (with_reducible refine (ints_Whole.calls k t596 a1 3 t605 none _ A9.out).mono ?_); rintro e w76 ⟨rfl, hb⟩; refine ⟨_, rfl, ?_⟩; have n0_ := Aside0.mk (bS3 HB.out hb); clear HB; have HB := n0_; clear n0_; (try clear hb); (try clear hb2); (try clear hk); (try clear hi); (try simp only [errW_none, errW_some])) | ((with_reducible refine gC (f := 13) rfl ?_); (with_reducible refine gD (N := 66) rfl ?_); refine goesY_ (some 66) Tryd.func13 #[.int .i64 t596] ?_; (with_reducible refine (vernierlaw16_nar.calls k t596 t627 _ A46.out).mono ?_); rintro e w' ⟨rfl, ⟨nd, rfl⟩⟩; refine ⟨_, rfl, ?_⟩) | ((with_reducible refine gC (f := 12) rfl ?_); (with_reducible refine gD (N := 67) rfl ?_); refine goesY_ (some 67) Tryd.func12 #[.int .i64 t596, .int .u64 a1, .int .u64 t627] ?_; (with_reducible refine (order_Cmp.calls t596 a1 t627 t628 t629 _ A47.out).mono ?_); rintro e w' ⟨rfl, ⟨nd, rfl⟩⟩; refine ⟨_, rfl, ?_⟩; (try simp only [errW_none, errW_some])))
                        go_ret
                        exact ⟨eR3, bR3 HB.out⟩
                    · rw [if_neg (show ¬ (some q633).isNone = true by simp)] at H
                      try simp only [Option.getD_some] at H
                      try simp only [errW_none, errW_some]
                      by_cases c77 : q633 = 9
                      · rw [if_pos c77] at H
                        have c77b0 : (q633 == 9) = true := beq_iff_eq.mpr c77
                        have c77b1 : (q633 != 9) = false := bne_eq_false_iff_eq.mpr c77
                        clear c77
                        by_cases c78 : t628 = 0
                        · rw [if_pos c78] at H
                          have c78b0 : (t628 == 0) = true := beq_iff_eq.mpr c78
                          have c78b1 : (t628 != 0) = false := bne_eq_false_iff_eq.mpr c78
                          clear c78
                          rcases t629 with _ | q634
                          · rw [if_pos (show (none : Option Int).isNone = true by rfl)] at H
                            try simp only [Option.getD_some] at H
                            try simp only [errW_none, errW_some]
                            obtain rfl := Option.some.inj H
                            go_enter Tryd.func4, Tryd.ntmps4
                            as_aux_lemma =>
                              go_wp2_with (first | ((with_reducible refine gC (f := 5) rfl ?_); (with_reducible refine gD (N := 27) rfl ?_); refine goesY_ (some 27) Tryd.func5 #[] ?_; (with_reducible refine (vernierlaw16_shown.calls k  true _ A3.out).mono ?_); rintro e w79 ⟨rfl, hb⟩; refine ⟨_, rfl, ?_⟩; have n0_ := Aside0.mk (bS3 HB.out hb); clear HB; have HB := n0_; clear n0_; (try clear hb); (try clear hb2); (try clear hk); (try clear hi)) | ((with_reducible refine gC (f := 11) rfl ?_); (with_reducible refine gD (N := 29) rfl ?_); refine goesY_ (some 29) Tryd.func11 #[.int .i64 a0] ?_; (with_reducible refine (vernierlaw16_width.calls k a0 t596 _ A4.out).mono ?_); rintro e w' ⟨rfl, ⟨nd, rfl⟩⟩; refine ⟨_, rfl, ?_⟩) | ((with_reducible refine gC (f := 7) rfl ?_); (with_reducible refine gD (N := 33) rfl ?_); refine goesY_ (some 33) Tryd.func7 #[.int .i64 t596, .int .u64 a1] ?_; (with_reducible refine (ints_IsWhole.calls k t596 a1 t597 (some q607) _ (tz3 HT) A5.out).mono ?_); rintro e w80 ⟨rfl, hb⟩; refine ⟨_, rfl, ?_⟩; have n0_ := Aside0.mk (bS3 HB.out hb); clear HB; have HB := n0_; clear n0_; (try clear hb); (try clear hb2); (try clear hk); (try clear hi); (try simp only [errW_none, errW_some])) | ((with_reducible refine gC (f := 6) rfl ?_); (with_reducible refine gD (N := 39) rfl ?_); refine goesY_ (some 39) Tryd.func6 #[.int .i64 t596, .int .u64 a1, .int .i64 0] ?_; (with_reducible refine (ints_Whole.calls k t596 a1 0 t599 (some q630) _ A6.out).mono ?_); rintro e w81 ⟨rfl, hb⟩; refine ⟨_, rfl, ?_⟩; have n0_ := Aside0.mk (bS3 HB.out hb); clear HB; have HB := n0_; clear n0_; (try clear hb); (try clear hb2); (try clear hk); (try clear hi); (try simp only [errW_none, errW_some])) | ((with_reducible refine gC (f := 6) rfl ?_); (with_reducible refine gD (N := 45) rfl ?_); refine goesY_ (some 45) Tryd.func6 #[.int .i64 t596, .int .u64 a1, .int .i64 1] ?_; (with_reducible refine (ints_Whole.calls k t596 a1 1 t601 (some q631) _ A7.out).mono ?_); rintro e w82 ⟨rfl, hb⟩; refine ⟨_, rfl, ?_⟩; have n0_ := Aside0.mk (bS3 HB.out hb); clear HB; have HB := n0_; clear n0_; (try clear hb); (try clear hb2); (try clear hk); (try clear hi); (try simp only [errW_none, errW_some])) | ((with_reducible refine gC (f := 6) rfl ?_); (with_reducible refine gD (N := 51) rfl ?_); refine goesY_ (some 51) Tryd.func6 #[.int .i64 t596, .int .u64 a1, .int .i64 2] ?_; (with_reducible refine (ints_Whole.calls k t596 a1 2 t603 (some q632) _ A8.out).mono ?_); rintro e w83 ⟨rfl, hb⟩; refine ⟨_, rfl, ?_⟩; have n0_ := Aside0.mk (bS3 HB.out hb); clear HB; have HB := n0_; clear n0_; (try clear hb); (try clear hb2); (try clear hk); (try clear hi); (try simp only [errW_none, errW_some])) | ((with_reducible refine gC (f := 6) rfl ?_); (with_reducible refine gD (N := 57) rfl ?_); refine goesY_ (some 57) Tryd.func6 #[.int .i64 t596, .int .u64 a1, .int .i64 3] ?_; (with_reducible refine (ints_Whole.calls k t596 a1 3 t605 (some q633) _ A9.out).mono ?_); rintro e w84 ⟨rfl, hb⟩; refine ⟨_, rfl, ?_⟩; have n0_ := Aside0.mk (bS3 HB.out hb); clear HB; have HB := n0_; clear n0_; (try clear hb); (try clear hb2); (try clear hk); (try clear hi); (try simp only [errW_none, errW_some])) | ((with_reducible refine gC (f := 13) rfl ?_); (with_reducible refine gD (N := 66) rfl ?_); refine goesY_ (some 66) Tryd.func13 #[.int .i64 t596] ?_; (with_reducible refine (vernierlaw16_nar.calls k t596 t627 _ A46.out).mono ?_); rintro e w' ⟨rfl, ⟨nd, rfl⟩⟩; refine ⟨_, rfl, ?_⟩) | ((with_reducible refine gC (f := 12) rfl ?_); (with_reducible refine gD (N := 67) rfl ?_); refine goesY_ (some 67) Tryd.func12 #[.int .i64 t596, .int .u64 a1, .int .u64 t627] ?_; (with_reducible refine (order_Cmp.calls t596 a1 t627 t628 none _ A47.out).mono ?_); rintro e w' ⟨rfl, ⟨nd, rfl⟩⟩; refine ⟨_, rfl, ?_⟩; (try simp only [errW_none, errW_some])))
                              go_ret
                              exact ⟨eR3, bR3 HB.out⟩
                          · rw [if_neg (show ¬ (some q634).isNone = true by simp)] at H
                            try simp only [Option.getD_some] at H
                            try simp only [errW_none, errW_some]
                            obtain rfl := Option.some.inj H
                            go_enter Tryd.func4, Tryd.ntmps4
                            as_aux_lemma =>
                              go_wp2_with (first | ((with_reducible refine gC (f := 5) rfl ?_); (with_reducible refine gD (N := 27) rfl ?_); refine goesY_ (some 27) Tryd.func5 #[] ?_; (with_reducible refine (vernierlaw16_shown.calls k  true _ A3.out).mono ?_); rintro e w85 ⟨rfl, hb⟩; refine ⟨_, rfl, ?_⟩; have n0_ := Aside0.mk (bS3 HB.out hb); clear HB; have HB := n0_; clear n0_; (try clear hb); (try clear hb2); (try clear hk); (try clear hi)) | ((with_reducible refine gC (f := 11) rfl ?_); (with_reducible refine gD (N := 29) rfl ?_); refine goesY_ (some 29) Tryd.func11 #[.int .i64 a0] ?_; (with_reducible refine (vernierlaw16_width.calls k a0 t596 _ A4.out).mono ?_); rintro e w' ⟨rfl, ⟨nd, rfl⟩⟩; refine ⟨_, rfl, ?_⟩) | ((with_reducible refine gC (f := 7) rfl ?_); (with_reducible refine gD (N := 33) rfl ?_); refine goesY_ (some 33) Tryd.func7 #[.int .i64 t596, .int .u64 a1] ?_; (with_reducible refine (ints_IsWhole.calls k t596 a1 t597 (some q607) _ (tz3 HT) A5.out).mono ?_); rintro e w86 ⟨rfl, hb⟩; refine ⟨_, rfl, ?_⟩; have n0_ := Aside0.mk (bS3 HB.out hb); clear HB; have HB := n0_; clear n0_; (try clear hb); (try clear hb2); (try clear hk); (try clear hi); (try simp only [errW_none, errW_some])) | ((with_reducible refine gC (f := 6) rfl ?_); (with_reducible refine gD (N := 39) rfl ?_); refine goesY_ (some 39) Tryd.func6 #[.int .i64 t596, .int .u64 a1, .int .i64 0] ?_; (with_reducible refine (ints_Whole.calls k t596 a1 0 t599 (some q630) _ A6.out).mono ?_); rintro e w87 ⟨rfl, hb⟩; refine ⟨_, rfl, ?_⟩; have n0_ := Aside0.mk (bS3 HB.out hb); clear HB; have HB := n0_; clear n0_; (try clear hb); (try clear hb2); (try clear hk); (try clear hi); (try simp only [errW_none, errW_some])) | ((with_reducible refine gC (f := 6) rfl ?_); (with_reducible refine gD (N := 45) rfl ?_); refine goesY_ (some 45) Tryd.func6 #[.int .i64 t596, .int .u64 a1, .int .i64 1] ?_; (with_reducible refine (ints_Whole.calls k t596 a1 1 t601 (some q631) _ A7.out).mono ?_); rintro e w88 ⟨rfl, hb⟩; refine ⟨_, rfl, ?_⟩; have n0_ := Aside0.mk (bS3 HB.out hb); clear HB; have HB := n0_; clear n0_; (try clear hb); (try clear hb2); (try clear hk); (try clear hi); (try simp only [errW_none, errW_some])) | ((with_reducible refine gC (f := 6) rfl ?_); (with_reducible refine gD (N := 51) rfl ?_); refine goesY_ (some 51) Tryd.func6 #[.int .i64 t596, .int .u64 a1, .int .i64 2] ?_; (with_reducible refine (ints_Whole.calls k t596 a1 2 t603 (some q632) _ A8.out).mono ?_); rintro e w89 ⟨rfl, hb⟩; refine ⟨_, rfl, ?_⟩; have n0_ := Aside0.mk (bS3 HB.out hb); clear HB; have HB := n0_; clear n0_; (try clear hb); (try clear hb2); (try clear hk); (try clear hi); (try simp only [errW_none, errW_some])) | ((with_reducible refine gC (f := 6) rfl ?_); (with_reducible refine gD (N := 57) rfl ?_); refine goesY_ (some 57) Tryd.func6 #[.int .i64 t596, .int .u64 a1, .int .i64 3] ?_; (with_reducible refine (ints_Whole.calls k t596 a1 3 t605 (some q633) _ A9.out).mono ?_); rintro e w90 ⟨rfl, hb⟩; refine ⟨_, rfl, ?_⟩; have n0_ := Aside0.mk (bS3 HB.out hb); clear HB; have HB := n0_; clear n0_; (try clear hb); (try clear hb2); (try clear hk); (try clear hi); (try simp only [errW_none, errW_some])) | ((with_reducible refine gC (f := 13) rfl ?_); (with_reducible refine gD (N := 66) rfl ?_); refine goesY_ (some 66) Tryd.func13 #[.int .i64 t596] ?_; (with_reducible refine (vernierlaw16_nar.calls k t596 t627 _ A46.out).mono ?_); rintro e w' ⟨rfl, ⟨nd, rfl⟩⟩; refine ⟨_, rfl, ?_⟩) | ((with_reducible refine gC (f := 12) rfl ?_); (with_reducible refine gD (N := 67) rfl ?_); refine goesY_ (some 67) Tryd.func12 #[.int .i64 t596, .int .u64 a1, .int .u64 t627] ?_; (with_reducible refine (order_Cmp.calls t596 a1 t627 t628 (some q634) _ A47.out).mono ?_); rintro e w' ⟨rfl, ⟨nd, rfl⟩⟩; refine ⟨_, rfl, ?_⟩; (try simp only [errW_none, errW_some])))
                              go_ret
                              exact ⟨eR3, bR3 HB.out⟩
                        · rw [if_neg c78] at H
                          have c78b0 : (t628 == 0) = false := beq_eq_false_iff_ne.mpr c78
                          have c78b1 : (t628 != 0) = true := bne_iff_ne.mpr c78
                          obtain rfl := Option.some.inj H
                          go_enter Tryd.func4, Tryd.ntmps4
                          as_aux_lemma =>
                            go_wp2_with (first | ((with_reducible refine gC (f := 5) rfl ?_); (with_reducible refine gD (N := 27) rfl ?_); refine goesY_ (some 27) Tryd.func5 #[] ?_; (with_reducible refine (vernierlaw16_shown.calls k  true _ A3.out).mono ?_); rintro e w91 ⟨rfl, hb⟩; refine ⟨_, rfl, ?_⟩; have n0_ := Aside0.mk (bS3 HB.out hb); clear HB; have HB := n0_; clear n0_; (try clear hb); (try clear hb2); (try clear hk); (try clear hi)) | ((with_reducible refine gC (f := 11) rfl ?_); (with_reducible refine gD (N := 29) rfl ?_); refine goesY_ (some 29) Tryd.func11 #[.int .i64 a0] ?_; (with_reducible refine (vernierlaw16_width.calls k a0 t596 _ A4.out).mono ?_); rintro e w' ⟨rfl, ⟨nd, rfl⟩⟩; refine ⟨_, rfl, ?_⟩) | ((with_reducible refine gC (f := 7) rfl ?_); (with_reducible refine gD (N := 33) rfl ?_); refine goesY_ (some 33) Tryd.func7 #[.int .i64 t596, .int .u64 a1] ?_; (with_reducible refine (ints_IsWhole.calls k t596 a1 t597 (some q607) _ (tz3 HT) A5.out).mono ?_); rintro e w92 ⟨rfl, hb⟩; refine ⟨_, rfl, ?_⟩; have n0_ := Aside0.mk (bS3 HB.out hb); clear HB; have HB := n0_; clear n0_; (try clear hb); (try clear hb2); (try clear hk); (try clear hi); (try simp only [errW_none, errW_some])) | ((with_reducible refine gC (f := 6) rfl ?_); (with_reducible refine gD (N := 39) rfl ?_); refine goesY_ (some 39) Tryd.func6 #[.int .i64 t596, .int .u64 a1, .int .i64 0] ?_; (with_reducible refine (ints_Whole.calls k t596 a1 0 t599 (some q630) _ A6.out).mono ?_); rintro e w93 ⟨rfl, hb⟩; refine ⟨_, rfl, ?_⟩; have n0_ := Aside0.mk (bS3 HB.out hb); clear HB; have HB := n0_; clear n0_; (try clear hb); (try clear hb2); (try clear hk); (try clear hi); (try simp only [errW_none, errW_some])) | ((with_reducible refine gC (f := 6) rfl ?_); (with_reducible refine gD (N := 45) rfl ?_); refine goesY_ (some 45) Tryd.func6 #[.int .i64 t596, .int .u64 a1, .int .i64 1] ?_; (with_reducible refine (ints_Whole.calls k t596 a1 1 t601 (some q631) _ A7.out).mono ?_); rintro e w94 ⟨rfl, hb⟩; refine ⟨_, rfl, ?_⟩; have n0_ := Aside0.mk (bS3 HB.out hb); clear HB; have HB := n0_; clear n0_; (try clear hb); (try clear hb2); (try clear hk); (try clear hi); (try simp only [errW_none, errW_some])) | ((with_reducible refine gC (f := 6) rfl ?_); (with_reducible refine gD (N := 51) rfl ?_); refine goesY_ (some 51) Tryd.func6 #[.int .i64 t596, .int .u64 a1, .int .i64 2] ?_; (with_reducible refine (ints_Whole.calls k t596 a1 2 t603 (some q632) _ A8.out).mono ?_); rintro e w95 ⟨rfl, hb⟩; refine ⟨_, rfl, ?_⟩; have n0_ := Aside0.mk (bS3 HB.out hb); clear HB; have HB := n0_; clear n0_; (try clear hb); (try clear hb2); (try clear hk); (try clear hi); (try simp only [errW_none, errW_some])) | ((with_reducible refine gC (f := 6) rfl ?_); (with_reducible refine gD (N := 57) rfl ?_); refine goesY_ (some 57) Tryd.func6 #[.int .i64 t596, .int .u64 a1, .int .i64 3] ?_; (with_reducible refine (ints_Whole.calls k t596 a1 3 t605 (some q633) _ A9.out).mono ?_); rintro e w96 ⟨rfl, hb⟩; refine ⟨_, rfl, ?_⟩; have n0_ := Aside0.mk (bS3 HB.out hb); clear HB; have HB := n0_; clear n0_; (try clear hb); (try clear hb2); (try clear hk); (try clear hi); (try simp only [errW_none, errW_some])) | ((with_reducible refine gC (f := 13) rfl ?_); (with_reducible refine gD (N := 66) rfl ?_); refine goesY_ (some 66) Tryd.func13 #[.int .i64 t596] ?_; (with_reducible refine (vernierlaw16_nar.calls k t596 t627 _ A46.out).mono ?_); rintro e w' ⟨rfl, ⟨nd, rfl⟩⟩; refine ⟨_, rfl, ?_⟩) | ((with_reducible refine gC (f := 12) rfl ?_); (with_reducible refine gD (N := 67) rfl ?_); refine goesY_ (some 67) Tryd.func12 #[.int .i64 t596, .int .u64 a1, .int .u64 t627] ?_; (with_reducible refine (order_Cmp.calls t596 a1 t627 t628 t629 _ A47.out).mono ?_); rintro e w' ⟨rfl, ⟨nd, rfl⟩⟩; refine ⟨_, rfl, ?_⟩; (try simp only [errW_none, errW_some])))
                            go_ret
                            exact ⟨eR3, bR3 HB.out⟩
                      · rw [if_neg c77] at H
                        have c77b0 : (q633 == 9) = false := beq_eq_false_iff_ne.mpr c77
                        have c77b1 : (q633 != 9) = true := bne_iff_ne.mpr c77
                        obtain rfl := Option.some.inj H
                        go_enter Tryd.func4, Tryd.ntmps4
                        as_aux_lemma =>
                          go_wp2_with (first | ((with_reducible refine gC (f := 5) rfl ?_); (with_reducible refine gD (N := 27) rfl ?_); refine goesY_ (some 27) Tryd.func5 #[] ?_; (with_reducible refine (vernierlaw16_shown.calls k  true _ A3.out).mono ?_); rintro e w97 ⟨rfl, hb⟩; refine ⟨_, rfl, ?_⟩; have n0_ := Aside0.mk (bS3 HB.out hb); clear HB; have HB := n0_; clear n0_; (try clear hb); (try clear hb2); (try clear hk); (try clear hi)) | ((with_reducible refine gC (f := 11) rfl ?_); (with_reducible refine gD (N := 29) rfl ?_); refine goesY_ (some 29) Tryd.func11 #[.int .i64 a0] ?_; (with_reducible refine (vernierlaw16_width.calls k a0 t596 _ A4.out).mono ?_); rintro e w' ⟨rfl, ⟨nd, rfl⟩⟩; refine ⟨_, rfl, ?_⟩) | ((with_reducible refine gC (f := 7) rfl ?_); (with_reducible refine gD (N := 33) rfl ?_); refine goesY_ (some 33) Tryd.func7 #[.int .i64 t596, .int .u64 a1] ?_; (with_reducible refine (ints_IsWhole.calls k t596 a1 t597 (some q607) _ (tz3 HT) A5.out).mono ?_); rintro e w98 ⟨rfl, hb⟩; refine ⟨_, rfl, ?_⟩; have n0_ := Aside0.mk (bS3 HB.out hb); clear HB; have HB := n0_; clear n0_; (try clear hb); (try clear hb2); (try clear hk); (try clear hi); (try simp only [errW_none, errW_some])) | ((with_reducible refine gC (f := 6) rfl ?_); (with_reducible refine gD (N := 39) rfl ?_); refine goesY_ (some 39) Tryd.func6 #[.int .i64 t596, .int .u64 a1, .int .i64 0] ?_; (with_reducible refine (ints_Whole.calls k t596 a1 0 t599 (some q630) _ A6.out).mono ?_); rintro e w99 ⟨rfl, hb⟩; refine ⟨_, rfl, ?_⟩; have n0_ := Aside0.mk (bS3 HB.out hb); clear HB; have HB := n0_; clear n0_; (try clear hb); (try clear hb2); (try clear hk); (try clear hi); (try simp only [errW_none, errW_some])) | ((with_reducible refine gC (f := 6) rfl ?_); (with_reducible refine gD (N := 45) rfl ?_); refine goesY_ (some 45) Tryd.func6 #[.int .i64 t596, .int .u64 a1, .int .i64 1] ?_; (with_reducible refine (ints_Whole.calls k t596 a1 1 t601 (some q631) _ A7.out).mono ?_); rintro e w100 ⟨rfl, hb⟩; refine ⟨_, rfl, ?_⟩; have n0_ := Aside0.mk (bS3 HB.out hb); clear HB; have HB := n0_; clear n0_; (try clear hb); (try clear hb2); (try clear hk); (try clear hi); (try simp only [errW_none, errW_some])) | ((with_reducible refine gC (f := 6) rfl ?_); (with_reducible refine gD (N := 51) rfl ?_); refine goesY_ (some 51) Tryd.func6 #[.int .i64 t596, .int .u64 a1, .int .i64 2] ?_; (with_reducible refine (ints_Whole.calls k t596 a1 2 t603 (some q632) _ A8.out).mono ?_); rintro e w101 ⟨rfl, hb⟩; refine ⟨_, rfl, ?_⟩; have n0_ := Aside0.mk (bS3 HB.out hb); clear HB; have HB := n0_; clear n0_; (try clear hb); (try clear hb2); (try clear hk); (try clear hi); (try simp only [errW_none, errW_some])) | ((with_reducible refine gC (f := 6) rfl ?_); (with_reducible refine gD (N := 57) rfl ?_); refine goesY_ (some 57) Tryd.func6 #[.int .i64 t596, .int .u64 a1, .int .i64 3] ?_; (with_reducible refine (ints_Whole.calls k t596 a1 3 t605 (some q633) _ A9.out).mono ?_); rintro e w102 ⟨rfl, hb⟩; refine ⟨_, rfl, ?_⟩; have n0_ := Aside0.mk (bS3 HB.out hb); clear HB; have HB := n0_; clear n0_; (try clear hb); (try clear hb2); (try clear hk); (try clear hi); (try simp only [errW_none, errW_some])) | ((with_reducible refine gC (f := 13) rfl ?_); (with_reducible refine gD (N := 66) rfl ?_); refine goesY_ (some 66) Tryd.func13 #[.int .i64 t596] ?_; (with_reducible refine (vernierlaw16_nar.calls k t596 t627 _ A46.out).mono ?_); rintro e w' ⟨rfl, ⟨nd, rfl⟩⟩; refine ⟨_, rfl, ?_⟩) | ((with_reducible refine gC (f := 12) rfl ?_); (with_reducible refine gD (N := 67) rfl ?_); refine goesY_ (some 67) Tryd.func12 #[.int .i64 t596, .int .u64 a1, .int .u64 t627] ?_; (with_reducible refine (order_Cmp.calls t596 a1 t627 t628 t629 _ A47.out).mono ?_); rintro e w' ⟨rfl, ⟨nd, rfl⟩⟩; refine ⟨_, rfl, ?_⟩; (try simp only [errW_none, errW_some])))
                          go_ret
                          exact ⟨eR3, bR3 HB.out⟩
                  · rw [if_neg c70] at H
                    have c70b0 : (q632 == 9) = false := beq_eq_false_iff_ne.mpr c70
                    have c70b1 : (q632 != 9) = true := bne_iff_ne.mpr c70
                    obtain rfl := Option.some.inj H
                    go_enter Tryd.func4, Tryd.ntmps4
                    as_aux_lemma =>
                      go_wp2_with (first | ((with_reducible refine gC (f := 5) rfl ?_); (with_reducible refine gD (N := 27) rfl ?_); refine goesY_ (some 27) Tryd.func5 #[] ?_; (with_reducible refine (vernierlaw16_shown.calls k  true _ A3.out).mono ?_); rintro e w103 ⟨rfl, hb⟩; refine ⟨_, rfl, ?_⟩; have n0_ := Aside0.mk (bS3 HB.out hb); clear HB; have HB := n0_; clear n0_; (try clear hb); (try clear hb2); (try clear hk); (try clear hi)) | ((with_reducible refine gC (f := 11) rfl ?_); (with_reducible refine gD (N := 29) rfl ?_); refine goesY_ (some 29) Tryd.func11 #[.int .i64 a0] ?_; (with_reducible refine (vernierlaw16_width.calls k a0 t596 _ A4.out).mono ?_); rintro e w' ⟨rfl, ⟨nd, rfl⟩⟩; refine ⟨_, rfl, ?_⟩) | ((with_reducible refine gC (f := 7) rfl ?_); (with_reducible refine gD (N := 33) rfl ?_); refine goesY_ (some 33) Tryd.func7 #[.int .i64 t596, .int .u64 a1] ?_; (with_reducible refine (ints_IsWhole.calls k t596 a1 t597 (some q607) _ (tz3 HT) A5.out).mono ?_); rintro e w104 ⟨rfl, hb⟩; refine ⟨_, rfl, ?_⟩; have n0_ := Aside0.mk (bS3 HB.out hb); clear HB; have HB := n0_; clear n0_; (try clear hb); (try clear hb2); (try clear hk); (try clear hi); (try simp only [errW_none, errW_some])) | ((with_reducible refine gC (f := 6) rfl ?_); (with_reducible refine gD (N := 39) rfl ?_); refine goesY_ (some 39) Tryd.func6 #[.int .i64 t596, .int .u64 a1, .int .i64 0] ?_; (with_reducible refine (ints_Whole.calls k t596 a1 0 t599 (some q630) _ A6.out).mono ?_); rintro e w105 ⟨rfl, hb⟩; refine ⟨_, rfl, ?_⟩; have n0_ := Aside0.mk (bS3 HB.out hb); clear HB; have HB := n0_; clear n0_; (try clear hb); (try clear hb2); (try clear hk); (try clear hi); (try simp only [errW_none, errW_some])) | ((with_reducible refine gC (f := 6) rfl ?_); (with_reducible refine gD (N := 45) rfl ?_); refine goesY_ (some 45) Tryd.func6 #[.int .i64 t596, .int .u64 a1, .int .i64 1] ?_; (with_reducible refine (ints_Whole.calls k t596 a1 1 t601 (some q631) _ A7.out).mono ?_); rintro e w106 ⟨rfl, hb⟩; refine ⟨_, rfl, ?_⟩; have n0_ := Aside0.mk (bS3 HB.out hb); clear HB; have HB := n0_; clear n0_; (try clear hb); (try clear hb2); (try clear hk); (try clear hi); (try simp only [errW_none, errW_some])) | ((with_reducible refine gC (f := 6) rfl ?_); (with_reducible refine gD (N := 51) rfl ?_); refine goesY_ (some 51) Tryd.func6 #[.int .i64 t596, .int .u64 a1, .int .i64 2] ?_; (with_reducible refine (ints_Whole.calls k t596 a1 2 t603 (some q632) _ A8.out).mono ?_); rintro e w107 ⟨rfl, hb⟩; refine ⟨_, rfl, ?_⟩; have n0_ := Aside0.mk (bS3 HB.out hb); clear HB; have HB := n0_; clear n0_; (try clear hb); (try clear hb2); (try clear hk); (try clear hi); (try simp only [errW_none, errW_some])) | ((with_reducible refine gC (f := 6) rfl ?_); (with_reducible refine gD (N := 57) rfl ?_); refine goesY_ (some 57) Tryd.func6 #[.int .i64 t596, .int .u64 a1, .int .i64 3] ?_; (with_reducible refine (ints_Whole.calls k t596 a1 3 t605 t606 _ A9.out).mono ?_); rintro e w108 ⟨rfl, hb⟩; refine ⟨_, rfl, ?_⟩; have n0_ := Aside0.mk (bS3 HB.out hb); clear HB; have HB := n0_; clear n0_; (try clear hb); (try clear hb2); (try clear hk); (try clear hi); (try simp only [errW_none, errW_some])) | ((with_reducible refine gC (f := 13) rfl ?_); (with_reducible refine gD (N := 66) rfl ?_); refine goesY_ (some 66) Tryd.func13 #[.int .i64 t596] ?_; (with_reducible refine (vernierlaw16_nar.calls k t596 t627 _ A46.out).mono ?_); rintro e w' ⟨rfl, ⟨nd, rfl⟩⟩; refine ⟨_, rfl, ?_⟩) | ((with_reducible refine gC (f := 12) rfl ?_); (with_reducible refine gD (N := 67) rfl ?_); refine goesY_ (some 67) Tryd.func12 #[.int .i64 t596, .int .u64 a1, .int .u64 t627] ?_; (with_reducible refine (order_Cmp.calls t596 a1 t627 t628 t629 _ A47.out).mono ?_); rintro e w' ⟨rfl, ⟨nd, rfl⟩⟩; refine ⟨_, rfl, ?_⟩; (try simp only [errW_none, errW_some])))
                      go_ret
                      exact ⟨eR3, bR3 HB.out⟩
              · rw [if_neg c63] at H
                have c63b0 : (q631 == 9) = false := beq_eq_false_iff_ne.mpr c63
                have c63b1 : (q631 != 9) = true := bne_iff_ne.mpr c63
                obtain rfl := Option.some.inj H
                go_enter Tryd.func4, Tryd.ntmps4
                as_aux_lemma =>
                  go_wp2_with (first | ((with_reducible refine gC (f := 5) rfl ?_); (with_reducible refine gD (N := 27) rfl ?_); refine goesY_ (some 27) Tryd.func5 #[] ?_; (with_reducible refine (vernierlaw16_shown.calls k  true _ A3.out).mono ?_); rintro e w109 ⟨rfl, hb⟩; refine ⟨_, rfl, ?_⟩; have n0_ := Aside0.mk (bS3 HB.out hb); clear HB; have HB := n0_; clear n0_; (try clear hb); (try clear hb2); (try clear hk); (try clear hi)) | ((with_reducible refine gC (f := 11) rfl ?_); (with_reducible refine gD (N := 29) rfl ?_); refine goesY_ (some 29) Tryd.func11 #[.int .i64 a0] ?_; (with_reducible refine (vernierlaw16_width.calls k a0 t596 _ A4.out).mono ?_); rintro e w' ⟨rfl, ⟨nd, rfl⟩⟩; refine ⟨_, rfl, ?_⟩) | ((with_reducible refine gC (f := 7) rfl ?_); (with_reducible refine gD (N := 33) rfl ?_); refine goesY_ (some 33) Tryd.func7 #[.int .i64 t596, .int .u64 a1] ?_; (with_reducible refine (ints_IsWhole.calls k t596 a1 t597 (some q607) _ (tz3 HT) A5.out).mono ?_); rintro e w110 ⟨rfl, hb⟩; refine ⟨_, rfl, ?_⟩; have n0_ := Aside0.mk (bS3 HB.out hb); clear HB; have HB := n0_; clear n0_; (try clear hb); (try clear hb2); (try clear hk); (try clear hi); (try simp only [errW_none, errW_some])) | ((with_reducible refine gC (f := 6) rfl ?_); (with_reducible refine gD (N := 39) rfl ?_); refine goesY_ (some 39) Tryd.func6 #[.int .i64 t596, .int .u64 a1, .int .i64 0] ?_; (with_reducible refine (ints_Whole.calls k t596 a1 0 t599 (some q630) _ A6.out).mono ?_); rintro e w111 ⟨rfl, hb⟩; refine ⟨_, rfl, ?_⟩; have n0_ := Aside0.mk (bS3 HB.out hb); clear HB; have HB := n0_; clear n0_; (try clear hb); (try clear hb2); (try clear hk); (try clear hi); (try simp only [errW_none, errW_some])) | ((with_reducible refine gC (f := 6) rfl ?_); (with_reducible refine gD (N := 45) rfl ?_); refine goesY_ (some 45) Tryd.func6 #[.int .i64 t596, .int .u64 a1, .int .i64 1] ?_; (with_reducible refine (ints_Whole.calls k t596 a1 1 t601 (some q631) _ A7.out).mono ?_); rintro e w112 ⟨rfl, hb⟩; refine ⟨_, rfl, ?_⟩; have n0_ := Aside0.mk (bS3 HB.out hb); clear HB; have HB := n0_; clear n0_; (try clear hb); (try clear hb2); (try clear hk); (try clear hi); (try simp only [errW_none, errW_some])) | ((with_reducible refine gC (f := 6) rfl ?_); (with_reducible refine gD (N := 51) rfl ?_); refine goesY_ (some 51) Tryd.func6 #[.int .i64 t596, .int .u64 a1, .int .i64 2] ?_; (with_reducible refine (ints_Whole.calls k t596 a1 2 t603 t604 _ A8.out).mono ?_); rintro e w113 ⟨rfl, hb⟩; refine ⟨_, rfl, ?_⟩; have n0_ := Aside0.mk (bS3 HB.out hb); clear HB; have HB := n0_; clear n0_; (try clear hb); (try clear hb2); (try clear hk); (try clear hi); (try simp only [errW_none, errW_some])) | ((with_reducible refine gC (f := 6) rfl ?_); (with_reducible refine gD (N := 57) rfl ?_); refine goesY_ (some 57) Tryd.func6 #[.int .i64 t596, .int .u64 a1, .int .i64 3] ?_; (with_reducible refine (ints_Whole.calls k t596 a1 3 t605 t606 _ A9.out).mono ?_); rintro e w114 ⟨rfl, hb⟩; refine ⟨_, rfl, ?_⟩; have n0_ := Aside0.mk (bS3 HB.out hb); clear HB; have HB := n0_; clear n0_; (try clear hb); (try clear hb2); (try clear hk); (try clear hi); (try simp only [errW_none, errW_some])) | ((with_reducible refine gC (f := 13) rfl ?_); (with_reducible refine gD (N := 66) rfl ?_); refine goesY_ (some 66) Tryd.func13 #[.int .i64 t596] ?_; (with_reducible refine (vernierlaw16_nar.calls k t596 t627 _ A46.out).mono ?_); rintro e w' ⟨rfl, ⟨nd, rfl⟩⟩; refine ⟨_, rfl, ?_⟩) | ((with_reducible refine gC (f := 12) rfl ?_); (with_reducible refine gD (N := 67) rfl ?_); refine goesY_ (some 67) Tryd.func12 #[.int .i64 t596, .int .u64 a1, .int .u64 t627] ?_; (with_reducible refine (order_Cmp.calls t596 a1 t627 t628 t629 _ A47.out).mono ?_); rintro e w' ⟨rfl, ⟨nd, rfl⟩⟩; refine ⟨_, rfl, ?_⟩; (try simp only [errW_none, errW_some])))
                  go_ret
                  exact ⟨eR3, bR3 HB.out⟩
          · rw [if_neg c56] at H
            have c56b0 : (q630 == 9) = false := beq_eq_false_iff_ne.mpr c56
            have c56b1 : (q630 != 9) = true := bne_iff_ne.mpr c56
            obtain rfl := Option.some.inj H
            go_enter Tryd.func4, Tryd.ntmps4
            as_aux_lemma =>
              go_wp2_with (first | ((with_reducible refine gC (f := 5) rfl ?_); (with_reducible refine gD (N := 27) rfl ?_); refine goesY_ (some 27) Tryd.func5 #[] ?_; (with_reducible refine (vernierlaw16_shown.calls k  true _ A3.out).mono ?_); rintro e w115 ⟨rfl, hb⟩; refine ⟨_, rfl, ?_⟩; have n0_ := Aside0.mk (bS3 HB.out hb); clear HB; have HB := n0_; clear n0_; (try clear hb); (try clear hb2); (try clear hk); (try clear hi)) | ((with_reducible refine gC (f := 11) rfl ?_); (with_reducible refine gD (N := 29) rfl ?_); refine goesY_ (some 29) Tryd.func11 #[.int .i64 a0] ?_; (with_reducible refine (vernierlaw16_width.calls k a0 t596 _ A4.out).mono ?_); rintro e w' ⟨rfl, ⟨nd, rfl⟩⟩; refine ⟨_, rfl, ?_⟩) | ((with_reducible refine gC (f := 7) rfl ?_); (with_reducible refine gD (N := 33) rfl ?_); refine goesY_ (some 33) Tryd.func7 #[.int .i64 t596, .int .u64 a1] ?_; (with_reducible refine (ints_IsWhole.calls k t596 a1 t597 (some q607) _ (tz3 HT) A5.out).mono ?_); rintro e w116 ⟨rfl, hb⟩; refine ⟨_, rfl, ?_⟩; have n0_ := Aside0.mk (bS3 HB.out hb); clear HB; have HB := n0_; clear n0_; (try clear hb); (try clear hb2); (try clear hk); (try clear hi); (try simp only [errW_none, errW_some])) | ((with_reducible refine gC (f := 6) rfl ?_); (with_reducible refine gD (N := 39) rfl ?_); refine goesY_ (some 39) Tryd.func6 #[.int .i64 t596, .int .u64 a1, .int .i64 0] ?_; (with_reducible refine (ints_Whole.calls k t596 a1 0 t599 (some q630) _ A6.out).mono ?_); rintro e w117 ⟨rfl, hb⟩; refine ⟨_, rfl, ?_⟩; have n0_ := Aside0.mk (bS3 HB.out hb); clear HB; have HB := n0_; clear n0_; (try clear hb); (try clear hb2); (try clear hk); (try clear hi); (try simp only [errW_none, errW_some])) | ((with_reducible refine gC (f := 6) rfl ?_); (with_reducible refine gD (N := 45) rfl ?_); refine goesY_ (some 45) Tryd.func6 #[.int .i64 t596, .int .u64 a1, .int .i64 1] ?_; (with_reducible refine (ints_Whole.calls k t596 a1 1 t601 t602 _ A7.out).mono ?_); rintro e w118 ⟨rfl, hb⟩; refine ⟨_, rfl, ?_⟩; have n0_ := Aside0.mk (bS3 HB.out hb); clear HB; have HB := n0_; clear n0_; (try clear hb); (try clear hb2); (try clear hk); (try clear hi); (try simp only [errW_none, errW_some])) | ((with_reducible refine gC (f := 6) rfl ?_); (with_reducible refine gD (N := 51) rfl ?_); refine goesY_ (some 51) Tryd.func6 #[.int .i64 t596, .int .u64 a1, .int .i64 2] ?_; (with_reducible refine (ints_Whole.calls k t596 a1 2 t603 t604 _ A8.out).mono ?_); rintro e w119 ⟨rfl, hb⟩; refine ⟨_, rfl, ?_⟩; have n0_ := Aside0.mk (bS3 HB.out hb); clear HB; have HB := n0_; clear n0_; (try clear hb); (try clear hb2); (try clear hk); (try clear hi); (try simp only [errW_none, errW_some])) | ((with_reducible refine gC (f := 6) rfl ?_); (with_reducible refine gD (N := 57) rfl ?_); refine goesY_ (some 57) Tryd.func6 #[.int .i64 t596, .int .u64 a1, .int .i64 3] ?_; (with_reducible refine (ints_Whole.calls k t596 a1 3 t605 t606 _ A9.out).mono ?_); rintro e w120 ⟨rfl, hb⟩; refine ⟨_, rfl, ?_⟩; have n0_ := Aside0.mk (bS3 HB.out hb); clear HB; have HB := n0_; clear n0_; (try clear hb); (try clear hb2); (try clear hk); (try clear hi); (try simp only [errW_none, errW_some])) | ((with_reducible refine gC (f := 13) rfl ?_); (with_reducible refine gD (N := 66) rfl ?_); refine goesY_ (some 66) Tryd.func13 #[.int .i64 t596] ?_; (with_reducible refine (vernierlaw16_nar.calls k t596 t627 _ A46.out).mono ?_); rintro e w' ⟨rfl, ⟨nd, rfl⟩⟩; refine ⟨_, rfl, ?_⟩) | ((with_reducible refine gC (f := 12) rfl ?_); (with_reducible refine gD (N := 67) rfl ?_); refine goesY_ (some 67) Tryd.func12 #[.int .i64 t596, .int .u64 a1, .int .u64 t627] ?_; (with_reducible refine (order_Cmp.calls t596 a1 t627 t628 t629 _ A47.out).mono ?_); rintro e w' ⟨rfl, ⟨nd, rfl⟩⟩; refine ⟨_, rfl, ?_⟩; (try simp only [errW_none, errW_some])))
              go_ret
              exact ⟨eR3, bR3 HB.out⟩
      · rw [if_neg c49] at H
        have c49b0 : (q607 == 9) = false := beq_eq_false_iff_ne.mpr c49
        have c49b1 : (q607 != 9) = true := bne_iff_ne.mpr c49
        obtain rfl := Option.some.inj H
        go_enter Tryd.func4, Tryd.ntmps4
        as_aux_lemma =>
          go_wp2_with (first | ((with_reducible refine gC (f := 5) rfl ?_); (with_reducible refine gD (N := 27) rfl ?_); refine goesY_ (some 27) Tryd.func5 #[] ?_; (with_reducible refine (vernierlaw16_shown.calls k  true _ A3.out).mono ?_); rintro e w121 ⟨rfl, hb⟩; refine ⟨_, rfl, ?_⟩; have n0_ := Aside0.mk (bS3 HB.out hb); clear HB; have HB := n0_; clear n0_; (try clear hb); (try clear hb2); (try clear hk); (try clear hi)) | ((with_reducible refine gC (f := 11) rfl ?_); (with_reducible refine gD (N := 29) rfl ?_); refine goesY_ (some 29) Tryd.func11 #[.int .i64 a0] ?_; (with_reducible refine (vernierlaw16_width.calls k a0 t596 _ A4.out).mono ?_); rintro e w' ⟨rfl, ⟨nd, rfl⟩⟩; refine ⟨_, rfl, ?_⟩) | ((with_reducible refine gC (f := 7) rfl ?_); (with_reducible refine gD (N := 33) rfl ?_); refine goesY_ (some 33) Tryd.func7 #[.int .i64 t596, .int .u64 a1] ?_; (with_reducible refine (ints_IsWhole.calls k t596 a1 t597 (some q607) _ (tz3 HT) A5.out).mono ?_); rintro e w122 ⟨rfl, hb⟩; refine ⟨_, rfl, ?_⟩; have n0_ := Aside0.mk (bS3 HB.out hb); clear HB; have HB := n0_; clear n0_; (try clear hb); (try clear hb2); (try clear hk); (try clear hi); (try simp only [errW_none, errW_some])) | ((with_reducible refine gC (f := 6) rfl ?_); (with_reducible refine gD (N := 39) rfl ?_); refine goesY_ (some 39) Tryd.func6 #[.int .i64 t596, .int .u64 a1, .int .i64 0] ?_; (with_reducible refine (ints_Whole.calls k t596 a1 0 t599 t600 _ A6.out).mono ?_); rintro e w123 ⟨rfl, hb⟩; refine ⟨_, rfl, ?_⟩; have n0_ := Aside0.mk (bS3 HB.out hb); clear HB; have HB := n0_; clear n0_; (try clear hb); (try clear hb2); (try clear hk); (try clear hi); (try simp only [errW_none, errW_some])) | ((with_reducible refine gC (f := 6) rfl ?_); (with_reducible refine gD (N := 45) rfl ?_); refine goesY_ (some 45) Tryd.func6 #[.int .i64 t596, .int .u64 a1, .int .i64 1] ?_; (with_reducible refine (ints_Whole.calls k t596 a1 1 t601 t602 _ A7.out).mono ?_); rintro e w124 ⟨rfl, hb⟩; refine ⟨_, rfl, ?_⟩; have n0_ := Aside0.mk (bS3 HB.out hb); clear HB; have HB := n0_; clear n0_; (try clear hb); (try clear hb2); (try clear hk); (try clear hi); (try simp only [errW_none, errW_some])) | ((with_reducible refine gC (f := 6) rfl ?_); (with_reducible refine gD (N := 51) rfl ?_); refine goesY_ (some 51) Tryd.func6 #[.int .i64 t596, .int .u64 a1, .int .i64 2] ?_; (with_reducible refine (ints_Whole.calls k t596 a1 2 t603 t604 _ A8.out).mono ?_); rintro e w125 ⟨rfl, hb⟩; refine ⟨_, rfl, ?_⟩; have n0_ := Aside0.mk (bS3 HB.out hb); clear HB; have HB := n0_; clear n0_; (try clear hb); (try clear hb2); (try clear hk); (try clear hi); (try simp only [errW_none, errW_some])) | ((with_reducible refine gC (f := 6) rfl ?_); (with_reducible refine gD (N := 57) rfl ?_); refine goesY_ (some 57) Tryd.func6 #[.int .i64 t596, .int .u64 a1, .int .i64 3] ?_; (with_reducible refine (ints_Whole.calls k t596 a1 3 t605 t606 _ A9.out).mono ?_); rintro e w126 ⟨rfl, hb⟩; refine ⟨_, rfl, ?_⟩; have n0_ := Aside0.mk (bS3 HB.out hb); clear HB; have HB := n0_; clear n0_; (try clear hb); (try clear hb2); (try clear hk); (try clear hi); (try simp only [errW_none, errW_some])) | ((with_reducible refine gC (f := 13) rfl ?_); (with_reducible refine gD (N := 66) rfl ?_); refine goesY_ (some 66) Tryd.func13 #[.int .i64 t596] ?_; (with_reducible refine (vernierlaw16_nar.calls k t596 t627 _ A46.out).mono ?_); rintro e w' ⟨rfl, ⟨nd, rfl⟩⟩; refine ⟨_, rfl, ?_⟩) | ((with_reducible refine gC (f := 12) rfl ?_); (with_reducible refine gD (N := 67) rfl ?_); refine goesY_ (some 67) Tryd.func12 #[.int .i64 t596, .int .u64 a1, .int .u64 t627] ?_; (with_reducible refine (order_Cmp.calls t596 a1 t627 t628 t629 _ A47.out).mono ?_); rintro e w' ⟨rfl, ⟨nd, rfl⟩⟩; refine ⟨_, rfl, ?_⟩; (try simp only [errW_none, errW_some])))
          go_ret
          exact ⟨eR3, bR3 HB.out⟩
    · replace c48 := Bool.eq_false_iff.mpr c48
      subst c48
      rw [if_neg (show ¬ (false = true) by decide)] at H
      obtain rfl := Option.some.inj H
      go_enter Tryd.func4, Tryd.ntmps4
      as_aux_lemma =>
        go_wp2_with (first | ((with_reducible refine gC (f := 5) rfl ?_); (with_reducible refine gD (N := 27) rfl ?_); refine goesY_ (some 27) Tryd.func5 #[] ?_; (with_reducible refine (vernierlaw16_shown.calls k  false _ A3.out).mono ?_); rintro e w127 ⟨rfl, hb⟩; refine ⟨_, rfl, ?_⟩; have n0_ := Aside0.mk (bS3 HB.out hb); clear HB; have HB := n0_; clear n0_; (try clear hb); (try clear hb2); (try clear hk); (try clear hi)) | ((with_reducible refine gC (f := 11) rfl ?_); (with_reducible refine gD (N := 29) rfl ?_); refine goesY_ (some 29) Tryd.func11 #[.int .i64 a0] ?_; (with_reducible refine (vernierlaw16_width.calls k a0 t596 _ A4.out).mono ?_); rintro e w' ⟨rfl, ⟨nd, rfl⟩⟩; refine ⟨_, rfl, ?_⟩) | ((with_reducible refine gC (f := 7) rfl ?_); (with_reducible refine gD (N := 33) rfl ?_); refine goesY_ (some 33) Tryd.func7 #[.int .i64 t596, .int .u64 a1] ?_; (with_reducible refine (ints_IsWhole.calls k t596 a1 t597 (some q607) _ (tz3 HT) A5.out).mono ?_); rintro e w128 ⟨rfl, hb⟩; refine ⟨_, rfl, ?_⟩; have n0_ := Aside0.mk (bS3 HB.out hb); clear HB; have HB := n0_; clear n0_; (try clear hb); (try clear hb2); (try clear hk); (try clear hi); (try simp only [errW_none, errW_some])) | ((with_reducible refine gC (f := 6) rfl ?_); (with_reducible refine gD (N := 39) rfl ?_); refine goesY_ (some 39) Tryd.func6 #[.int .i64 t596, .int .u64 a1, .int .i64 0] ?_; (with_reducible refine (ints_Whole.calls k t596 a1 0 t599 t600 _ A6.out).mono ?_); rintro e w129 ⟨rfl, hb⟩; refine ⟨_, rfl, ?_⟩; have n0_ := Aside0.mk (bS3 HB.out hb); clear HB; have HB := n0_; clear n0_; (try clear hb); (try clear hb2); (try clear hk); (try clear hi); (try simp only [errW_none, errW_some])) | ((with_reducible refine gC (f := 6) rfl ?_); (with_reducible refine gD (N := 45) rfl ?_); refine goesY_ (some 45) Tryd.func6 #[.int .i64 t596, .int .u64 a1, .int .i64 1] ?_; (with_reducible refine (ints_Whole.calls k t596 a1 1 t601 t602 _ A7.out).mono ?_); rintro e w130 ⟨rfl, hb⟩; refine ⟨_, rfl, ?_⟩; have n0_ := Aside0.mk (bS3 HB.out hb); clear HB; have HB := n0_; clear n0_; (try clear hb); (try clear hb2); (try clear hk); (try clear hi); (try simp only [errW_none, errW_some])) | ((with_reducible refine gC (f := 6) rfl ?_); (with_reducible refine gD (N := 51) rfl ?_); refine goesY_ (some 51) Tryd.func6 #[.int .i64 t596, .int .u64 a1, .int .i64 2] ?_; (with_reducible refine (ints_Whole.calls k t596 a1 2 t603 t604 _ A8.out).mono ?_); rintro e w131 ⟨rfl, hb⟩; refine ⟨_, rfl, ?_⟩; have n0_ := Aside0.mk (bS3 HB.out hb); clear HB; have HB := n0_; clear n0_; (try clear hb); (try clear hb2); (try clear hk); (try clear hi); (try simp only [errW_none, errW_some])) | ((with_reducible refine gC (f := 6) rfl ?_); (with_reducible refine gD (N := 57) rfl ?_); refine goesY_ (some 57) Tryd.func6 #[.int .i64 t596, .int .u64 a1, .int .i64 3] ?_; (with_reducible refine (ints_Whole.calls k t596 a1 3 t605 t606 _ A9.out).mono ?_); rintro e w132 ⟨rfl, hb⟩; refine ⟨_, rfl, ?_⟩; have n0_ := Aside0.mk (bS3 HB.out hb); clear HB; have HB := n0_; clear n0_; (try clear hb); (try clear hb2); (try clear hk); (try clear hi); (try simp only [errW_none, errW_some])) | ((with_reducible refine gC (f := 13) rfl ?_); (with_reducible refine gD (N := 66) rfl ?_); refine goesY_ (some 66) Tryd.func13 #[.int .i64 t596] ?_; (with_reducible refine (vernierlaw16_nar.calls k t596 t627 _ A46.out).mono ?_); rintro e w' ⟨rfl, ⟨nd, rfl⟩⟩; refine ⟨_, rfl, ?_⟩) | ((with_reducible refine gC (f := 12) rfl ?_); (with_reducible refine gD (N := 67) rfl ?_); refine goesY_ (some 67) Tryd.func12 #[.int .i64 t596, .int .u64 a1, .int .u64 t627] ?_; (with_reducible refine (order_Cmp.calls t596 a1 t627 t628 t629 _ A47.out).mono ?_); rintro e w' ⟨rfl, ⟨nd, rfl⟩⟩; refine ⟨_, rfl, ?_⟩; (try simp only [errW_none, errW_some])))
        go_ret
        exact ⟨eR3, bR3 HB.out⟩
/-- THE ONE PURE STATEMENT of vernierlaw16_IntsModes: yours. -/
def vernierlaw16_IntsModes.Pure : Prop := ∀ (a0 : Int) (a1 : Int), (Lit.int .i64 a0).wf = true → (Lit.int .u64 a1).wf = true → ∃ k, vernierlaw16_IntsModes.f k a0 a1 = some true
theorem vernierlaw16_IntsModes.walk (P : vernierlaw16_IntsModes.Pure) (a0 : Int) (a1 : Int) (w : World) (HT : Tz w) (w0 : (Lit.int .i64 a0).wf = true) (w1 : (Lit.int .u64 a1).wf = true) :
    Calls Tryd.prog 4 #[.int .i64 a0, .int .u64 a1] w fun e w' => e = .returned (.bool true) ∧ Below w.heap.size w w' := by
  obtain ⟨k, h⟩ := P a0 a1 w0 w1
  refine (vernierlaw16_IntsModes.calls k a0 a1 true w HT h).mono ?_
  rintro e w' ⟨rfl, hd⟩
  exact ⟨rfl, hd⟩
end Go.Proofs.YtlllaoihpkdpmaaDoor.F
