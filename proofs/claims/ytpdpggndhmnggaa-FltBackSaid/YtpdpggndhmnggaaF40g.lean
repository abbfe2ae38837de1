/- What the printed walks leave out: a NaN that a change of a float's kind gives is any NaN; From32 of a NaN, To32 of NaR; no further conditions. -/
import Derived.Test.YtpdpggndhmnggaaF12g
namespace Go.Proofs.Ytpdpggndhmnggaa.F
open Go.RowKit Go.Proofs.YtpdpggndhmnggaaW.PrintWords Go.Proofs.YtpdpggndhmnggaaW.PrintLast Go.Proofs.YtpdpggndhmnggaaW.PrintMore
attribute [local go_sem high] xor_u64 xor_u32 eqErr25 neErr25 eqErrL25 neErrL25
attribute [local go_sem] max2_int min2_int max_two min_two max_three min_three max_four min_four   -- for this text's walks alone
set_option linter.unusedVariables false
set_option linter.unusedSimpArgs false
/-- Is it a NaN? -/
def nanB (k : FloatKind) (b : Nat) : Bool := match k.decode b with | .nan _ _ => true | _ => false
/-- The NaN that a change of kind gives in a world. -/
def nanC (k : FloatKind) (b : Nat) (w : World) : Nat := (Question.nanConv k b).cut (w.tape w.drawn (.nanConv k b))
theorem run_conv_nan {P : Program} (src dst : TypeId) (s k : FloatKind) (b : Nat) (hs : (P.underlying src).isSome = true) (hd : P.underlying dst = some (.float k)) (hne : s ≠ k) (hn : nanB s b = true) (w : World) :
  (convert src dst (.float s b)).run P w = .ok (.float k (nanC k b w)) w.drew := by
 obtain ⟨u, hs'⟩ := Option.isSome_iff_exists.1 hs
 unfold nanB at hn
 split at hn
 ·
  rename_i sg fr he
  cases u <;> simp [convert, run_underlying hs', run_underlying hd, Conv.floatToFloat, hne, he, nanC, Question.forced]
 ·
  cases hn
theorem nanC_nan {b : Nat} (w : World) : 9218868437227405312 < nanC .f64 b w % 9223372036854775808 := by
 unfold nanC Question.cut
 generalize w.tape _ _ = t
 show 9218868437227405312 < (t % 2 * 9223372036854775808 + 9218868437227405312 + 1 + t / 2 % 4503599627370495) % 9223372036854775808
 have h1 := Nat.mod_lt t (show 0 < 2 by decide)
 have h2 := Nat.mod_lt (t / 2) (show 0 < 4503599627370495 by decide)
 generalize t % 2 = s at *
 generalize t / 2 % 4503599627370495 = r at *
 rcases (show s = 0 ∨ s = 1 by omega) with h | h <;> subst h <;> omega
theorem nanC_nan32 {b : Nat} (w : World) : 2139095040 < nanC .f32 b w % 2147483648 := by
 unfold nanC Question.cut
 generalize w.tape _ _ = t
 show 2139095040 < (t % 2 * 2147483648 + 2139095040 + 1 + t / 2 % 8388607) % 2147483648
 have h1 := Nat.mod_lt t (show 0 < 2 by decide)
 have h2 := Nat.mod_lt (t / 2) (show 0 < 8388607 by decide)
 generalize t % 2 = s at *
 generalize t / 2 % 8388607 = r at *
 rcases (show s = 0 ∨ s = 1 by omega) with h | h <;> subst h <;> omega
theorem read32_nan {v : Nat} (h : 2139095040 < v % 2147483648) : FloatKind.f32.decode v = .nan (v / 2147483648 % 2 == 1) (v % 2147483648 - 2139095040) := by
 show (if v % 2147483648 < 8388608 then _ else if v % 2147483648 < 2139095040 then _ else if v % 2147483648 = 2139095040 then _ else _) = _
 rw [if_neg (by omega), if_neg (by omega), if_neg (by omega)]; rfl
theorem nanB_of32 {v : Nat} (h : 2139095040 < v % 2147483648) : nanB .f32 v = true := by unfold nanB; rw [read32_nan h]
theorem nan_is {v : Nat} (h : 9218868437227405312 < v % 9223372036854775808) : math_IsNaN.f v = some true := by
 unfold math_IsNaN.f
 have : FloatKind.f64.format.order v v = none := by
  show (Ieee.double.read v).order (Ieee.double.read v) = none
  have e : Ieee.double.read v = .nan (v / 9223372036854775808 % 2 == 1) (v % 9223372036854775808 - 9218868437227405312) := by
   show (if v % 9223372036854775808 < 4503599627370496 then _ else if v % 9223372036854775808 < 9218868437227405312 then _ else if v % 9223372036854775808 = 9218868437227405312 then _ else _) = _
   rw [if_neg (by omega), if_neg (by omega), if_neg (by omega)]; rfl
  rw [e]; rfl
 rw [this]; rfl
theorem From64_any (k : Nat) (a0 : Int) {v u : Nat} (hv : 9218868437227405312 < v % 9223372036854775808) (hu : 9218868437227405312 < u % 9223372036854775808) : flt_From64.f k a0 v = flt_From64.f k a0 u := by
 unfold flt_From64.f
 rw [nan_is hv, nan_is hu]
 simp only [Option.bind_some, ↓reduceIte]
 cases k with
 | zero => rfl
 | succ k => simp only [flt_From64.j0]; rfl
def flt_From32N.f (k : Nat) (a0 : Int) (a1 : Nat) : Option (Int × Option Int) := if nanB .f32 a1 = true then ((flt_From64.f k a0 9221120237041090561).bind fun bt609 => (some (bt609.1, bt609.2))) else flt_From32.f k a0 a1
set_option maxHeartbeats 8000000 in
set_option maxRecDepth 100000 in
theorem flt_From32N.callsN (k : Nat) (a0 : Int) (a1 : Nat) (r1 : Int) (r2 : Option Int) (w : World) (c3 : nanB .f32 a1 = true) (H : ((flt_From64.f k a0 9221120237041090561).bind fun bt609 => (some (bt609.1, bt609.2))) = some (r1, r2)) :
  Calls Try.prog 21 #[.int .i64 a0, .float .f32 a1] w fun e w' => e = .returned (.tuple #[.int .u64 r1, errW r2]) ∧ Below w.heap.size w w' := by
 have HB := Aside0.mk (Below.refl w.heap.size w)
 have c3x0 : ∀ w_ : World, (convert 48 28 (.float .f32 a1)).run Try.prog w_ = .ok (.float .f64 (nanC .f64 a1 w_)) w_.drew := fun w_ => run_conv_nan 48 28 .f32 .f64 a1 rfl Try.underlying28 (by decide) c3 w_
 clear c3
 replace H := Option.bind_eq_some_iff.mp H
 obtain ⟨⟨t609, t610⟩, A40, H⟩ := H
 try dsimp -simprocs only at H
 have A4 : Aside0 (∀ w_ : World, flt_From64.f k a0 (nanC .f64 a1 w_) = some (t609, t610)) := Aside0.mk (fun w_ => (From64_any k a0 (nanC_nan w_) (by decide)).trans A40)
 clear A40
 simp only [Option.some.injEq, Prod.mk.injEq] at H
 obtain ⟨rfl, rfl⟩ := H
 go_enter Try.func21, Try.ntmps21
 go_wp2_with (first | ((with_reducible refine gX_ 11 9 rfl rfl ?_); refine goesY_ (some 9) Try.func11 #[.int .i64 a0, .float .f64 (nanC .f64 a1 _)] ?_; (with_reducible refine (flt_From64.calls k a0 (nanC .f64 a1 _) t609 t610 _ (A4.out _)).mono ?_); rintro e w5 ⟨rfl, hb⟩; refine ⟨_, rfl, ?_⟩; replace HB := Aside0.mk (bS3 HB.out hb); (try clear hb); (try clear hk); (try simp only [errW_none, errW_some])))
 go_ret2
 exact ⟨eR3, bR3 HB.out⟩
theorem flt_From32N.calls (k : Nat) (a0 : Int) (a1 : Nat) (r1 : Int) (r2 : Option Int) (w : World) (h : flt_From32N.f k a0 a1 = some (r1, r2)) :
  Calls Try.prog 21 #[.int .i64 a0, .float .f32 a1] w fun e w' => e = .returned (.tuple #[.int .u64 r1, errW r2]) ∧ Below w.heap.size w w' := by
 unfold flt_From32N.f at h
 by_cases c : nanB .f32 a1 = true
 ·
  rw [if_pos c] at h; exact flt_From32N.callsN k a0 a1 r1 r2 w c h
 ·
  rw [if_neg c] at h; exact flt_From32.calls k a0 a1 r1 r2 w h
set_option maxHeartbeats 8000000 in
set_option maxRecDepth 100000 in
/-- To32 of NaR: any NaN. -/
theorem flt_To32N.calls (k : Nat) (a0 : Int) (a1 : Int) (t307 : Bool) (t308 t309 : Int) (w : World) (h : codec_Decode.f k a0 a1 = some (2, t307, t308, t309, none)) :
  Calls Try.prog 24 #[.int .i64 a0, .int .u64 a1] w fun e w' => (∃ v, 2139095040 < v % 2147483648 ∧ e = .returned (.tuple #[.float .f32 v, errW none])) ∧ Below w.heap.size w w' := by
 have hu42 := Try.underlying42
 have hu25 := Try.underlying25
 have hu40 := Try.underlying40
 have HB := Aside0.mk (Below.refl w.heap.size w)
 obtain ⟨t306, ht⟩ : ∃ t306 : Int, t306 = 2 := ⟨_, rfl⟩
 rw [← ht] at h
 have A3 := Aside0.mk h
 clear h
 have c4b0 : (t306 == 2) = true := beq_iff_eq.mpr ht
 have c4b1 : (t306 != 2) = false := bne_eq_false_iff_eq.mpr ht
 clear ht
 obtain ⟨t313, A50⟩ : ∃ t313, math_NaN.f = some t313 := ⟨_, rfl⟩
 have hnan : nanB .f64 t313 = true := by
  have e : math_NaN.f = some 9221120237041090561 := rfl
  rw [e] at A50; obtain rfl := Option.some.inj A50; decide
 have A5 := Aside0.mk A50
 clear A50
 have c6x0 : ∀ w_ : World, (convert 28 48 (.float .f64 t313)).run Try.prog w_ = .ok (.float .f32 (nanC .f32 t313 w_)) w_.drew := fun w_ => run_conv_nan 28 48 .f64 .f32 t313 rfl Try.underlying48 (by decide) hnan w_
 clear hnan
 go_enter Try.func24, Try.ntmps24
 go_wp2_with (first | ((with_reducible refine gX_ 44 13 rfl rfl ?_); refine goesY_ (some 13) Try.func44 #[.int .i64 a0, .int .u64 a1] ?_; (with_reducible refine (codec_Decode.calls k a0 a1 t306 t307 t308 t309 none _ A3.out).mono ?_); rintro e w7 ⟨rfl, hb⟩; refine ⟨_, rfl, ?_⟩; replace HB := Aside0.mk (bS3 HB.out hb); (try clear hb); (try clear hk); (try simp only [errW_none, errW_some])) | ((with_reducible refine gD (N := 6) rfl ?_); refine bE3 6 #[.int .i64 0, .bool false, .int .i64 0, .int .u64 0] 42 ?hr ?_; (case hr => first | (go_simp; done) | (go_simp; rfl)); intro gb311 hg w8 hbox hb; have BK311 := Aside0.mk (hbox); have GW311 := Aside0.mk ((bZ3 hg HB.out)); have GE311 := Aside0.mk ((bZ3 hg HB.out)); replace HB := Aside0.mk (bS3 HB.out hb); clear hb hbox hg; obtain ⟨hcz9_0, hcz9_1, hcz9_2, hcz9_3, hfz9_0, hfz9_1, hfz9_2, hfz9_3⟩ := cl4 BK311.out) | ((with_reducible refine gX_ 45 24 rfl rfl ?_); refine goesY_ (some 24) Try.func45 #[] ?_; (with_reducible refine (math_NaN.calls  t313 _ A5.out).mono ?_); rintro e w' ⟨rfl, ⟨nd, rfl⟩⟩; refine ⟨_, rfl, ?_⟩))
 go_ret2
 refine ⟨⟨_, ?_, eR3⟩, bR3 HB.out⟩
 exact nanC_nan32 _
end Go.Proofs.Ytpdpggndhmnggaa.F
