/- Functions of the given program as plain Lean functions, and for each a proof that the program's call comes to just these answers; no further conditions. (Written by a program of this repo out of the translation.) -/
import Derived.Test.YtogldofffdiflaaF0a
import Derived.Test.YtogldofffdiflaaF3a
import Derived.Test.YtogldofffdiflaaF4a
import Derived.Test.YtogldofffdiflaaF5a
import Derived.Test.YtogldofffdiflaaF6a
namespace Go.Proofs.Ytogldofffdiflaa.F
open Go.RowKit Go.Proofs.YtogldofffdiflaaW.PrintWords Go.Proofs.YtogldofffdiflaaW.PrintLast Go.Proofs.YtogldofffdiflaaW.PrintMore
attribute [local go_sem high] xor_u64 xor_u32 eqErr25 neErr25 eqErrL25 neErrL25
attribute [local go_sem] max2_int min2_int max_two min_two max_three min_three max_four min_four   -- for this text's walks alone
set_option linter.unusedVariables false
set_option linter.unusedSimpArgs false
def vernierlaw01_LeadReads.f (k : Nat) (a0 : ByteArray) : Option (Bool) := (vernierlaw01_up.f k).bind fun t122 => ((lead_Read.f k a0).bind fun bt123 => ((vernierref01_Read.f k a0).bind fun bt125 => (if t122 = true then (if bt123.1 = bt125.1 then ((vernierlaw00_Code.f bt123.2).bind fun t127 => (some (t127 == bt125.2))) else (some false)) else (some false))))
set_option maxHeartbeats 8000000 in
set_option maxRecDepth 100000 in
theorem vernierlaw01_LeadReads.calls (k : Nat) (a0 : ByteArray) (r : Bool) (w : World) (h : vernierlaw01_LeadReads.f k a0 = some r) :
  Calls Try.prog 3 #[.string a0] w fun e w' => e = .returned (.bool r) ∧ Below w.heap.size w w' := by
 have HB := Aside0.mk (Below.refl w.heap.size w)
 have H : ((vernierlaw01_up.f k).bind fun t122 => ((lead_Read.f k a0).bind fun bt123 => ((vernierref01_Read.f k a0).bind fun bt125 => (if t122 = true then (if bt123.1 = bt125.1 then ((vernierlaw00_Code.f bt123.2).bind fun t127 => (some (t127 == bt125.2))) else (some false)) else (some false))))) = some r := h
 clear h
 replace H := Option.bind_eq_some_iff.mp H
 obtain ⟨t122, A20, H⟩ := H
 try dsimp -simprocs only at H
 have A2 := Aside0.mk A20
 clear A20
 replace H := Option.bind_eq_some_iff.mp H
 obtain ⟨⟨t123, t124⟩, A30, H⟩ := H
 try dsimp -simprocs only at H
 have A3 := Aside0.mk A30
 clear A30
 replace H := Option.bind_eq_some_iff.mp H
 obtain ⟨⟨t125, t126⟩, A40, H⟩ := H
 try dsimp -simprocs only at H
 have A4 := Aside0.mk A40
 clear A40
 by_cases c5 : t122 = true
 ·
  subst c5
  rw [if_pos rfl] at H
  by_cases c6 : t123 = t125
  ·
   rw [if_pos c6] at H
   have c6b0 : (t123 == t125) = true := beq_iff_eq.mpr c6
   have c6b1 : (t123 != t125) = false := bne_eq_false_iff_eq.mpr c6
   clear c6
   replace H := Option.bind_eq_some_iff.mp H
   obtain ⟨t127, A70, H⟩ := H
   try dsimp -simprocs only at H
   have A7 := Aside0.mk A70
   clear A70
   obtain rfl := Option.some.inj H
   go_enter Try.func3, Try.ntmps3
   go_wp2_with (first | ((with_reducible refine gX_ 5 8 rfl rfl ?_); refine goesY_ (some 8) Try.func5 #[] ?_; (with_reducible refine (vernierlaw01_up.calls k  true _ A2.out).mono ?_); rintro e w8 ⟨rfl, hb⟩; refine ⟨_, rfl, ?_⟩; replace HB := Aside0.mk (bS3 HB.out hb); (try clear hb); (try clear hk)) | ((with_reducible refine gX_ 6 11 rfl rfl ?_); refine goesY_ (some 11) Try.func6 #[.string a0] ?_; (with_reducible refine (lead_Read.calls k a0 t123 t124 _ A3.out).mono ?_); rintro e w9 ⟨rfl, hb⟩; refine ⟨_, rfl, ?_⟩; replace HB := Aside0.mk (bS3 HB.out hb); (try clear hb); (try clear hk); (try simp only [errW_none, errW_some])) | ((with_reducible refine gX_ 7 16 rfl rfl ?_); refine goesY_ (some 16) Try.func7 #[.string a0] ?_; (with_reducible refine (vernierref01_Read.calls k a0 t125 t126 _ A4.out).mono ?_); rintro e w' ⟨rfl, ⟨nd, rfl⟩⟩; refine ⟨_, rfl, ?_⟩; have CA7 := fun W => vernierlaw00_Code.calls t124 t127 W A7.out; try simp only [errW_none, errW_some] at CA7) | (go_at_call 8; (with_reducible refine (CA7 _).mono ?_); rintro e w' ⟨rfl, ⟨nd, rfl⟩⟩))
   go_ret
   exact ⟨eR3, bR3 HB.out⟩
  ·
   rw [if_neg c6] at H
   have c6b0 : (t123 == t125) = false := beq_eq_false_iff_ne.mpr c6
   have c6b1 : (t123 != t125) = true := bne_iff_ne.mpr c6
   obtain rfl := Option.some.inj H
   go_enter Try.func3, Try.ntmps3
   go_wp2_with (first | ((with_reducible refine gX_ 5 8 rfl rfl ?_); refine goesY_ (some 8) Try.func5 #[] ?_; (with_reducible refine (vernierlaw01_up.calls k  true _ A2.out).mono ?_); rintro e w10 ⟨rfl, hb⟩; refine ⟨_, rfl, ?_⟩; replace HB := Aside0.mk (bS3 HB.out hb); (try clear hb); (try clear hk)) | ((with_reducible refine gX_ 6 11 rfl rfl ?_); refine goesY_ (some 11) Try.func6 #[.string a0] ?_; (with_reducible refine (lead_Read.calls k a0 t123 t124 _ A3.out).mono ?_); rintro e w11 ⟨rfl, hb⟩; refine ⟨_, rfl, ?_⟩; replace HB := Aside0.mk (bS3 HB.out hb); (try clear hb); (try clear hk); (try simp only [errW_none, errW_some])) | ((with_reducible refine gX_ 7 16 rfl rfl ?_); refine goesY_ (some 16) Try.func7 #[.string a0] ?_; (with_reducible refine (vernierref01_Read.calls k a0 t125 t126 _ A4.out).mono ?_); rintro e w' ⟨rfl, ⟨nd, rfl⟩⟩; refine ⟨_, rfl, ?_⟩))
   go_ret
   exact ⟨eR3, bR3 HB.out⟩
 ·
  replace c5 := Bool.eq_false_iff.mpr c5
  subst c5
  rw [if_neg (show ¬ (false = true) by decide)] at H
  obtain rfl := Option.some.inj H
  go_enter Try.func3, Try.ntmps3
  go_wp2_with (first | ((with_reducible refine gX_ 5 8 rfl rfl ?_); refine goesY_ (some 8) Try.func5 #[] ?_; (with_reducible refine (vernierlaw01_up.calls k  false _ A2.out).mono ?_); rintro e w12 ⟨rfl, hb⟩; refine ⟨_, rfl, ?_⟩; replace HB := Aside0.mk (bS3 HB.out hb); (try clear hb); (try clear hk)) | ((with_reducible refine gX_ 6 11 rfl rfl ?_); refine goesY_ (some 11) Try.func6 #[.string a0] ?_; (with_reducible refine (lead_Read.calls k a0 t123 t124 _ A3.out).mono ?_); rintro e w13 ⟨rfl, hb⟩; refine ⟨_, rfl, ?_⟩; replace HB := Aside0.mk (bS3 HB.out hb); (try clear hb); (try clear hk); (try simp only [errW_none, errW_some])) | ((with_reducible refine gX_ 7 16 rfl rfl ?_); refine goesY_ (some 16) Try.func7 #[.string a0] ?_; (with_reducible refine (vernierref01_Read.calls k a0 t125 t126 _ A4.out).mono ?_); rintro e w' ⟨rfl, ⟨nd, rfl⟩⟩; refine ⟨_, rfl, ?_⟩))
  go_ret
  exact ⟨eR3, bR3 HB.out⟩
/-- THE ONE PURE STATEMENT of vernierlaw01_LeadReads: yours. -/
def vernierlaw01_LeadReads.Pure : Prop := ∀ (a0 : ByteArray), a0.size ≤ 140737488351232 → ∃ k, vernierlaw01_LeadReads.f k a0 = some true
theorem vernierlaw01_LeadReads.walk (P : vernierlaw01_LeadReads.Pure) (a0 : ByteArray) (w : World) (w0 : a0.size ≤ 140737488351232) :
  Calls Try.prog 3 #[.string a0] w fun e w' => e = .returned (.bool true) ∧ Below w.heap.size w w' := by
 obtain ⟨k, h⟩ := P a0 w0
 refine (vernierlaw01_LeadReads.calls k a0 true w h).mono ?_
 rintro e w' ⟨rfl, hd⟩
 exact ⟨rfl, hd⟩
end Go.Proofs.Ytogldofffdiflaa.F
