/- Functions of the given program as plain Lean functions, and for each a proof that the program's call comes to just these answers; no further conditions. (Written by a program of this repo out of the translation.) -/
import Derived.Test.YtogldofffdiflaaDoorF0a
import Derived.Test.YtogldofffdiflaaDoorF1a
import Derived.Test.YtogldofffdiflaaDoorF2a
import Derived.Test.YtogldofffdiflaaDoorF3a
import Derived.Test.YtogldofffdiflaaDoorF4a
namespace Go.Proofs.YtogldofffdiflaaDoor.F
open Go.RowKit Go.Proofs.YtogldofffdiflaaDoorW.PrintWords Go.Proofs.YtogldofffdiflaaDoorW.PrintLast Go.Proofs.YtogldofffdiflaaDoorW.PrintMore
attribute [local go_sem high] xor_u64 xor_u32
attribute [local go_sem] max2_int min2_int max_two min_two max_three min_three max_four min_four   -- for this text's walks alone
set_option linter.unusedVariables false
set_option linter.unusedSimpArgs false
def vernierlaw01_LeadCounts.f (k : Nat) (a0 : Int) : Option (Bool) := (vernierlaw01_up.f k).bind fun t122 => (if t122 = true then ((lead_Len.f k a0).bind fun t123 => ((vernierref01_Len.f k a0).bind fun t124 => (if t123 = t124 then ((lead_Trail.f a0).bind fun t125 => ((vernierref01_Trail.f k a0).bind fun t126 => (some (t125 == t126)))) else (some false)))) else (some false))
set_option maxHeartbeats 8000000 in
set_option maxRecDepth 100000 in
theorem vernierlaw01_LeadCounts.calls (k : Nat) (a0 : Int) (r : Bool) (w : World) (HT : Tz w) (h : vernierlaw01_LeadCounts.f k a0 = some r) :
  Calls Tryd.prog 3 #[.int .u64 a0] w fun e w' => e = .returned (.bool r) ∧ Below w.heap.size w w' := by
 have HB := Aside0.mk (Below.refl w.heap.size w)
 have H : ((vernierlaw01_up.f k).bind fun t122 => (if t122 = true then ((lead_Len.f k a0).bind fun t123 => ((vernierref01_Len.f k a0).bind fun t124 => (if t123 = t124 then ((lead_Trail.f a0).bind fun t125 => ((vernierref01_Trail.f k a0).bind fun t126 => (some (t125 == t126)))) else (some false)))) else (some false))) = some r := h
 clear h
 replace H := Option.bind_eq_some_iff.mp H
 obtain ⟨t122, A20, H⟩ := H
 try dsimp -simprocs only at H
 have A2 := Aside0.mk A20
 clear A20
 by_cases c3 : t122 = true
 ·
  subst c3
  rw [if_pos rfl] at H
  replace H := Option.bind_eq_some_iff.mp H
  obtain ⟨t123, A40, H⟩ := H
  try dsimp -simprocs only at H
  have A4 := Aside0.mk A40
  clear A40
  replace H := Option.bind_eq_some_iff.mp H
  obtain ⟨t124, A50, H⟩ := H
  try dsimp -simprocs only at H
  have A5 := Aside0.mk A50
  clear A50
  by_cases c6 : t123 = t124
  ·
   rw [if_pos c6] at H
   have c6b0 : (t123 == t124) = true := beq_iff_eq.mpr c6
   have c6b1 : (t123 != t124) = false := bne_eq_false_iff_eq.mpr c6
   clear c6
   replace H := Option.bind_eq_some_iff.mp H
   obtain ⟨t125, A70, H⟩ := H
   try dsimp -simprocs only at H
   have A7 := Aside0.mk A70
   clear A70
   replace H := Option.bind_eq_some_iff.mp H
   obtain ⟨t126, A80, H⟩ := H
   try dsimp -simprocs only at H
   have A8 := Aside0.mk A80
   clear A80
   obtain rfl := Option.some.inj H
   go_enter Tryd.func3, Tryd.ntmps3
   go_wp2_with (first | ((with_reducible refine gX_ 4 4 rfl rfl ?_); refine goesY_ (some 4) Tryd.func4 #[] ?_; (with_reducible refine (vernierlaw01_up.calls k  true _ A2.out).mono ?_); rintro e w9 ⟨rfl, hb⟩; refine ⟨_, rfl, ?_⟩; replace HB := Aside0.mk (bS3 HB.out hb); (try clear hb); (try clear hk)) | (go_at_call 5; (with_reducible refine (lead_Len.calls k a0 t123 _ A4.out).mono ?_); rintro e w' ⟨rfl, ⟨nd, rfl⟩⟩) | (go_at_call 6; (with_reducible refine (vernierref01_Len.calls k a0 t124 _ A5.out).mono ?_); rintro e w10 ⟨rfl, hb⟩; replace HB := Aside0.mk (bS3 HB.out hb); (try clear hb); (try clear hk)) | (go_at_call 7; (with_reducible refine (lead_Trail.calls a0 t125 _ (tz3 HT) A7.out).mono ?_); rintro e w' ⟨rfl, ⟨nd, rfl⟩⟩) | (go_at_call 8; (with_reducible refine (vernierref01_Trail.calls k a0 t126 _ A8.out).mono ?_); rintro e w11 ⟨rfl, hb⟩; replace HB := Aside0.mk (bS3 HB.out hb); (try clear hb); (try clear hk)))
   go_ret
   exact ⟨eR3, bR3 HB.out⟩
  ·
   rw [if_neg c6] at H
   have c6b0 : (t123 == t124) = false := beq_eq_false_iff_ne.mpr c6
   have c6b1 : (t123 != t124) = true := bne_iff_ne.mpr c6
   obtain rfl := Option.some.inj H
   go_enter Tryd.func3, Tryd.ntmps3
   go_wp2_with (first | ((with_reducible refine gX_ 4 4 rfl rfl ?_); refine goesY_ (some 4) Tryd.func4 #[] ?_; (with_reducible refine (vernierlaw01_up.calls k  true _ A2.out).mono ?_); rintro e w12 ⟨rfl, hb⟩; refine ⟨_, rfl, ?_⟩; replace HB := Aside0.mk (bS3 HB.out hb); (try clear hb); (try clear hk)) | (go_at_call 5; (with_reducible refine (lead_Len.calls k a0 t123 _ A4.out).mono ?_); rintro e w' ⟨rfl, ⟨nd, rfl⟩⟩) | (go_at_call 6; (with_reducible refine (vernierref01_Len.calls k a0 t124 _ A5.out).mono ?_); rintro e w13 ⟨rfl, hb⟩; replace HB := Aside0.mk (bS3 HB.out hb); (try clear hb); (try clear hk)))
   go_ret
   exact ⟨eR3, bR3 HB.out⟩
 ·
  replace c3 := Bool.eq_false_iff.mpr c3
  subst c3
  rw [if_neg (show ¬ (false = true) by decide)] at H
  obtain rfl := Option.some.inj H
  go_enter Tryd.func3, Tryd.ntmps3
  go_wp2_with (first | ((with_reducible refine gX_ 4 4 rfl rfl ?_); refine goesY_ (some 4) Tryd.func4 #[] ?_; (with_reducible refine (vernierlaw01_up.calls k  false _ A2.out).mono ?_); rintro e w14 ⟨rfl, hb⟩; refine ⟨_, rfl, ?_⟩; replace HB := Aside0.mk (bS3 HB.out hb); (try clear hb); (try clear hk)))
  go_ret
  exact ⟨eR3, bR3 HB.out⟩
/-- THE ONE PURE STATEMENT of vernierlaw01_LeadCounts: yours. -/
def vernierlaw01_LeadCounts.Pure : Prop := ∀ (a0 : Int), (Lit.int .u64 a0).wf = true → ∃ k, vernierlaw01_LeadCounts.f k a0 = some true
theorem vernierlaw01_LeadCounts.walk (P : vernierlaw01_LeadCounts.Pure) (a0 : Int) (w : World) (HT : Tz w) (w0 : (Lit.int .u64 a0).wf = true) :
  Calls Tryd.prog 3 #[.int .u64 a0] w fun e w' => e = .returned (.bool true) ∧ Below w.heap.size w w' := by
 obtain ⟨k, h⟩ := P a0 w0
 refine (vernierlaw01_LeadCounts.calls k a0 true w HT h).mono ?_
 rintro e w' ⟨rfl, hd⟩
 exact ⟨rfl, hd⟩
end Go.Proofs.YtogldofffdiflaaDoor.F
