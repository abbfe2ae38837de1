/- Walks of the accumulator: Put, Take, Sign; .. -/
import Derived.Test.YtjlaijaadclghaaA6Q
import Derived.DeepKeys
namespace Go.Proofs.Ytjlaijaadclghaa.F
open RowKit YtjlaijaadclghaaW PrintWords PrintLast PrintMore
attribute [local go_sem high] xor_u64 xor_u32
set_option linter.all false
set_option maxHeartbeats 2000000 in
set_option maxRecDepth 100000 in
theorem put_calls (b : Nat) (a1 a2 : Int) (w : World) (R : Ending → World → Prop) (h : Calls Try.prog 48 #[.pointer (some ⟨b, 0, none⟩), .int .u64 a1, .int .u64 a2, .bool false] w fun e w' => e = .returned (errW none) ∧ R e w') :
  Calls Try.prog 30 #[.pointer (some ⟨b, 0, none⟩), .int .u64 a1, .int .u64 a2] w fun e w' => e = .returned (errW none) ∧ R e w' := by
 have H := Aside0.mk h
 clear h
 go_enter Try.func30, Try.ntmps30
 go_wp2_with (first | (go_at_call 48; (with_reducible refine H.out.mono ?_); rintro e w' ⟨rfl, hr⟩; have HR := Aside0.mk hr; clear hr))
 go_ret
 exact ⟨rfl, HR.out⟩
end Go.Proofs.Ytjlaijaadclghaa.F
