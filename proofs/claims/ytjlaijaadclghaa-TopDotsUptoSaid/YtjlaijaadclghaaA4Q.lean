/- Walks of the accumulator: Negate, Clear, .. -/
import Derived.Test.YtjlaijaadclghaaA2Q
import Derived.Deep.RegionWith
import Derived.Test.YtjlaijaadclghaaF0Q
import Derived.Test.YtjlaijaadclghaaF1Q
import Derived.Test.YtjlaijaadclghaaF2Q
import Derived.Test.YtjlaijaadclghaaF3Q
import Derived.Test.YtjlaijaadclghaaF4Q
import Derived.Test.YtjlaijaadclghaaF5Q
import Derived.Test.YtjlaijaadclghaaF6Q
import Derived.Test.YtjlaijaadclghaaF8Q
import Derived.Test.YtjlaijaadclghaaF9Q
import Derived.Test.YtjlaijaadclghaaF10Q
import Derived.Test.YtjlaijaadclghaaF11Q
import Derived.Test.YtjlaijaadclghaaF12Q
import Derived.Test.YtjlaijaadclghaaF13Q
import Derived.Test.YtjlaijaadclghaaF14Q
import Derived.Test.YtjlaijaadclghaaF15Q
import Derived.Test.YtjlaijaadclghaaF16Q
namespace Go.Proofs.Ytjlaijaadclghaa.F
open RowKit YtjlaijaadclghaaW PrintWords PrintLast PrintMore
attribute [local go_sem high] xor_u64 xor_u32
set_option linter.all false
def negW (m : Nat) (ws : List Nat) : List Nat := turnC (ws.take m) 1 ++ ws.drop m
theorem acc_size (m : Nat) (nar : Bool) (t : Int) (ws : List Nat) (hl : ws.length = 16) : (accC m nar t ws).size = 19 := by
 unfold accC rowC; simp [hl]
end Go.Proofs.Ytjlaijaadclghaa.F

namespace Go.Proofs.Ytjlaijaadclghaa.F
open RowKit YtjlaijaadclghaaW PrintWords PrintLast PrintMore
attribute [local go_sem high] xor_u64 xor_u32
set_option linter.all false
set_option maxHeartbeats 2000000 in
set_option maxRecDepth 100000 in
theorem new_calls (k m : Nat) (d1 : Int) (d2 : Bool) (d3 d4 : Int) (w : World) (h : codec_Decode.f k (4 * (m : Int)) 0 = some (d1, d2, d3, d4, none)) :
  Calls Try.prog 13 #[.int .i64 (4 * (m : Int))] w fun e w' => ∃ g, w.heap.size ≤ g ∧ e = .returned (.tuple #[.pointer (some ⟨g, 0, none⟩), errW none]) ∧ AccB w' g m false 0 (List.replicate 16 0) ∧ Below w.heap.size w w' := by
 have hu39 := Try.underlying35
 have hu25 := Try.underlying25
 have HB := Aside0.mk (Below.refl w.heap.size w)
 have A3 := Aside0.mk h
 clear h
 go_enter Try.func13, Try.ntmps13
 go_wp2_with (first
  | ((with_reducible refine gC (f := 27) rfl ?_); (with_reducible refine gD (N := 8) rfl ?_); refine goesY_ (some 8) Try.func27 #[.int .i64 (4 * (m : Int)), .int .u64 0] ?_; (with_reducible refine (codec_Decode.calls k (4 * (m : Int)) 0 d1 d2 d3 d4 none _ A3.out).mono ?_); rintro e w7 ⟨rfl, hb⟩; refine ⟨_, rfl, ?_⟩; have n0_ := Aside0.mk (bS3 HB.out hb); clear HB; have HB := n0_; clear n0_; (try clear hb); (try simp only [errW_none, errW_some]))
  | ((with_reducible refine gD (N := 4) rfl ?_); refine bE3 4 #[.int .i64 0, .bool false, .int .i64 0, .int .u64 0] 35 ?hr ?_; (case hr => first | (go_simp; done) | (go_simp; rfl)); intro gb hg w8 hbox hb; have n0_ := Aside0.mk (bS3 HB.out hb); have n1_ := Aside0.mk hbox; have n2_ := Aside0.mk ((bZ3 hg HB.out)); clear HB; have HB := n0_; have BK := n1_; have GW := n2_; have GE := n2_; clear n0_ n1_ n2_; clear hb hbox hg; obtain ⟨hcz9_0, hcz9_1, hcz9_2, hcz9_3, hfz9_0, hfz9_1, hfz9_2, hfz9_3⟩ := cl4 BK.out)
  | ((with_reducible refine gD (N := 16) rfl ?_); refine bE3 16 (accC m false 0 (List.replicate 16 0)) 62 ?hb ?_; (case hb => first | (go_simp; done) | (go_simp; rfl)); intro ga hg w9 hbox hb; have HX := Aside0.mk hbox; have HY := Aside0.mk (bS3 HB.out hb); have HG := Aside0.mk (bZ3 hg HB.out); clear hg hbox hb))
 go_ret2
 exact ⟨ga, HG.out, eR3, HX.out, HY.out⟩
set_option maxHeartbeats 2000000 in
set_option maxRecDepth 100000 in
theorem new_bad (k : Nat) (n : Int) (d1 : Int) (d2 : Bool) (d3 d4 er : Int) (w : World) (h : codec_Decode.f k n 0 = some (d1, d2, d3, d4, some er)) :
  Calls Try.prog 13 #[.int .i64 n] w fun e w' => e = .returned (.tuple #[.pointer none, errW (some er)]) ∧ Below w.heap.size w w' := by
 have hu39 := Try.underlying35
 have hu25 := Try.underlying25
 have HB := Aside0.mk (Below.refl w.heap.size w)
 have A3 := Aside0.mk h
 clear h
 go_enter Try.func13, Try.ntmps13
 go_wp2_with (first
  | ((with_reducible refine gC (f := 27) rfl ?_); (with_reducible refine gD (N := 8) rfl ?_); refine goesY_ (some 8) Try.func27 #[.int .i64 n, .int .u64 0] ?_; (with_reducible refine (codec_Decode.calls k n 0 d1 d2 d3 d4 (some er) _ A3.out).mono ?_); rintro e w7 ⟨rfl, hb⟩; refine ⟨_, rfl, ?_⟩; have n0_ := Aside0.mk (bS3 HB.out hb); clear HB; have HB := n0_; clear n0_; (try clear hb); (try simp only [errW_none, errW_some]))
  | ((with_reducible refine gD (N := 4) rfl ?_); refine bE3 4 #[.int .i64 0, .bool false, .int .i64 0, .int .u64 0] 35 ?hr ?_; (case hr => first | (go_simp; done) | (go_simp; rfl)); intro gb hg w8 hbox hb; have n0_ := Aside0.mk (bS3 HB.out hb); have n1_ := Aside0.mk hbox; have n2_ := Aside0.mk ((bZ3 hg HB.out)); clear HB; have HB := n0_; have BK := n1_; have GW := n2_; have GE := n2_; clear n0_ n1_ n2_; clear hb hbox hg; obtain ⟨hcz9_0, hcz9_1, hcz9_2, hcz9_3, hfz9_0, hfz9_1, hfz9_2, hfz9_3⟩ := cl4 BK.out))
 go_ret2
 exact ⟨eR3, bR3 HB.out⟩
end Go.Proofs.Ytjlaijaadclghaa.F
