/- Walk of down and size, of numbers that are .. -/
import Derived.Test.YtjlaijaadclghaaA9Q
import Derived.Test.YtjlaijaadclghaaF0Q
import Derived.Test.YtjlaijaadclghaaF1Q
import Derived.Test.YtjlaijaadclghaaF2Q
import Derived.Test.YtjlaijaadclghaaF3Q
import Derived.Test.YtjlaijaadclghaaF4Q
import Derived.Test.YtjlaijaadclghaaF5Q
import Derived.Test.YtjlaijaadclghaaF6Q
import Derived.Test.YtjlaijaadclghaaF8Q
import Derived.Test.YtjlaijaadclghaaF9Q
import Derived.Test.YtjlaijaadclghaaF10Q
import Derived.Test.YtjlaijaadclghaaF11Q
import Derived.Test.YtjlaijaadclghaaF12Q
import Derived.Test.YtjlaijaadclghaaF13Q
import Derived.Test.YtjlaijaadclghaaF14Q
import Derived.Test.YtjlaijaadclghaaF15Q
import Derived.Test.YtjlaijaadclghaaF16Q
namespace Go.Proofs.Ytjlaijaadclghaa.F
open RowKit YtjlaijaadclghaaW PrintWords PrintLast PrintMore
attribute [local go_sem high] xor_u64 xor_u32
set_option linter.all false
abbrev HeldD (g1 g2 : Nat) (n0 n1 : Bool) (A0 A1 : Option Addr) (c0 c1 : Nat) (l0 l1 : List Int) (E0 E1 : Int) (w W : World) : Prop := W.cell? ⟨g1, 1, none⟩ = some (.slice A0 l0.length c0) ∧ W.cell? ⟨g1, 2, none⟩ = some (.int .i64 E0) ∧ W.cell? ⟨g2, 1, none⟩ = some (.slice A1 l1.length c1) ∧ W.cell? ⟨g2, 2, none⟩ = some (.int .i64 E1) ∧
 Aside0 (Below w.heap.size w W ∧ W.heap[g1]? = some (.cells #[.bool n0, .slice A0 l0.length c0, .int .i64 E0] 32 (0, 0)) ∧ W.heap[g2]? = some (.cells #[.bool n1, .slice A1 l1.length c1, .int .i64 E1] 32 (0, 0)) ∧ Kd.C (Kd.int .i64) W A0 l0.length l0 ∧ Kd.C (Kd.int .i64) W A1 l1.length l1)
section
variable {g1 g2 : Nat} {n0 n1 : Bool} {A0 A1 : Option Addr} {c0 c1 : Nat} {l0 l1 : List Int} {E0 E1 : Int} {w W V : World}
theorem HeldD.of (h0 : Below w.heap.size w W) (h1 : W.heap[g1]? = some (.cells #[.bool n0, .slice A0 l0.length c0, .int .i64 E0] 32 (0, 0))) (h2 : W.heap[g2]? = some (.cells #[.bool n1, .slice A1 l1.length c1, .int .i64 E1] 32 (0, 0))) (h3 : Kd.C (Kd.int .i64) W A0 l0.length l0) (h4 : Kd.C (Kd.int .i64) W A1 l1.length l1) : HeldD g1 g2 n0 n1 A0 A1 c0 c1 l0 l1 E0 E1 w W := by
 obtain ⟨_, a1, a2, _⟩ := cl3 h1
 obtain ⟨_, b1, b2, _⟩ := cl3 h2
 exact ⟨a1, a2, b1, b2, ⟨⟨h0, h1, h2, h3, h4⟩⟩⟩
theorem HeldD.r0 (h : HeldD g1 g2 n0 n1 A0 A1 c0 c1 l0 l1 E0 E1 w W) : Kd.C (Kd.int .i64) W A0 l0.length l0 := h.2.2.2.2.out.2.2.2.1
theorem HeldD.r1 (h : HeldD g1 g2 n0 n1 A0 A1 c0 c1 l0 l1 E0 E1 w W) : Kd.C (Kd.int .i64) W A1 l1.length l1 := h.2.2.2.2.out.2.2.2.2
theorem HeldD.drew (h : HeldD g1 g2 n0 n1 A0 A1 c0 c1 l0 l1 E0 E1 w W) : HeldD g1 g2 n0 n1 A0 A1 c0 c1 l0 l1 E0 E1 w W.drew := by
 obtain ⟨a, b, c, d, ⟨⟨e0, e1, e2, e3, e4⟩⟩⟩ := h
 exact .of e0.drew e1 e2 (Kd.C_drew e3) (Kd.C_drew e4)
theorem HeldD.below (h : HeldD g1 g2 n0 n1 A0 A1 c0 c1 l0 l1 E0 E1 w W) (u : Below W.heap.size W V) : HeldD g1 g2 n0 n1 A0 A1 c0 c1 l0 l1 E0 E1 w V := by
 obtain ⟨a, b, c, d, ⟨⟨e0, e1, e2, e3, e4⟩⟩⟩ := h
 exact .of (below_step e0 u) ((u.block g1 (Array.getElem?_eq_some_iff.1 e1).1).trans e1) ((u.block g2 (Array.getElem?_eq_some_iff.1 e2).1).trans e2) (Kd.C_below e3 u) (Kd.C_below e4 u)
end
set_option maxHeartbeats 4000000 in
set_option maxRecDepth 100000 in
theorem downR_calls (k : Nat) (n0 n1 : Bool) (A0 A1 : Option Addr) (c0 c1 : Nat) (l0 l1 r1 r2 : List Int) (E0 E1 r3 : Int) (w : World) (h0 : Kd.C (Kd.int .i64) w A0 l0.length l0) (hc0 : l0.length ≤ c0) (h1 : Kd.C (Kd.int .i64) w A1 l1.length l1) (hc1 : l1.length ≤ c1) (h : verniertop_down.f k n0 l0 E0 n1 l1 E1 = some (r1, r2, r3)) :
  Calls Try.prog 17 #[.agg #[.bool n0, .slice A0 l0.length c0, .int .i64 E0], .agg #[.bool n1, .slice A1 l1.length c1, .int .i64 E1]] w fun e w' => ∃ (B1 B2 : Option Addr) (d1 d2 : Nat), e = .returned (.tuple #[.slice B1 r1.length d1, .slice B2 r2.length d2, .int .i64 r3]) ∧ r1.length ≤ d1 ∧ r2.length ≤ d2 ∧ Kd.C (Kd.int .i64) w' B1 r1.length r1 ∧ Kd.C (Kd.int .i64) w' B2 r2.length r2 ∧ Below w.heap.size w w' := by
 have hu32 := Try.underlying32
 obtain ⟨g1, hg1⟩ : ∃ g1, g1 = w.heap.size := ⟨_, rfl⟩
 obtain ⟨g2, hg2⟩ : ∃ g2, g2 = w.heap.size + 1 := ⟨_, rfl⟩
 obtain ⟨W0, hW0⟩ : ∃ W0, W0 = (w.alloc (.cells #[.bool n0, .slice A0 l0.length c0, .int .i64 E0] 32 (0, 0))).alloc (.cells #[.bool n1, .slice A1 l1.length c1, .int .i64 E1] 32 (0, 0)) := ⟨_, rfl⟩
 have HH : HeldD g1 g2 n0 n1 A0 A1 c0 c1 l0 l1 E0 E1 w W0 := by
  rw [hg1, hg2, hW0]
  have hb := below_alloc (below_alloc (Below.refl w.heap.size w) (.cells #[.bool n0, .slice A0 l0.length c0, .int .i64 E0] 32 (0, 0))) (.cells #[.bool n1, .slice A1 l1.length c1, .int .i64 E1] 32 (0, 0))
  exact .of hb (alloc2_old w _ _) (alloc2_new w _ _) (Kd.C_below h0 hb) (Kd.C_below h1 hb)
 have HG1 := Aside0.mk hg1
 have HG2 := Aside0.mk hg2
 have HW0 := Aside0.mk hW0
 clear hg1 hg2 hW0
 unfold verniertop_down.f at h
 clear h0 h1
 by_cases c : E0 ≥ E1
 ·
  rw [if_pos c] at h
  have cc : decide (E1 ≤ E0) = true := decide_eq_true c
  obtain ⟨t, ht, h⟩ := Option.bind_eq_some_iff.mp h
  injection h with h
  obtain ⟨rfl, rfl, rfl⟩ : t = r1 ∧ l1 = r2 ∧ E1 = r3 := by injection h with a b; injection b with b c; exact ⟨a, b, c⟩
  have A3 : Aside0 (vernierref04_Shl.f k l0 (IntKind.i64.wrap (E0 - E1)) = some t) := ⟨by rw [i64_w]; exact ht⟩
  clear ht h c
  go_enter Try.func17, Try.ntmps17
  go_upto_region 2 with (fail)
  rw [← HW0.out, ← HG2.out, ← HG1.out]
  go_region_held3 (fun W => W.cell? ⟨g1, 1, none⟩ = some (.slice A0 l0.length c0) ∧ W.cell? ⟨g1, 2, none⟩ = some (.int .i64 E0) ∧ W.cell? ⟨g2, 1, none⟩ = some (.slice A1 l1.length c1) ∧ W.cell? ⟨g2, 2, none⟩ = some (.int .i64 E1) ∧
   Aside0 (Below w.heap.size w W ∧ W.heap[g1]? = some (.cells #[.bool n0, .slice A0 l0.length c0, .int .i64 E0] 32 (0, 0)) ∧ W.heap[g2]? = some (.cells #[.bool n1, .slice A1 l1.length c1, .int .i64 E1] 32 (0, 0)) ∧ Kd.C (Kd.int .i64) W A0 l0.length l0 ∧ Kd.C (Kd.int .i64) W A1 l1.length l1)) ((first | with_reducible exact HeldD.drew HH | with_reducible exact HeldD.below ‹_› ‹_›)) (first
   | (go_at_call 41; (with_reducible refine (vernierref04_Shl.calls k A0 c0 l0 _ t _ (HeldD.r0 (w := w) (g1 := g1) (g2 := g2) (n0 := n0) (n1 := n1) ‹_›) hc0 A3.out).mono ?_); rintro e w9 ⟨v0, rfl, hR, hb9⟩; obtain ⟨A', c', rfl, hc', hC'⟩ := Kd.R_reads hR))
  (try simp only [Exit.inBlock, Exit.then])
  have HF : HeldD g1 g2 n0 n1 A0 A1 c0 c1 l0 l1 E0 E1 w w9 := by with_reducible assumption
  go_wp2
  go_ret3
  refine ⟨A', A1, c', c1, rfl, hc', hc1, hC', HF.r1, HF.2.2.2.2.out.1⟩
 ·
  rw [if_neg c] at h
  have cc : decide (E1 ≤ E0) = false := decide_eq_false c
  obtain ⟨t, ht, h⟩ := Option.bind_eq_some_iff.mp h
  injection h with h
  obtain ⟨rfl, rfl, rfl⟩ : l0 = r1 ∧ t = r2 ∧ E0 = r3 := by injection h with a b; injection b with b c; exact ⟨a, b, c⟩
  have A3 : Aside0 (vernierref04_Shl.f k l1 (IntKind.i64.wrap (E1 - E0)) = some t) := ⟨by rw [i64_w]; exact ht⟩
  clear ht h c
  go_enter Try.func17, Try.ntmps17
  go_upto_region 3 with (fail)
  rw [← HW0.out, ← HG2.out, ← HG1.out]
  go_region_held3 (fun W => W.cell? ⟨g1, 1, none⟩ = some (.slice A0 l0.length c0) ∧ W.cell? ⟨g1, 2, none⟩ = some (.int .i64 E0) ∧ W.cell? ⟨g2, 1, none⟩ = some (.slice A1 l1.length c1) ∧ W.cell? ⟨g2, 2, none⟩ = some (.int .i64 E1) ∧
   Aside0 (Below w.heap.size w W ∧ W.heap[g1]? = some (.cells #[.bool n0, .slice A0 l0.length c0, .int .i64 E0] 32 (0, 0)) ∧ W.heap[g2]? = some (.cells #[.bool n1, .slice A1 l1.length c1, .int .i64 E1] 32 (0, 0)) ∧ Kd.C (Kd.int .i64) W A0 l0.length l0 ∧ Kd.C (Kd.int .i64) W A1 l1.length l1)) ((first | with_reducible exact HeldD.drew HH | with_reducible exact HeldD.below ‹_› ‹_›)) (first
   | (go_at_call 41; (with_reducible refine (vernierref04_Shl.calls k A1 c1 l1 _ t _ (HeldD.r1 (w := w) (g1 := g1) (g2 := g2) (n0 := n0) (n1 := n1) ‹_›) hc1 A3.out).mono ?_); rintro e w9 ⟨v0, rfl, hR, hb9⟩; obtain ⟨A', c', rfl, hc', hC'⟩ := Kd.R_reads hR))
  (try simp only [Exit.inBlock, Exit.then])
  have HF : HeldD g1 g2 n0 n1 A0 A1 c0 c1 l0 l1 E0 E1 w w9 := by with_reducible assumption
  go_wp2
  go_ret3
  refine ⟨A0, A', c0, c', rfl, hc0, hc', HF.r0, hC', HF.2.2.2.2.out.1⟩
set_option maxHeartbeats 4000000 in
set_option maxRecDepth 100000 in
theorem sizeR_calls (k : Nat) (n0 n1 : Bool) (A0 A1 : Option Addr) (c0 c1 : Nat) (l0 l1 : List Int) (E0 E1 r : Int) (w : World) (h0 : Kd.C (Kd.int .i64) w A0 l0.length l0) (hc0 : l0.length ≤ c0) (h1 : Kd.C (Kd.int .i64) w A1 l1.length l1) (hc1 : l1.length ≤ c1) (h : verniertop_size.f k n0 l0 E0 n1 l1 E1 = some r) :
  Calls Try.prog 25 #[.agg #[.bool n0, .slice A0 l0.length c0, .int .i64 E0], .agg #[.bool n1, .slice A1 l1.length c1, .int .i64 E1]] w fun e w' => e = .returned (.int .i64 r) ∧ Below w.heap.size w w' := by
 have hu32 := Try.underlying32
 have HC0 := Aside0.mk h0
 have HC1 := Aside0.mk h1
 unfold verniertop_size.f at h
 obtain ⟨⟨t1, t2, t3⟩, ht, h⟩ := Option.bind_eq_some_iff.mp h
 obtain ⟨t4, hc, h⟩ := Option.bind_eq_some_iff.mp h
 obtain rfl := Option.some.inj h
 have A3 := Aside0.mk ht
 have A4 : Aside0 (vernierref04_Cmp.f k t1 t2 = some t4) := ⟨hc⟩
 clear ht hc h h0 h1
 have HB : Aside0 (∀ o1 o2, Below w.heap.size w ((w.alloc o1).alloc o2)) := ⟨fun o1 o2 => below_alloc (below_alloc (Below.refl w.heap.size w) o1) o2⟩
 go_enter Try.func25, Try.ntmps25
 go_wp2_with (first
  | (go_at_call 17; (with_reducible refine (downR_calls k n0 n1 A0 A1 c0 c1 l0 l1 t1 t2 E0 E1 t3 _ (Kd.C_below HC0.out (HB.out _ _)) hc0 (Kd.C_below HC1.out (HB.out _ _)) hc1 A3.out).mono ?_); rintro e w9 ⟨B1, B2, d1, d2, rfl, hd1, hd2, hC1, hC2, hb9⟩; have HE1 := Aside0.mk hC1; have HE2 := Aside0.mk hC2; have HB9 := Aside0.mk (below_step (HB.out _ _) hb9); clear hC1 hC2 hb9)
  | (go_at_call 19; (with_reducible refine (vernierref04_Cmp.calls k B1 d1 t1 B2 d2 t2 t4 _ HE1.out hd1 HE2.out hd2 A4.out).mono ?_); rintro e w' ⟨rfl, ⟨nd, rfl⟩⟩))
 go_ret
 exact ⟨rfl, pw_below_drewN HB9.out _⟩
end Go.Proofs.Ytjlaijaadclghaa.F
