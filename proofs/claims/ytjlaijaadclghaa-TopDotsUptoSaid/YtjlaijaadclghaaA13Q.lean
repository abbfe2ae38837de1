/- Walk of nearest, where it answers yes; .. -/
import Derived.Test.YtjlaijaadclghaaA12Q
import Derived.Test.YtjlaijaadclghaaF0Q
import Derived.Test.YtjlaijaadclghaaF1Q
import Derived.Test.YtjlaijaadclghaaF2Q
import Derived.Test.YtjlaijaadclghaaF3Q
import Derived.Test.YtjlaijaadclghaaF4Q
import Derived.Test.YtjlaijaadclghaaF5Q
import Derived.Test.YtjlaijaadclghaaF6Q
import Derived.Test.YtjlaijaadclghaaF8Q
import Derived.Test.YtjlaijaadclghaaF9Q
import Derived.Test.YtjlaijaadclghaaF10Q
import Derived.Test.YtjlaijaadclghaaF11Q
import Derived.Test.YtjlaijaadclghaaF12Q
import Derived.Test.YtjlaijaadclghaaF13Q
import Derived.Test.YtjlaijaadclghaaF14Q
import Derived.Test.YtjlaijaadclghaaF15Q
import Derived.Test.YtjlaijaadclghaaF16Q
namespace Go.Proofs.Ytjlaijaadclghaa.F
open RowKit YtjlaijaadclghaaW PrintWords PrintLast PrintMore
attribute [local go_sem high] xor_u64 xor_u32
set_option linter.all false
set_option maxHeartbeats 4000000 in
set_option maxRecDepth 100000 in
theorem near_zero (k : Nat) (n : Int) (neg : Bool) (A : Option Addr) (c : Nat) (l : List Int) (E N : Int) (w : World) (h0 : Kd.C (Kd.int .i64) w A l.length l) (hc : l.length ≤ c) (hs : verniertop_sign.f neg l E = some 0) (hN : vernierref05_Power.f k (wrap64 (n - 1)) = some N) :
  Calls Try.prog 12 #[.int .i64 n, .int .u64 0, .agg #[.bool neg, .slice A l.length c, .int .i64 E]] w fun e w' => e = .returned (.bool true) ∧ Below w.heap.size w w' := by
 have hu32 := Try.underlying32
 have HC := Aside0.mk h0
 have A3 := Aside0.mk hs
 have A4 := Aside0.mk hN
 have HB : Aside0 (∀ o, Below w.heap.size w (w.alloc o)) := ⟨fun o => below_alloc (Below.refl w.heap.size w) o⟩
 clear h0 hs hN
 go_enter Try.func12, Try.ntmps12
 go_wp2_with (first
  | (go_at_call 23; (with_reducible refine (verniertop_sign.calls neg A c l E 0 _ (Kd.C_below HC.out (HB.out _)) hc A3.out).mono ?_); rintro e w9 ⟨rfl, hb9⟩; have HB9 := Aside0.mk (below_step (HB.out _) hb9); clear hb9)
  | (go_at_call 11; (with_reducible refine (vernierref05_Power.calls k _ N _ A4.out).mono ?_); rintro e w' ⟨rfl, ⟨nd, rfl⟩⟩))
 go_ret
 exact ⟨rfl, pw_below_drewN HB9.out _⟩
abbrev HeldN (g : Nat) (neg : Bool) (A : Option Addr) (c : Nat) (l : List Int) (E : Int) (w W : World) : Prop := W.cell? ⟨g, 0, none⟩ = some (.bool neg) ∧ W.cell? ⟨g, 1, none⟩ = some (.slice A l.length c) ∧ W.cell? ⟨g, 2, none⟩ = some (.int .i64 E) ∧
 Aside0 (Below w.heap.size w W ∧ W.heap[g]? = some (.cells #[.bool neg, .slice A l.length c, .int .i64 E] 32 (0, 0)) ∧ Kd.C (Kd.int .i64) W A l.length l)
section
variable {g : Nat} {neg : Bool} {A : Option Addr} {c : Nat} {l : List Int} {E : Int} {w W V : World}
theorem HeldN.of (h0 : Below w.heap.size w W) (h1 : W.heap[g]? = some (.cells #[.bool neg, .slice A l.length c, .int .i64 E] 32 (0, 0))) (h2 : Kd.C (Kd.int .i64) W A l.length l) : HeldN g neg A c l E w W := by
 obtain ⟨a0, a1, a2, _⟩ := cl3 h1
 exact ⟨a0, a1, a2, ⟨⟨h0, h1, h2⟩⟩⟩
theorem HeldN.row (h : HeldN g neg A c l E w W) : Kd.C (Kd.int .i64) W A l.length l := h.2.2.2.out.2.2
theorem HeldN.bel (h : HeldN g neg A c l E w W) : Below w.heap.size w W := h.2.2.2.out.1
theorem HeldN.drew (h : HeldN g neg A c l E w W) : HeldN g neg A c l E w W.drew := .of h.2.2.2.out.1.drew h.2.2.2.out.2.1 (Kd.C_drew h.2.2.2.out.2.2)
theorem HeldN.drewN (h : HeldN g neg A c l E w W) (k : Nat) : HeldN g neg A c l E w (W.drewN k) := .of (pw_below_drewN h.2.2.2.out.1 k) h.2.2.2.out.2.1 (Kd.C_drewN h.2.2.2.out.2.2 k)
theorem HeldN.below (h : HeldN g neg A c l E w W) (u : Below W.heap.size W V) : HeldN g neg A c l E w V := .of (below_step h.2.2.2.out.1 u) ((u.block g (Array.getElem?_eq_some_iff.1 h.2.2.2.out.2.1).1).trans h.2.2.2.out.2.1) (Kd.C_below h.2.2.2.out.2.2 u)
end
set_option maxHeartbeats 4000000 in
set_option maxRecDepth 100000 in
theorem near_pos (k : Nat) (n : Int) (neg : Bool) (A : Option Addr) (c : Nat) (l : List Int) (E : Int) (q N : Nat) (w : World) (h0 : Kd.C (Kd.int .i64) w A l.length l) (hc : l.length ≤ c) (hs : verniertop_sign.f neg l E = some 1) (hN : vernierref05_Power.f k (wrap64 (n - 1)) = some (N : Int))
  (hN1 : 128 ≤ N) (hN2 : N ≤ 9223372036854775808) (hq1 : 1 ≤ q) (hq2 : q < N)
  (hup : q < N - 1 → ∃ (tn : Bool) (tl : List Int) (tE u : Int), verniertop_tie.f k n (q : Int) = some (tn, tl, tE) ∧ verniertop_size.f k neg l E tn tl tE = some u ∧ (u < 0 ∨ (u = 0 ∧ q % 2 = 0)))
  (hlow : 1 < q → ∃ (tn : Bool) (tl : List Int) (tE u : Int), verniertop_tie.f k n ((q - 1 : Nat) : Int) = some (tn, tl, tE) ∧ verniertop_size.f k neg l E tn tl tE = some u ∧ (0 < u ∨ (u = 0 ∧ q % 2 = 0))) :
  Calls Try.prog 12 #[.int .i64 n, .int .u64 (q : Int), .agg #[.bool neg, .slice A l.length c, .int .i64 E]] w fun e w' => e = .returned (.bool true) ∧ Below w.heap.size w w' := by
 have hu32 := Try.underlying32
 have HC := Aside0.mk h0
 have A3 := Aside0.mk hs
 have A4 := Aside0.mk hN
 have HUP := Aside0.mk hup
 have HLOW := Aside0.mk hlow
 clear hup hlow
 obtain ⟨g1, hg1⟩ : ∃ g1, g1 = w.heap.size := ⟨_, rfl⟩
 have HB : Aside0 (∀ o, Below w.heap.size w (w.alloc o)) := ⟨fun o => below_alloc (Below.refl w.heap.size w) o⟩
 have e1 : ((q : Int) == 0) = false := by simp; omega
 have e2 : ((q : Int) == (N : Int)) = false := by simp; omega
 have e3 : IntKind.u64.wrap (IntKind.u64.wrap (2 * (N : Int)) - 1) = ((2 * N - 1 : Nat) : Int) := by simp [IntKind.wrap, IntKind.bits, IntKind.signed]; omega
 have e4 : decide (2 * N - 1 < q) = false := decide_eq_false (by omega)
 have e5 : decide (N < q) = false := decide_eq_false (by omega)
 have e8 : IntKind.u64.wrap ((N : Int) - 1) = ((N - 1 : Nat) : Int) := by simp [IntKind.wrap, IntKind.bits, IntKind.signed]; omega
 have e9 : IntKind.u64.wrap ((q : Int) - 1) = ((q - 1 : Nat) : Int) := by simp [IntKind.wrap, IntKind.bits, IntKind.signed]; omega
 clear h0 hs hN
 have HQ := Aside0.mk (show 128 ≤ N ∧ N ≤ 9223372036854775808 ∧ 1 ≤ q ∧ q < N from ⟨hN1, hN2, hq1, hq2⟩)
 clear hN1 hN2 hq1 hq2
 go_enter Try.func12, Try.ntmps12
 go_upto_region 10 with (first
  | (go_at_call 23; (with_reducible refine (verniertop_sign.calls neg A c l E 1 _ (Kd.C_below HC.out (HB.out _)) hc A3.out).mono ?_); rintro e w9 ⟨rfl, hb9⟩; have HX9 := Aside0.mk (HeldR.new hb9); have HR9 := Aside0.mk (Kd.C_below (Kd.C_below HC.out (HB.out _)) hb9); have HB9 := Aside0.mk (below_step (HB.out _) hb9); clear hb9)
  | (go_at_call 11; (with_reducible refine (vernierref05_Power.calls k _ (N : Int) _ A4.out).mono ?_); rintro e w' ⟨rfl, ⟨nd, rfl⟩⟩))
 have HH0 : HeldN w.heap.size neg A c l E w w9 := .of HB9.out HX9.out HR9.out
 have HH : HeldN w.heap.size neg A c l E w (w9.drewN nd) := HH0.drewN nd
 rw [← hg1] at HH ⊢
 generalize w9.drewN nd = W1 at *
 have HG1 := Aside0.mk hg1
 clear hg1 HX9 HB9 HR9 HH0
 clear e1 e2 e3 e4 e5
 by_cases hu : q < N - 1
 ·
  have eu : decide (q < N - 1) = true := decide_eq_true hu
  have HQ1 := Aside0.mk hu
  clear hu
  obtain ⟨tn1, tl1, tE1, u1_, ht1, hz1, hu1⟩ := HUP.out HQ1.out
  have T1 := Aside0.mk ht1
  have Z1 := Aside0.mk hz1
  have U1 := Aside0.mk hu1
  clear ht1 hz1 hu1
  go_upto_region 11 with (fail)
  go_region_held3 (fun W => W.cell? ⟨g1, 0, none⟩ = some (.bool neg) ∧ W.cell? ⟨g1, 1, none⟩ = some (.slice A l.length c) ∧ W.cell? ⟨g1, 2, none⟩ = some (.int .i64 E) ∧ Aside0 (Below w.heap.size w W ∧ W.heap[g1]? = some (.cells #[.bool neg, .slice A l.length c, .int .i64 E] 32 (0, 0)) ∧ Kd.C (Kd.int .i64) W A l.length l)) ((first | with_reducible exact HeldN.drew HH | with_reducible exact HeldN.below ‹_› ‹_›)) (first
   | (go_at_call 26; (with_reducible refine (verniertop_tie.calls k n (q : Int) tn1 tl1 tE1 _ T1.out).mono ?_); rintro e w1a ⟨v0, rfl, hR, hb1⟩; obtain ⟨B1, d1, rfl, hd1, hC1⟩ := Kd.R_reads hR; have HC1 := Aside0.mk hC1; clear hR hC1)
   | (go_at_call 25; (with_reducible refine (sizeR_calls k neg tn1 A B1 c d1 l tl1 E tE1 u1_ _ (HeldN.row (neg := neg) (E := E) (c := c) (g := g1) (w := w) ‹_›) hc HC1.out hd1 Z1.out).mono ?_); rintro e w1b ⟨rfl, hc1b⟩))
  (try simp only [Exit.inBlock, Exit.then])
  have HF1 : HeldN g1 neg A c l E w w1b := by with_reducible assumption
  clear HH; have HH := HF1; clear HF1
  rcases U1.out with hx | ⟨hx, hy⟩
  ·
   have f1 : decide (0 < u1_) = false := decide_eq_false (by omega)
   have f3 : (u1_ == 0) = false := by simp; omega
   clear hx
   by_cases hl2 : 1 < q
   ·
    have el2 : decide ((1 : Int) < (q : Int)) = true := decide_eq_true (by omega)
    have HQ3 := Aside0.mk hl2
    clear hl2
    obtain ⟨tn3, tl3, tE3, u3_, ht3, hz3, hu3⟩ := HLOW.out HQ3.out
    have T3 := Aside0.mk ht3
    have Z3 := Aside0.mk hz3
    have U3 := Aside0.mk hu3
    clear ht3 hz3 hu3
    go_upto_region 15 with (fail)
    go_region_held3 (fun W => W.cell? ⟨g1, 0, none⟩ = some (.bool neg) ∧ W.cell? ⟨g1, 1, none⟩ = some (.slice A l.length c) ∧ W.cell? ⟨g1, 2, none⟩ = some (.int .i64 E) ∧ Aside0 (Below w.heap.size w W ∧ W.heap[g1]? = some (.cells #[.bool neg, .slice A l.length c, .int .i64 E] 32 (0, 0)) ∧ Kd.C (Kd.int .i64) W A l.length l)) ((first | with_reducible exact HeldN.drew HH | with_reducible exact HeldN.below ‹_› ‹_›)) (first
     | (go_at_call 26; (with_reducible refine (verniertop_tie.calls k n ((q - 1 : Nat) : Int) tn3 tl3 tE3 _ T3.out).mono ?_); rintro e w3a ⟨v0, rfl, hR, hb3⟩; obtain ⟨B3, d3, rfl, hd3, hC3⟩ := Kd.R_reads hR; have HC3 := Aside0.mk hC3; clear hR hC3)
     | (go_at_call 25; (with_reducible refine (sizeR_calls k neg tn3 A B3 c d3 l tl3 E tE3 u3_ _ (HeldN.row (neg := neg) (E := E) (c := c) (g := g1) (w := w) ‹_›) hc HC3.out hd3 Z3.out).mono ?_); rintro e w3b ⟨rfl, hc3b⟩))
    (try simp only [Exit.inBlock, Exit.then])
    have HF3 : HeldN g1 neg A c l E w w3b := by with_reducible assumption
    clear HH; have HH := HF3; clear HF3
    rcases U3.out with hx | ⟨hx, hy⟩
    ·
     have f1 : decide (0 < u3_) = true := decide_eq_true hx
     clear hx
     go_wp2
     go_ret
     exact ⟨rfl, HH.bel⟩
    ·
     have f2 : ((q : Int) % 2 == 0) = true := by simp; omega
     subst hx
     clear hy
     go_wp2
     go_ret
     exact ⟨rfl, HH.bel⟩
   ·
    have el2 : decide ((1 : Int) < (q : Int)) = false := decide_eq_false (by omega)
    clear hl2
    go_wp2
    go_ret
    exact ⟨rfl, HH.bel⟩
  ·
   have f2 : ((q : Int) % 2 == 0) = true := by simp; omega
   subst hx
   clear hy
   by_cases hl4 : 1 < q
   ·
    have el4 : decide ((1 : Int) < (q : Int)) = true := decide_eq_true (by omega)
    have HQ5 := Aside0.mk hl4
    clear hl4
    obtain ⟨tn5, tl5, tE5, u5_, ht5, hz5, hu5⟩ := HLOW.out HQ5.out
    have T5 := Aside0.mk ht5
    have Z5 := Aside0.mk hz5
    have U5 := Aside0.mk hu5
    clear ht5 hz5 hu5
    go_upto_region 15 with (fail)
    go_region_held3 (fun W => W.cell? ⟨g1, 0, none⟩ = some (.bool neg) ∧ W.cell? ⟨g1, 1, none⟩ = some (.slice A l.length c) ∧ W.cell? ⟨g1, 2, none⟩ = some (.int .i64 E) ∧ Aside0 (Below w.heap.size w W ∧ W.heap[g1]? = some (.cells #[.bool neg, .slice A l.length c, .int .i64 E] 32 (0, 0)) ∧ Kd.C (Kd.int .i64) W A l.length l)) ((first | with_reducible exact HeldN.drew HH | with_reducible exact HeldN.below ‹_› ‹_›)) (first
     | (go_at_call 26; (with_reducible refine (verniertop_tie.calls k n ((q - 1 : Nat) : Int) tn5 tl5 tE5 _ T5.out).mono ?_); rintro e w5a ⟨v0, rfl, hR, hb5⟩; obtain ⟨B5, d5, rfl, hd5, hC5⟩ := Kd.R_reads hR; have HC5 := Aside0.mk hC5; clear hR hC5)
     | (go_at_call 25; (with_reducible refine (sizeR_calls k neg tn5 A B5 c d5 l tl5 E tE5 u5_ _ (HeldN.row (neg := neg) (E := E) (c := c) (g := g1) (w := w) ‹_›) hc HC5.out hd5 Z5.out).mono ?_); rintro e w5b ⟨rfl, hc5b⟩))
    (try simp only [Exit.inBlock, Exit.then])
    have HF5 : HeldN g1 neg A c l E w w5b := by with_reducible assumption
    clear HH; have HH := HF5; clear HF5
    rcases U5.out with hx | ⟨hx, hy⟩
    ·
     have f1 : decide (0 < u5_) = true := decide_eq_true hx
     clear hx
     go_wp2
     go_ret
     exact ⟨rfl, HH.bel⟩
    ·
     have f2 : ((q : Int) % 2 == 0) = true := by simp; omega
     subst hx
     clear hy
     go_wp2
     go_ret
     exact ⟨rfl, HH.bel⟩
   ·
    have el4 : decide ((1 : Int) < (q : Int)) = false := decide_eq_false (by omega)
    clear hl4
    go_wp2
    go_ret
    exact ⟨rfl, HH.bel⟩
 ·
  have eu : decide (q < N - 1) = false := decide_eq_false hu
  clear hu
  by_cases hl6 : 1 < q
  ·
   have el6 : decide ((1 : Int) < (q : Int)) = true := decide_eq_true (by omega)
   have HQ7 := Aside0.mk hl6
   clear hl6
   obtain ⟨tn7, tl7, tE7, u7_, ht7, hz7, hu7⟩ := HLOW.out HQ7.out
   have T7 := Aside0.mk ht7
   have Z7 := Aside0.mk hz7
   have U7 := Aside0.mk hu7
   clear ht7 hz7 hu7
   go_upto_region 15 with (fail)
   go_region_held3 (fun W => W.cell? ⟨g1, 0, none⟩ = some (.bool neg) ∧ W.cell? ⟨g1, 1, none⟩ = some (.slice A l.length c) ∧ W.cell? ⟨g1, 2, none⟩ = some (.int .i64 E) ∧ Aside0 (Below w.heap.size w W ∧ W.heap[g1]? = some (.cells #[.bool neg, .slice A l.length c, .int .i64 E] 32 (0, 0)) ∧ Kd.C (Kd.int .i64) W A l.length l)) ((first | with_reducible exact HeldN.drew HH | with_reducible exact HeldN.below ‹_› ‹_›)) (first
    | (go_at_call 26; (with_reducible refine (verniertop_tie.calls k n ((q - 1 : Nat) : Int) tn7 tl7 tE7 _ T7.out).mono ?_); rintro e w7a ⟨v0, rfl, hR, hb7⟩; obtain ⟨B7, d7, rfl, hd7, hC7⟩ := Kd.R_reads hR; have HC7 := Aside0.mk hC7; clear hR hC7)
    | (go_at_call 25; (with_reducible refine (sizeR_calls k neg tn7 A B7 c d7 l tl7 E tE7 u7_ _ (HeldN.row (neg := neg) (E := E) (c := c) (g := g1) (w := w) ‹_›) hc HC7.out hd7 Z7.out).mono ?_); rintro e w7b ⟨rfl, hc7b⟩))
   (try simp only [Exit.inBlock, Exit.then])
   have HF7 : HeldN g1 neg A c l E w w7b := by with_reducible assumption
   clear HH; have HH := HF7; clear HF7
   rcases U7.out with hx | ⟨hx, hy⟩
   ·
    have f1 : decide (0 < u7_) = true := decide_eq_true hx
    clear hx
    go_wp2
    go_ret
    exact ⟨rfl, HH.bel⟩
   ·
    have f2 : ((q : Int) % 2 == 0) = true := by simp; omega
    subst hx
    clear hy
    go_wp2
    go_ret
    exact ⟨rfl, HH.bel⟩
  ·
   have el6 : decide ((1 : Int) < (q : Int)) = false := decide_eq_false (by omega)
   clear hl6
   go_wp2
   go_ret
   exact ⟨rfl, HH.bel⟩
set_option maxHeartbeats 4000000 in
set_option maxRecDepth 100000 in
theorem near_neg (k : Nat) (n : Int) (neg : Bool) (A : Option Addr) (c : Nat) (l : List Int) (E : Int) (q N : Nat) (p : Nat) (w : World) (h0 : Kd.C (Kd.int .i64) w A l.length l) (hc : l.length ≤ c) (hs : verniertop_sign.f neg l E = some (-1)) (hN : vernierref05_Power.f k (wrap64 (n - 1)) = some (N : Int))
  (hN1 : 128 ≤ N) (hN2 : N ≤ 9223372036854775808) (hq1 : 1 ≤ q) (hq2 : q < N)
  (hpq : p = 2 * N - q) (hneg : vernierref06_Neg.f k n (p : Int) = some (q : Int))
  (hup : q < N - 1 → ∃ (tn : Bool) (tl : List Int) (tE u : Int), verniertop_tie.f k n (q : Int) = some (tn, tl, tE) ∧ verniertop_size.f k neg l E tn tl tE = some u ∧ (u < 0 ∨ (u = 0 ∧ q % 2 = 0)))
  (hlow : 1 < q → ∃ (tn : Bool) (tl : List Int) (tE u : Int), verniertop_tie.f k n ((q - 1 : Nat) : Int) = some (tn, tl, tE) ∧ verniertop_size.f k neg l E tn tl tE = some u ∧ (0 < u ∨ (u = 0 ∧ q % 2 = 0))) :
  Calls Try.prog 12 #[.int .i64 n, .int .u64 (p : Int), .agg #[.bool neg, .slice A l.length c, .int .i64 E]] w fun e w' => e = .returned (.bool true) ∧ Below w.heap.size w w' := by
 have hu32 := Try.underlying32
 have HC := Aside0.mk h0
 have A3 := Aside0.mk hs
 have A4 := Aside0.mk hN
 have HUP := Aside0.mk hup
 have HLOW := Aside0.mk hlow
 clear hup hlow
 obtain ⟨g1, hg1⟩ : ∃ g1, g1 = w.heap.size := ⟨_, rfl⟩
 have HB : Aside0 (∀ o, Below w.heap.size w (w.alloc o)) := ⟨fun o => below_alloc (Below.refl w.heap.size w) o⟩
 have e1 : ((p : Int) == 0) = false := by simp; omega
 have e2 : ((p : Int) == (N : Int)) = false := by simp; omega
 have e3 : IntKind.u64.wrap (IntKind.u64.wrap (2 * (N : Int)) - 1) = ((2 * N - 1 : Nat) : Int) := by simp [IntKind.wrap, IntKind.bits, IntKind.signed]; omega
 have e4 : decide (2 * N - 1 < p) = false := decide_eq_false (by omega)
 have e5 : decide (N < p) = true := decide_eq_true (by omega)
 have e8 : IntKind.u64.wrap ((N : Int) - 1) = ((N - 1 : Nat) : Int) := by simp [IntKind.wrap, IntKind.bits, IntKind.signed]; omega
 have e9 : IntKind.u64.wrap ((q : Int) - 1) = ((q - 1 : Nat) : Int) := by simp [IntKind.wrap, IntKind.bits, IntKind.signed]; omega
 clear h0 hs hN
 have HQ := Aside0.mk (show 128 ≤ N ∧ N ≤ 9223372036854775808 ∧ 1 ≤ q ∧ q < N from ⟨hN1, hN2, hq1, hq2⟩)
 clear hN1 hN2 hq1 hq2
 have A5 := Aside0.mk hneg
 clear hneg hpq
 go_enter Try.func12, Try.ntmps12
 go_upto_region 8 with (first
  | (go_at_call 23; (with_reducible refine (verniertop_sign.calls neg A c l E (-1) _ (Kd.C_below HC.out (HB.out _)) hc A3.out).mono ?_); rintro e w9 ⟨rfl, hb9⟩; have HX9 := Aside0.mk (HeldR.new hb9); have HR9 := Aside0.mk (Kd.C_below (Kd.C_below HC.out (HB.out _)) hb9); have HB9 := Aside0.mk (below_step (HB.out _) hb9); clear hb9)
  | (go_at_call 11; (with_reducible refine (vernierref05_Power.calls k _ (N : Int) _ A4.out).mono ?_); rintro e w' ⟨rfl, ⟨nd, rfl⟩⟩))
 have HH0 : HeldN w.heap.size neg A c l E w w9 := .of HB9.out HX9.out HR9.out
 have HH : HeldN w.heap.size neg A c l E w (w9.drewN nd) := HH0.drewN nd
 rw [← hg1] at HH ⊢
 generalize w9.drewN nd = W1 at *
 have HG1 := Aside0.mk hg1
 clear hg1 HX9 HB9 HR9 HH0
 go_upto_region 10 with (first
  | (go_at_call 24; (with_reducible refine (vernierref06_Neg.calls k n (p : Int) (q : Int) _ A5.out).mono ?_); rintro e W2 ⟨rfl, hb2⟩; have HH2 := HeldN.below HH hb2; clear hb2 HH; have HH := HH2; clear HH2))
 clear e1 e2 e3 e4 e5
 by_cases hu : q < N - 1
 ·
  have eu : decide (q < N - 1) = true := decide_eq_true hu
  have HQ1 := Aside0.mk hu
  clear hu
  obtain ⟨tn1, tl1, tE1, u1_, ht1, hz1, hu1⟩ := HUP.out HQ1.out
  have T1 := Aside0.mk ht1
  have Z1 := Aside0.mk hz1
  have U1 := Aside0.mk hu1
  clear ht1 hz1 hu1
  go_upto_region 11 with (fail)
  go_region_held3 (fun W => W.cell? ⟨g1, 0, none⟩ = some (.bool neg) ∧ W.cell? ⟨g1, 1, none⟩ = some (.slice A l.length c) ∧ W.cell? ⟨g1, 2, none⟩ = some (.int .i64 E) ∧ Aside0 (Below w.heap.size w W ∧ W.heap[g1]? = some (.cells #[.bool neg, .slice A l.length c, .int .i64 E] 32 (0, 0)) ∧ Kd.C (Kd.int .i64) W A l.length l)) ((first | with_reducible exact HeldN.drew HH | with_reducible exact HeldN.below ‹_› ‹_›)) (first
   | (go_at_call 26; (with_reducible refine (verniertop_tie.calls k n (q : Int) tn1 tl1 tE1 _ T1.out).mono ?_); rintro e w1a ⟨v0, rfl, hR, hb1⟩; obtain ⟨B1, d1, rfl, hd1, hC1⟩ := Kd.R_reads hR; have HC1 := Aside0.mk hC1; clear hR hC1)
   | (go_at_call 25; (with_reducible refine (sizeR_calls k neg tn1 A B1 c d1 l tl1 E tE1 u1_ _ (HeldN.row (neg := neg) (E := E) (c := c) (g := g1) (w := w) ‹_›) hc HC1.out hd1 Z1.out).mono ?_); rintro e w1b ⟨rfl, hc1b⟩))
  (try simp only [Exit.inBlock, Exit.then])
  have HF1 : HeldN g1 neg A c l E w w1b := by with_reducible assumption
  clear HH; have HH := HF1; clear HF1
  rcases U1.out with hx | ⟨hx, hy⟩
  ·
   have f1 : decide (0 < u1_) = false := decide_eq_false (by omega)
   have f3 : (u1_ == 0) = false := by simp; omega
   clear hx
   by_cases hl2 : 1 < q
   ·
    have el2 : decide ((1 : Int) < (q : Int)) = true := decide_eq_true (by omega)
    have HQ3 := Aside0.mk hl2
    clear hl2
    obtain ⟨tn3, tl3, tE3, u3_, ht3, hz3, hu3⟩ := HLOW.out HQ3.out
    have T3 := Aside0.mk ht3
    have Z3 := Aside0.mk hz3
    have U3 := Aside0.mk hu3
    clear ht3 hz3 hu3
    go_upto_region 15 with (fail)
    go_region_held3 (fun W => W.cell? ⟨g1, 0, none⟩ = some (.bool neg) ∧ W.cell? ⟨g1, 1, none⟩ = some (.slice A l.length c) ∧ W.cell? ⟨g1, 2, none⟩ = some (.int .i64 E) ∧ Aside0 (Below w.heap.size w W ∧ W.heap[g1]? = some (.cells #[.bool neg, .slice A l.length c, .int .i64 E] 32 (0, 0)) ∧ Kd.C (Kd.int .i64) W A l.length l)) ((first | with_reducible exact HeldN.drew HH | with_reducible exact HeldN.below ‹_› ‹_›)) (first
     | (go_at_call 26; (with_reducible refine (verniertop_tie.calls k n ((q - 1 : Nat) : Int) tn3 tl3 tE3 _ T3.out).mono ?_); rintro e w3a ⟨v0, rfl, hR, hb3⟩; obtain ⟨B3, d3, rfl, hd3, hC3⟩ := Kd.R_reads hR; have HC3 := Aside0.mk hC3; clear hR hC3)
     | (go_at_call 25; (with_reducible refine (sizeR_calls k neg tn3 A B3 c d3 l tl3 E tE3 u3_ _ (HeldN.row (neg := neg) (E := E) (c := c) (g := g1) (w := w) ‹_›) hc HC3.out hd3 Z3.out).mono ?_); rintro e w3b ⟨rfl, hc3b⟩))
    (try simp only [Exit.inBlock, Exit.then])
    have HF3 : HeldN g1 neg A c l E w w3b := by with_reducible assumption
    clear HH; have HH := HF3; clear HF3
    rcases U3.out with hx | ⟨hx, hy⟩
    ·
     have f1 : decide (0 < u3_) = true := decide_eq_true hx
     clear hx
     go_wp2
     go_ret
     exact ⟨rfl, HH.bel⟩
    ·
     have f2 : ((q : Int) % 2 == 0) = true := by simp; omega
     subst hx
     clear hy
     go_wp2
     go_ret
     exact ⟨rfl, HH.bel⟩
   ·
    have el2 : decide ((1 : Int) < (q : Int)) = false := decide_eq_false (by omega)
    clear hl2
    go_wp2
    go_ret
    exact ⟨rfl, HH.bel⟩
  ·
   have f2 : ((q : Int) % 2 == 0) = true := by simp; omega
   subst hx
   clear hy
   by_cases hl4 : 1 < q
   ·
    have el4 : decide ((1 : Int) < (q : Int)) = true := decide_eq_true (by omega)
    have HQ5 := Aside0.mk hl4
    clear hl4
    obtain ⟨tn5, tl5, tE5, u5_, ht5, hz5, hu5⟩ := HLOW.out HQ5.out
    have T5 := Aside0.mk ht5
    have Z5 := Aside0.mk hz5
    have U5 := Aside0.mk hu5
    clear ht5 hz5 hu5
    go_upto_region 15 with (fail)
    go_region_held3 (fun W => W.cell? ⟨g1, 0, none⟩ = some (.bool neg) ∧ W.cell? ⟨g1, 1, none⟩ = some (.slice A l.length c) ∧ W.cell? ⟨g1, 2, none⟩ = some (.int .i64 E) ∧ Aside0 (Below w.heap.size w W ∧ W.heap[g1]? = some (.cells #[.bool neg, .slice A l.length c, .int .i64 E] 32 (0, 0)) ∧ Kd.C (Kd.int .i64) W A l.length l)) ((first | with_reducible exact HeldN.drew HH | with_reducible exact HeldN.below ‹_› ‹_›)) (first
     | (go_at_call 26; (with_reducible refine (verniertop_tie.calls k n ((q - 1 : Nat) : Int) tn5 tl5 tE5 _ T5.out).mono ?_); rintro e w5a ⟨v0, rfl, hR, hb5⟩; obtain ⟨B5, d5, rfl, hd5, hC5⟩ := Kd.R_reads hR; have HC5 := Aside0.mk hC5; clear hR hC5)
     | (go_at_call 25; (with_reducible refine (sizeR_calls k neg tn5 A B5 c d5 l tl5 E tE5 u5_ _ (HeldN.row (neg := neg) (E := E) (c := c) (g := g1) (w := w) ‹_›) hc HC5.out hd5 Z5.out).mono ?_); rintro e w5b ⟨rfl, hc5b⟩))
    (try simp only [Exit.inBlock, Exit.then])
    have HF5 : HeldN g1 neg A c l E w w5b := by with_reducible assumption
    clear HH; have HH := HF5; clear HF5
    rcases U5.out with hx | ⟨hx, hy⟩
    ·
     have f1 : decide (0 < u5_) = true := decide_eq_true hx
     clear hx
     go_wp2
     go_ret
     exact ⟨rfl, HH.bel⟩
    ·
     have f2 : ((q : Int) % 2 == 0) = true := by simp; omega
     subst hx
     clear hy
     go_wp2
     go_ret
     exact ⟨rfl, HH.bel⟩
   ·
    have el4 : decide ((1 : Int) < (q : Int)) = false := decide_eq_false (by omega)
    clear hl4
    go_wp2
    go_ret
    exact ⟨rfl, HH.bel⟩
 ·
  have eu : decide (q < N - 1) = false := decide_eq_false hu
  clear hu
  by_cases hl6 : 1 < q
  ·
   have el6 : decide ((1 : Int) < (q : Int)) = true := decide_eq_true (by omega)
   have HQ7 := Aside0.mk hl6
   clear hl6
   obtain ⟨tn7, tl7, tE7, u7_, ht7, hz7, hu7⟩ := HLOW.out HQ7.out
   have T7 := Aside0.mk ht7
   have Z7 := Aside0.mk hz7
   have U7 := Aside0.mk hu7
   clear ht7 hz7 hu7
   go_upto_region 15 with (fail)
   go_region_held3 (fun W => W.cell? ⟨g1, 0, none⟩ = some (.bool neg) ∧ W.cell? ⟨g1, 1, none⟩ = some (.slice A l.length c) ∧ W.cell? ⟨g1, 2, none⟩ = some (.int .i64 E) ∧ Aside0 (Below w.heap.size w W ∧ W.heap[g1]? = some (.cells #[.bool neg, .slice A l.length c, .int .i64 E] 32 (0, 0)) ∧ Kd.C (Kd.int .i64) W A l.length l)) ((first | with_reducible exact HeldN.drew HH | with_reducible exact HeldN.below ‹_› ‹_›)) (first
    | (go_at_call 26; (with_reducible refine (verniertop_tie.calls k n ((q - 1 : Nat) : Int) tn7 tl7 tE7 _ T7.out).mono ?_); rintro e w7a ⟨v0, rfl, hR, hb7⟩; obtain ⟨B7, d7, rfl, hd7, hC7⟩ := Kd.R_reads hR; have HC7 := Aside0.mk hC7; clear hR hC7)
    | (go_at_call 25; (with_reducible refine (sizeR_calls k neg tn7 A B7 c d7 l tl7 E tE7 u7_ _ (HeldN.row (neg := neg) (E := E) (c := c) (g := g1) (w := w) ‹_›) hc HC7.out hd7 Z7.out).mono ?_); rintro e w7b ⟨rfl, hc7b⟩))
   (try simp only [Exit.inBlock, Exit.then])
   have HF7 : HeldN g1 neg A c l E w w7b := by with_reducible assumption
   clear HH; have HH := HF7; clear HF7
   rcases U7.out with hx | ⟨hx, hy⟩
   ·
    have f1 : decide (0 < u7_) = true := decide_eq_true hx
    clear hx
    go_wp2
    go_ret
    exact ⟨rfl, HH.bel⟩
   ·
    have f2 : ((q : Int) % 2 == 0) = true := by simp; omega
    subst hx
    clear hy
    go_wp2
    go_ret
    exact ⟨rfl, HH.bel⟩
  ·
   have el6 : decide ((1 : Int) < (q : Int)) = false := decide_eq_false (by omega)
   clear hl6
   go_wp2
   go_ret
   exact ⟨rfl, HH.bel⟩
end Go.Proofs.Ytjlaijaadclghaa.F
