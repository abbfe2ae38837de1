/- What holds while a round's product is made; .. -/
import Derived.Test.YtgaaeehohhnocaaA14b
namespace Go.Proofs.Ytgaaeehohhnocaa.F
open RowKit YtgaaeehohhnocaaW PrintWords PrintLast PrintMore
set_option linter.all false
abbrev HeldV (gA gB : Nat) (ka : Int) (na : Bool) (sa fa kb : Int) (nb : Bool) (sb fb : Int) (W8 W : World) : Prop :=
 W.cell? ⟨gA, 0, none⟩ = some (.int .i64 ka) ∧ W.cell? ⟨gA, 1, none⟩ = some (.bool na) ∧ W.cell? ⟨gA, 2, none⟩ = some (.int .i64 sa) ∧ W.cell? ⟨gA, 3, none⟩ = some (.int .u64 fa) ∧ W.cell? ⟨gB, 0, none⟩ = some (.int .i64 kb) ∧ W.cell? ⟨gB, 1, none⟩ = some (.bool nb) ∧ W.cell? ⟨gB, 2, none⟩ = some (.int .i64 sb) ∧ W.cell? ⟨gB, 3, none⟩ = some (.int .u64 fb) ∧
 Aside0 (Below W8.heap.size W8 W ∧ W8.heap[gA]? = some (.cells #[.int .i64 ka, .bool na, .int .i64 sa, .int .u64 fa] 39 (0, 0)) ∧ W8.heap[gB]? = some (.cells #[.int .i64 kb, .bool nb, .int .i64 sb, .int .u64 fb] 39 (0, 0)))
section
variable {gA gB : Nat} {ka : Int} {na : Bool} {sa fa kb : Int} {nb : Bool} {sb fb : Int} {W8 W V : World}
theorem HeldV.of (a : W8.heap[gA]? = some (.cells #[.int .i64 ka, .bool na, .int .i64 sa, .int .u64 fa] 39 (0, 0))) (b : W8.heap[gB]? = some (.cells #[.int .i64 kb, .bool nb, .int .i64 sb, .int .u64 fb] 39 (0, 0))) (h : Below W8.heap.size W8 W) : HeldV gA gB ka na sa fa kb nb sb fb W8 W := by
 obtain ⟨a0, a1, a2, a3, _⟩ := cl4 ((h.block gA (Array.getElem?_eq_some_iff.1 a).1).trans a)
 obtain ⟨b0, b1, b2, b3, _⟩ := cl4 ((h.block gB (Array.getElem?_eq_some_iff.1 b).1).trans b)
 exact ⟨a0, a1, a2, a3, b0, b1, b2, b3, ⟨⟨h, a, b⟩⟩⟩
theorem HeldV.b (h : HeldV gA gB ka na sa fa kb nb sb fb W8 W) : Below W8.heap.size W8 W := h.2.2.2.2.2.2.2.2.out.1
theorem HeldV.via (u : Below W.heap.size W V) (h : HeldV gA gB ka na sa fa kb nb sb fb W8 W) : HeldV gA gB ka na sa fa kb nb sb fb W8 V :=
 .of h.2.2.2.2.2.2.2.2.out.2.1 h.2.2.2.2.2.2.2.2.out.2.2 (below_step h.b u)
theorem HeldV.drewN (h : HeldV gA gB ka na sa fa kb nb sb fb W8 W) (k : Nat) : HeldV gA gB ka na sa fa kb nb sb fb W8 (W.drewN k) := h.via (pw_below_drewN (Below.refl _ _) k)
theorem HeldV.drew (h : HeldV gA gB ka na sa fa kb nb sb fb W8 W) : HeldV gA gB ka na sa fa kb nb sb fb W8 W.drew := HeldV.via (Below.refl _ _).drew h
theorem HeldV.alloc (h : HeldV gA gB ka na sa fa kb nb sb fb W8 W) (o : Obj) : HeldV gA gB ka na sa fa kb nb sb fb W8 (W.alloc o) := h.via (below_alloc (Below.refl _ _) o)
theorem HeldV.set {p o : Nat} {v : Value} (h : HeldV gA gB ka na sa fa kb nb sb fb W8 W) (hp : W8.heap.size ≤ p) : HeldV gA gB ka na sa fa kb nb sb fb W8 (W.setCell ⟨p, o, none⟩ v) := by
 refine .of h.2.2.2.2.2.2.2.2.out.2.1 h.2.2.2.2.2.2.2.2.out.2.2 ?_
 have hb := h.b
 exact ⟨hb.os, hb.tape, hb.output, by rw [World.size_setCell]; exact hb.size, fun k hk => (Below.heap_setCell W ⟨p, o, none⟩ v k (by show k ≠ p; omega)).trans (hb.block k hk)⟩
end
theorem keepK {V w9 : World} {g : Nat} {o : Obj} (u : Below V.heap.size V w9) (h : V.heap[g]? = some o) : w9.heap[g]? = some o := (u.block g (Array.getElem?_eq_some_iff.1 h).1).trans h
structure BoxP (W8 : World) (g : Nat) (n : Bool) (u : Value) (l : List Int) (E : Int) (W : World) : Prop where
 below : Below W8.heap.size W8 W
 ge : W8.heap.size ≤ g
 box : W.heap[g]? = some (.cells #[.bool n, u, .int .i64 E] 32 (0, 0))
 row : Kd.R (Kd.int .i64) 3 W W8.heap.size (fun k => k ≠ g) u l
theorem row_free {W : World} {base g : Nat} {u : Value} {l : List Int} {cs : Array Value} (r : Kd.R (Kd.int .i64) 3 W base (fun _ => True) u l) (h : W.heap[g]? = some (.cells cs 32 (0, 0))) : Kd.R (Kd.int .i64) 3 W base (fun k => k ≠ g) u l :=
 Kd.R_mono (Kd.R_types r h (fun q hq => by
  rcases List.mem_cons.mp hq with rfl | hq
  ·
   decide
  ·
   cases hq)) (fun k hk => hk.2)
theorem BoxP.new {W8 W9 : World} {n : Bool} {u : Value} {l : List Int} {E : Int} {base : Nat} (b : Below W8.heap.size W8 W9) (hb : W8.heap.size ≤ base) (r : Kd.R (Kd.int .i64) 3 W9 base (fun _ => True) u l) : BoxP W8 W9.heap.size n u l E (W9.alloc (.cells #[.bool n, u, .int .i64 E] 32 (0, 0))) :=
 ⟨below_alloc b _, b.size, alloc_new W9 _, row_free (Kd.R_lower (Kd.R_below r (below_alloc (Below.refl _ _) _)) hb) (alloc_new W9 _)⟩
theorem three_set {W : World} {g : Nat} {ty : TypeId} {v0 v1 v2 u0 u1 u2 : Value} (h : W.heap[g]? = some (.cells #[v0, v1, v2] ty (0, 0))) : Upd W (((W.setCell ⟨g, 0, none⟩ u0).setCell ⟨g, 1, none⟩ u1).setCell ⟨g, 2, none⟩ u2) g (.cells #[u0, u1, u2] ty (0, 0)) := by
 have h1 := Upd.cell (i := 0) (v := u0) h
 have h2 := Upd.cell (i := 1) (v := u1) h1.here
 have h3 := Upd.cell (i := 2) (v := u2) h2.here
 exact (h1.trans h2).trans h3
theorem BoxP.set {W8 W9 : World} {g : Nat} {n : Bool} {u v0 v1 v2 : Value} {l : List Int} {E : Int} {base : Nat} (b : Below W8.heap.size W8 W9) (hg : W8.heap.size ≤ g) (hb : W8.heap.size ≤ base) (r : Kd.R (Kd.int .i64) 3 W9 base (fun _ => True) u l) (h : W9.heap[g]? = some (.cells #[v0, v1, v2] 32 (0, 0))) : BoxP W8 g n u l E (((W9.setCell ⟨g, 0, none⟩ (.bool n)).setCell ⟨g, 1, none⟩ u).setCell ⟨g, 2, none⟩ (.int .i64 E)) := by
 have hu := three_set (u0 := .bool n) (u1 := u) (u2 := .int .i64 E) h
 refine ⟨hu.below b hg, hg, hu.here, ?_⟩
 exact Kd.R_step (Kd.R_lower (row_free r h) hb) (fun k hk _ => hu.other k hk)
theorem BoxP.flip {W8 W : World} {g : Nat} {n n' : Bool} {u : Value} {l : List Int} {E : Int} (h : BoxP W8 g n u l E W) : BoxP W8 g n' u l E (W.setCell ⟨g, 0, none⟩ (.bool n')) := by
 have hu := Upd.cell (i := 0) (v := .bool n') h.box
 exact ⟨hu.below h.below h.ge, h.ge, hu.here, Kd.R_step h.row (fun k hk _ => hu.other k hk)⟩
end Go.Proofs.Ytgaaeehohhnocaa.F

namespace Go.Proofs.Ytgaaeehohhnocaa.F
open RowKit YtgaaeehohhnocaaW PrintWords PrintLast PrintMore
attribute [local go_sem high] xor_u64 xor_u32
set_option linter.all false
structure Fin (kf m L : Nat) (nx ny nz : Bool) (wx wy wz : List Nat) (nar : Bool) (vn : Bool) (vl : List Int) (vE : Int) (p : Int) : Prop where
 lx : wx.length = 16 ∧ ∀ x ∈ wx, x < 18446744073709551616
 ly : wy.length = 16
 lz : wz.length = 16 ∧ ∀ x ∈ wz, x < 18446744073709551616
 lnz : (negW m wz).length = 16
 alike : nx = ny ∧ wx.take m = wy.take m ∧ nx = nz ∧ wx.take m = (negW m wz).take m
 round : ∀ b W, AccB W b m nx (L : Int) wx → Calls Try.prog 15 #[.pointer (some ⟨b, 0, none⟩)] W fun e w' => e = .returned (.int .u64 p) ∧ Below W.heap.size W w'
 isnar : nar = true → vernierref05_Power.f kf (wrap64 (4 * (m : Int) - 1)) = some p ∧ ∀ b W, AccB W b m false 0 (List.replicate 16 0) → Calls Try.prog 15 #[.pointer (some ⟨b, 0, none⟩)] W fun e w' => e = .returned (.int .u64 0) ∧ Below W.heap.size W w'
 near : nar = false → ∀ (W : World) (A : Option Addr) (c : Nat), Kd.C (Kd.int .i64) W A vl.length vl → vl.length ≤ c → Calls Try.prog 20 #[.int .i64 (4 * (m : Int)), .int .u64 p, .agg #[.bool vn, .slice A vl.length c, .int .i64 vE]] W fun e w' => e = .returned (.bool true) ∧ Below W.heap.size W w'
 sign : nar = false → verniertop_sign.f vn vl vE = some (if 9223372036854775808 ≤ wx.getD (m - 1) 0 then -1 else if wx = List.replicate 16 0 then 0 else 1)
theorem below_lower {W V : World} {B : Nat} (h : Below W.heap.size W V) (hB : B ≤ W.heap.size) : Below B W V := ⟨h.os, h.tape, h.output, h.size, fun k hk => h.block k (Nat.lt_of_lt_of_le hk hB)⟩
theorem below_then {u v w : World} {B : Nat} (h : Below B u v) (k : Below B v w) : Below B u w := ⟨k.os.trans h.os, k.tape.trans h.tape, k.output.trans h.output, Nat.le_trans h.size k.size, fun i hi => (k.block i hi).trans (h.block i hi)⟩
end Go.Proofs.Ytgaaeehohhnocaa.F

namespace Go.Proofs.Ytgaaeehohhnocaa.F
open RowKit YtgaaeehohhnocaaW PrintWords PrintLast PrintMore
attribute [local go_sem high] xor_u64 xor_u32
set_option linter.all false
set_option maxHeartbeats 4000000 in
set_option maxRecDepth 100000 in
theorem copy_calls (b m : Nat) (nar : Bool) (t : Int) (ws : List Nat) (w : World) (h : AccB w b m nar t ws) (hl : ws.length = 16) :
  Calls Try.prog 23 #[.pointer (some ⟨b, 0, none⟩)] w fun e w' => ∃ g, w.heap.size ≤ g ∧ e = .returned (.pointer (some ⟨g, 0, none⟩)) ∧ AccB w' g m nar t ws ∧ Below w.heap.size w w' := by
 have H := Aside0.mk h
 have hs := acc_size m nar t ws hl
 have HS := Aside0.mk hs
 clear h hs
 go_enter Try.func23, Try.ntmps23
 go_wp2_with (first
  | (refine wpList_load_row rfl 64 (.tmp 5) rfl b rfl 64 (accC m nar t ws) (0, 0) _ H.out Try.underlying64 rfl (by rw [HS.out]; kernel_rfl) ?_)
  | (refine wpList_store_upd rfl 64 (.tmp 3) (.tmp 6) rfl w.heap.size (accC m nar t ws) rfl rfl 64 _ (alloc_new w _) (by rw [HS.out]; kernel_rfl) (by rw [HS.out]; kernel_rfl) (acc_one _ _ _ _) ?_; intro W1 hU; have HU := Aside0.mk hU; clear hU))
 go_ret
 exact ⟨w.heap.size, Nat.le_refl _, rfl, HU.out.here, HU.out.below (below_alloc (Below.refl _ _) _) (Nat.le_refl _)⟩
set_option maxHeartbeats 4000000 in
set_option maxRecDepth 100000 in
theorem full_calls (tk : Bool) (b m : Nat) (nar : Bool) (ws : List Nat) (a1 a2 : Int) (w : World) (h : AccB w b m nar 2147483647 ws) :
  Calls Try.prog 47 #[.pointer (some ⟨b, 0, none⟩), .int .u64 a1, .int .u64 a2, .bool tk] w fun e w' => e = .returned (errW (some 11)) ∧ Below w.heap.size w w' := by
 have x2 := h.c2
 have HB := Aside0.mk (Below.refl w.heap.size w)
 clear h
 go_enter Try.func47, Try.ntmps47
 go_wp2
 go_ret
 exact ⟨rfl, HB.out⟩
set_option maxHeartbeats 4000000 in
set_option maxRecDepth 100000 in
theorem put_any (b : Nat) (a1 a2 : Int) (er : Option Int) (w : World) (R : World → Prop) (h : Calls Try.prog 47 #[.pointer (some ⟨b, 0, none⟩), .int .u64 a1, .int .u64 a2, .bool false] w fun e w' => e = .returned (errW er) ∧ R w') :
  Calls Try.prog 25 #[.pointer (some ⟨b, 0, none⟩), .int .u64 a1, .int .u64 a2] w fun e w' => e = .returned (errW er) ∧ R w' := by
 have H := Aside0.mk h
 clear h
 go_enter Try.func25, Try.ntmps25
 go_wp2_with (first | (go_at_call 47; (with_reducible refine H.out.mono ?_); rintro e w' ⟨rfl, hr⟩; have HR := Aside0.mk hr; clear hr))
 go_ret
 exact ⟨rfl, HR.out⟩
set_option maxHeartbeats 4000000 in
set_option maxRecDepth 100000 in
theorem take_any (b : Nat) (a1 a2 : Int) (er : Option Int) (w : World) (R : World → Prop) (h : Calls Try.prog 47 #[.pointer (some ⟨b, 0, none⟩), .int .u64 a1, .int .u64 a2, .bool true] w fun e w' => e = .returned (errW er) ∧ R w') :
  Calls Try.prog 26 #[.pointer (some ⟨b, 0, none⟩), .int .u64 a1, .int .u64 a2] w fun e w' => e = .returned (errW er) ∧ R w' := by
 have H := Aside0.mk h
 clear h
 go_enter Try.func26, Try.ntmps26
 go_wp2_with (first | (go_at_call 47; (with_reducible refine H.out.mono ?_); rintro e w' ⟨rfl, hr⟩; have HR := Aside0.mk hr; clear hr))
 go_ret
 exact ⟨rfl, HR.out⟩
theorem one_shl {m : Nat} (h0 : 2 ≤ m) (h1 : m ≤ 16) : IntKind.u64.wrap ((1 : Int) * 2 ^ ((4 * m - 2 : Nat))) = ((2 ^ (4 * m - 2) : Nat) : Int) := by
 have hp : 2 ^ (4 * m - 2) ≤ 2 ^ 62 := Nat.pow_le_pow_right (by decide) (by omega)
 rw [Int.one_mul, show ((2 : Int) ^ (4 * m - 2)) = ((2 ^ (4 * m - 2) : Nat) : Int) by rw [Int.natCast_pow]; rfl, wrap_nat]
 rw [show (2 : Nat) ^ 62 = 4611686018427387904 by decide] at hp
 rw [Nat.mod_eq_of_lt (by omega)]
set_option maxHeartbeats 4000000 in
set_option maxRecDepth 100000 in
theorem add_any (b m : Nat) (nar : Bool) (t : Int) (ws : List Nat) (a1 : Int) (er : Option Int) (w : World) (R : World → Prop) (ha : AccB w b m nar t ws) (h0 : 2 ≤ m) (h1 : m ≤ 16) (h : Calls Try.prog 47 #[.pointer (some ⟨b, 0, none⟩), .int .u64 a1, .int .u64 ((2 ^ (4 * m - 2) : Nat) : Int), .bool false] w fun e w' => e = .returned (errW er) ∧ R w') :
  Calls Try.prog 24 #[.pointer (some ⟨b, 0, none⟩), .int .u64 a1] w fun e w' => e = .returned (errW er) ∧ R w' := by
 have e2 : IntKind.u64.wrap ((2 : Int) ^ (4 * m - 2)) = ((2 ^ (4 * m - 2) : Nat) : Int) := by have := one_shl h0 h1; rwa [Int.one_mul] at this
 obtain ⟨x, hx⟩ : ∃ x : Int, x = ((2 ^ (4 * m - 2) : Nat) : Int) := ⟨_, rfl⟩
 rw [← hx] at h e2
 clear hx
 have H := Aside0.mk h
 have c0 := ha.c0
 have e1 : IntKind.i64.wrap (4 * (m : Int) - 2) = ((4 * m - 2 : Nat) : Int) := by rw [wrap_small _ (by omega) (by omega)]; omega
 clear h ha
 go_enter Try.func24, Try.ntmps24
 go_wp2_with (first | (go_at_call 47; (with_reducible refine H.out.mono ?_); rintro e w' ⟨rfl, hr⟩; have HR := Aside0.mk hr; clear hr))
 go_ret
 exact ⟨rfl, HR.out⟩
end Go.Proofs.Ytgaaeehohhnocaa.F
