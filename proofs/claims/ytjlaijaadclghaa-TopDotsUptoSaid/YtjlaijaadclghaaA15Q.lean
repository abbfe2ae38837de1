/- Dot: the sum of products, rounded once; .. -/
import Derived.Test.YtjlaijaadclghaaB4Q
namespace Go.Proofs.Ytjlaijaadclghaa.F
open RowKit YtjlaijaadclghaaW PrintWords PrintLast PrintMore
set_option linter.all false
set_option maxHeartbeats 2000000 in
set_option maxRecDepth 100000 in
theorem dot_calls (kf m : Nat) (d1 : Int) (d2 : Bool) (d3 d4 : Int) (hd : codec_Decode.f kf (4 * (m : Int)) 0 = some (d1, d2, d3, d4, none)) (va vb : Value) (w : World) (nx : Bool) (t : Int) (wx : List Nat) (p : Int)
  (hi : ∀ b W, w.heap.size ≤ b → Below w.heap.size w W → AccB W b m false 0 (List.replicate 16 0) → Calls Try.prog 14 #[.pointer (some ⟨b, 0, none⟩), va, vb] W fun e w' => e = .returned (errW none) ∧ AccB w' b m nx t wx ∧ Chg W w' b)
  (hr : ∀ b W, AccB W b m nx t wx → Calls Try.prog 15 #[.pointer (some ⟨b, 0, none⟩)] W fun e w' => e = .returned (.int .u64 p) ∧ Below W.heap.size W w') :
  Calls Try.prog 4 #[.int .i64 (4 * (m : Int)), va, vb] w fun e w' => e = .returned (.tuple #[.int .u64 p, errW none]) ∧ Below w.heap.size w w' := by
 have hu25 := Try.underlying25
 have A3 := Aside0.mk hd
 have HI := Aside0.mk hi
 have HR := Aside0.mk hr
 clear hd hi hr
 go_enter Try.func4, Try.ntmps4
 go_upto_region 2 with (first
  | (go_at_call 13; (with_reducible refine (new_calls kf m d1 d2 d3 d4 _ A3.out).mono ?_); rintro e w1 ⟨b1, hb1, rfl, ha1, hw1⟩; have HA1 := Aside0.mk ha1; have HB1 := Aside0.mk hw1; have HG1 := Aside0.mk hb1; clear ha1 hw1 hb1; simp only [errW_none]))
 go_upto_region 5 with (first
  | (go_at_call 14; (with_reducible refine (HI.out b1 w1 HG1.out HB1.out HA1.out).mono ?_); rintro e w2 ⟨rfl, ha2, hc2⟩; have HA2 := Aside0.mk ha2; have HB2 := Aside0.mk (hc2.belowB HB1.out HG1.out); clear ha2 hc2; simp only [errW_none]))
 go_wp2_with (first
  | (go_at_call 15; (with_reducible refine (HR.out b1 w2 HA2.out).mono ?_); rintro e w3 ⟨rfl, hb3⟩; have HB3 := Aside0.mk (below_step HB2.out hb3); clear hb3))
 go_ret2
 exact ⟨by rw [errW_none]; rfl, HB3.out⟩
set_option maxHeartbeats 2000000 in
set_option maxRecDepth 100000 in
theorem dot_len (kf m : Nat) (d1 : Int) (d2 : Bool) (d3 d4 er : Int) (hd : codec_Decode.f kf (4 * (m : Int)) 0 = some (d1, d2, d3, d4, none)) (va vb : Value) (w : World)
  (hi : ∀ b W, Calls Try.prog 14 #[.pointer (some ⟨b, 0, none⟩), va, vb] W fun e w' => e = .returned (errW (some er)) ∧ Below W.heap.size W w') :
  Calls Try.prog 4 #[.int .i64 (4 * (m : Int)), va, vb] w fun e w' => e = .returned (.tuple #[.int .u64 0, errW (some er)]) ∧ Below w.heap.size w w' := by
 have hu25 := Try.underlying25
 have A3 := Aside0.mk hd
 have HI := Aside0.mk hi
 clear hd hi
 go_enter Try.func4, Try.ntmps4
 go_upto_region 2 with (first
  | (go_at_call 13; (with_reducible refine (new_calls kf m d1 d2 d3 d4 _ A3.out).mono ?_); rintro e w1 ⟨b1, hb1, rfl, ha1, hw1⟩; have HA1 := Aside0.mk ha1; have HB1 := Aside0.mk hw1; have HG1 := Aside0.mk hb1; clear ha1 hw1 hb1; simp only [errW_none]))
 go_upto_region 5 with (first
  | (go_at_call 14; (with_reducible refine (HI.out b1 w1).mono ?_); rintro e w2 ⟨rfl, hc2⟩; have HB2 := Aside0.mk (below_step HB1.out hc2); clear hc2; simp only [errW_some]))
 go_wp2
 go_ret2
 exact ⟨by rw [errW_some]; rfl, HB2.out⟩
set_option maxHeartbeats 2000000 in
set_option maxRecDepth 100000 in
theorem dot_bad (k : Nat) (n : Int) (d1 : Int) (d2 : Bool) (d3 d4 er : Int) (h : codec_Decode.f k n 0 = some (d1, d2, d3, d4, some er)) (va vb : Value) (w : World) :
  Calls Try.prog 4 #[.int .i64 n, va, vb] w fun e w' => e = .returned (.tuple #[.int .u64 0, errW (some er)]) ∧ Below w.heap.size w w' := by
 have hu25 := Try.underlying25
 have A3 := Aside0.mk h
 clear h
 go_enter Try.func4, Try.ntmps4
 go_upto_region 2 with (first
  | (go_at_call 13; (with_reducible refine (new_bad k n d1 d2 d3 d4 er _ A3.out).mono ?_); rintro e w1 ⟨rfl, hw1⟩; have HB1 := Aside0.mk hw1; clear hw1; simp only [errW_some]))
 go_wp2
 go_ret2
 exact ⟨by rw [errW_some]; rfl, HB1.out⟩
end Go.Proofs.Ytjlaijaadclghaa.F

namespace Go.Proofs.Ytjlaijaadclghaa.F
open RowKit YtjlaijaadclghaaW PrintWords PrintLast PrintMore
set_option linter.all false
set_option maxHeartbeats 2000000 in
set_option maxRecDepth 100000 in
theorem into_len (A B : Option Addr) (la lb ca cb : Nat) (hl : la ≠ lb) (b : Nat) (W : World) :
  Calls Try.prog 14 #[.pointer (some ⟨b, 0, none⟩), .slice A la ca, .slice B lb cb] W fun e w' => e = .returned (errW (some 15)) ∧ Below W.heap.size W w' := by
 have hu25 := Try.underlying25
 have c0 : ((la : Int) == (lb : Int)) = false := by simpa using fun h => hl (by omega)
 have c1 : decide ((la : Int) = (lb : Int)) = false := decide_eq_false (by omega)
 go_enter Try.func14, Try.ntmps14
 go_wp2
 have h1 := alloc_new (W.alloc (.cells #[.pointer (some ⟨b, 0, none⟩)] 42)) (.cells #[Value.iface 29 (Value.int IntKind.i64 15)] 25)
 rw [World.size_alloc] at h1
 have hc5 : ((W.alloc (.cells #[.pointer (some ⟨b, 0, none⟩)] 42)).alloc (.cells #[Value.iface 29 (Value.int IntKind.i64 15)] 25)).cell? ⟨W.heap.size + 1, 0, none⟩ = some (Value.iface 29 (Value.int IntKind.i64 15)) := by rw [cell_of_row _ _ _ _ _ _ h1]; rfl
 refine bodyPost_ret (v := errW (some 15)) ?_ rfl ⟨rfl, below_alloc (below_alloc (Below.refl _ _) _) _⟩
 rw [errW_some]
 simp [results, Try.f14, go_sem, hc5]
end Go.Proofs.Ytjlaijaadclghaa.F

namespace Go.Proofs.Ytjlaijaadclghaa.F
open RowKit YtjlaijaadclghaaW PrintWords PrintLast PrintMore
set_option linter.all false
set_option maxHeartbeats 4000000 in
set_option maxRecDepth 100000 in
theorem dots_bad (kf : Nat) (n : Int) (d1 : Int) (d2 : Bool) (d3 d4 : Int) (va vb : Value) (from_ : Int) (hd : codec_Decode.f kf n 0 = some (d1, d2, d3, d4, some 2)) (his : vernierref05_Is.f n = some false) (w : World) :
  Calls Try.prog 3 #[.int .i64 n, va, vb, .int .i64 from_] w fun e w' => e = .returned (.bool true) ∧ Below w.heap.size w w' := by
 have hu25 := Try.underlying25
 have hu29 := Try.underlying29
 have heq : ∀ w : World, (binOp BinOp.eql 25 (.iface 29 (.int .i64 2)) (.iface 29 (.int .i64 2))).run Try.prog w = .ok (.bool true) w := fun _ => by kernel_rfl
 have A3 := Aside0.mk hd
 have A4 := Aside0.mk his
 clear hd his
 go_enter Try.func3, Try.ntmps3
 go_upto_region 2 with (first
  | (go_at_call 4; (with_reducible refine (dot_bad kf n d1 d2 d3 d4 2 A3.out _ _ _).mono ?_); rintro e w1 ⟨rfl, hw1⟩; have HB1 := Aside0.mk hw1; clear hw1; simp only [errW_some]))
 go_wp2_with (first
  | (go_at_call 5; (with_reducible refine (vernierref05_Is.calls _ false _ A4.out).mono ?_); rintro e w' ⟨rfl, ⟨nd, rfl⟩⟩))
 go_ret
 exact ⟨rfl, pw_below_drewN HB1.out _⟩
set_option maxHeartbeats 4000000 in
set_option maxRecDepth 100000 in
theorem dots_len (kf m : Nat) (d1 : Int) (d2 : Bool) (d3 d4 : Int) (A B : Option Addr) (la lb ca cb : Nat) (hl : la ≠ lb) (from_ : Int) (hd : codec_Decode.f kf (4 * (m : Int)) 0 = some (d1, d2, d3, d4, none)) (his : vernierref05_Is.f (4 * (m : Int)) = some true) (w : World) :
  Calls Try.prog 3 #[.int .i64 (4 * (m : Int)), .slice A la ca, .slice B lb cb, .int .i64 from_] w fun e w' => e = .returned (.bool true) ∧ Below w.heap.size w w' := by
 have hu25 := Try.underlying25
 have hu29 := Try.underlying29
 have heq : ∀ w : World, (binOp BinOp.eql 25 (.iface 29 (.int .i64 15)) (.iface 29 (.int .i64 15))).run Try.prog w = .ok (.bool true) w := fun _ => by kernel_rfl
 have c0 : ((la : Int) == (lb : Int)) = false := by simpa using fun h => hl (by omega)
 have c1 : decide ((la : Int) = (lb : Int)) = false := decide_eq_false (by omega)
 have A3 := Aside0.mk hd
 have A4 := Aside0.mk his
 have AL := Aside0.mk hl
 clear hd his hl
 go_enter Try.func3, Try.ntmps3
 go_upto_region 2 with (first
  | (go_at_call 4; (with_reducible refine (dot_len kf m d1 d2 d3 d4 15 A3.out _ _ _ (fun b W => into_len A B la lb ca cb AL.out b W)).mono ?_); rintro e w1 ⟨rfl, hw1⟩; have HB1 := Aside0.mk hw1; clear hw1; simp only [errW_some]))
 go_wp2_with (first
  | (go_at_call 5; (with_reducible refine (vernierref05_Is.calls _ true _ A4.out).mono ?_); rintro e w' ⟨rfl, ⟨nd, rfl⟩⟩))
 go_ret
 exact ⟨rfl, pw_below_drewN HB1.out _⟩
set_option maxHeartbeats 4000000 in
set_option maxRecDepth 100000 in
theorem dots_long (m : Nat) (A B : Option Addr) (L ca cb : Nat) (hl : 400 < L) (from_ p : Int) (his : vernierref05_Is.f (4 * (m : Int)) = some true) (w : World)
  (hdot : Calls Try.prog 4 #[.int .i64 (4 * (m : Int)), .slice A L ca, .slice B L cb] w fun e w' => e = .returned (.tuple #[.int .u64 p, errW none]) ∧ Below w.heap.size w w') :
  Calls Try.prog 3 #[.int .i64 (4 * (m : Int)), .slice A L ca, .slice B L cb, .int .i64 from_] w fun e w' => e = .returned (.bool true) ∧ Below w.heap.size w w' := by
 have hu25 := Try.underlying25
 have hu29 := Try.underlying29
 have c0 : ((L : Int) == (L : Int)) = true := beq_self_eq_true _
 have c1 : decide ((400 : Int) < (L : Int)) = true := decide_eq_true (by omega)
 have A3 := Aside0.mk hdot
 have A4 := Aside0.mk his
 clear hdot his
 go_enter Try.func3, Try.ntmps3
 go_upto_region 2 with (first
  | (go_at_call 4; (with_reducible refine (A3.out).mono ?_); rintro e w1 ⟨rfl, hw1⟩; have HB1 := Aside0.mk hw1; clear hw1; simp only [errW_none]))
 go_wp2_with (first
  | (go_at_call 5; (with_reducible refine (vernierref05_Is.calls _ true _ A4.out).mono ?_); rintro e w' ⟨rfl, ⟨nd, rfl⟩⟩))
 go_ret
 exact ⟨rfl, pw_below_drewN HB1.out _⟩
end Go.Proofs.Ytjlaijaadclghaa.F

namespace Go.Proofs.Ytjlaijaadclghaa.F
open RowKit YtjlaijaadclghaaW PrintWords PrintLast PrintMore
set_option linter.all false
abbrev HeldV (gA gB : Nat) (ka : Int) (na : Bool) (sa fa kb : Int) (nb : Bool) (sb fb : Int) (W8 W : World) : Prop :=
 W.cell? ⟨gA, 0, none⟩ = some (.int .i64 ka) ∧ W.cell? ⟨gA, 1, none⟩ = some (.bool na) ∧ W.cell? ⟨gA, 2, none⟩ = some (.int .i64 sa) ∧ W.cell? ⟨gA, 3, none⟩ = some (.int .u64 fa) ∧ W.cell? ⟨gB, 0, none⟩ = some (.int .i64 kb) ∧ W.cell? ⟨gB, 1, none⟩ = some (.bool nb) ∧ W.cell? ⟨gB, 2, none⟩ = some (.int .i64 sb) ∧ W.cell? ⟨gB, 3, none⟩ = some (.int .u64 fb) ∧
 Aside0 (Below W8.heap.size W8 W ∧ W8.heap[gA]? = some (.cells #[.int .i64 ka, .bool na, .int .i64 sa, .int .u64 fa] 35 (0, 0)) ∧ W8.heap[gB]? = some (.cells #[.int .i64 kb, .bool nb, .int .i64 sb, .int .u64 fb] 35 (0, 0)))
section
variable {gA gB : Nat} {ka : Int} {na : Bool} {sa fa kb : Int} {nb : Bool} {sb fb : Int} {W8 W V : World}
theorem HeldV.of (a : W8.heap[gA]? = some (.cells #[.int .i64 ka, .bool na, .int .i64 sa, .int .u64 fa] 35 (0, 0))) (b : W8.heap[gB]? = some (.cells #[.int .i64 kb, .bool nb, .int .i64 sb, .int .u64 fb] 35 (0, 0))) (h : Below W8.heap.size W8 W) : HeldV gA gB ka na sa fa kb nb sb fb W8 W := by
 obtain ⟨a0, a1, a2, a3, _⟩ := cl4 ((h.block gA (Array.getElem?_eq_some_iff.1 a).1).trans a)
 obtain ⟨b0, b1, b2, b3, _⟩ := cl4 ((h.block gB (Array.getElem?_eq_some_iff.1 b).1).trans b)
 exact ⟨a0, a1, a2, a3, b0, b1, b2, b3, ⟨⟨h, a, b⟩⟩⟩
theorem HeldV.b (h : HeldV gA gB ka na sa fa kb nb sb fb W8 W) : Below W8.heap.size W8 W := h.2.2.2.2.2.2.2.2.out.1
theorem HeldV.via (u : Below W.heap.size W V) (h : HeldV gA gB ka na sa fa kb nb sb fb W8 W) : HeldV gA gB ka na sa fa kb nb sb fb W8 V :=
 .of h.2.2.2.2.2.2.2.2.out.2.1 h.2.2.2.2.2.2.2.2.out.2.2 (below_step h.b u)
theorem HeldV.drewN (h : HeldV gA gB ka na sa fa kb nb sb fb W8 W) (k : Nat) : HeldV gA gB ka na sa fa kb nb sb fb W8 (W.drewN k) := h.via (pw_below_drewN (Below.refl _ _) k)
theorem HeldV.drew (h : HeldV gA gB ka na sa fa kb nb sb fb W8 W) : HeldV gA gB ka na sa fa kb nb sb fb W8 W.drew := HeldV.via (Below.refl _ _).drew h
theorem HeldV.alloc (h : HeldV gA gB ka na sa fa kb nb sb fb W8 W) (o : Obj) : HeldV gA gB ka na sa fa kb nb sb fb W8 (W.alloc o) := h.via (below_alloc (Below.refl _ _) o)
theorem HeldV.set {p o : Nat} {v : Value} (h : HeldV gA gB ka na sa fa kb nb sb fb W8 W) (hp : W8.heap.size ≤ p) : HeldV gA gB ka na sa fa kb nb sb fb W8 (W.setCell ⟨p, o, none⟩ v) := by
 refine .of h.2.2.2.2.2.2.2.2.out.2.1 h.2.2.2.2.2.2.2.2.out.2.2 ?_
 have hb := h.b
 exact ⟨hb.os, hb.tape, hb.output, by rw [World.size_setCell]; exact hb.size, fun k hk => (Below.heap_setCell W ⟨p, o, none⟩ v k (by show k ≠ p; omega)).trans (hb.block k hk)⟩
end
theorem keepK {V w9 : World} {g : Nat} {o : Obj} (u : Below V.heap.size V w9) (h : V.heap[g]? = some o) : w9.heap[g]? = some o := (u.block g (Array.getElem?_eq_some_iff.1 h).1).trans h
structure BoxP (W8 : World) (g : Nat) (n : Bool) (u : Value) (l : List Int) (E : Int) (W : World) : Prop where
 below : Below W8.heap.size W8 W
 ge : W8.heap.size ≤ g
 box : W.heap[g]? = some (.cells #[.bool n, u, .int .i64 E] 32 (0, 0))
 row : Kd.R (Kd.int .i64) 3 W W8.heap.size (fun k => k ≠ g) u l
theorem row_free {W : World} {base g : Nat} {u : Value} {l : List Int} {cs : Array Value} (r : Kd.R (Kd.int .i64) 3 W base (fun _ => True) u l) (h : W.heap[g]? = some (.cells cs 32 (0, 0))) : Kd.R (Kd.int .i64) 3 W base (fun k => k ≠ g) u l :=
 Kd.R_mono (Kd.R_types r h (fun q hq => by
  rcases List.mem_cons.mp hq with rfl | hq
  ·
   decide
  ·
   cases hq)) (fun k hk => hk.2)
theorem BoxP.new {W8 W9 : World} {n : Bool} {u : Value} {l : List Int} {E : Int} {base : Nat} (b : Below W8.heap.size W8 W9) (hb : W8.heap.size ≤ base) (r : Kd.R (Kd.int .i64) 3 W9 base (fun _ => True) u l) : BoxP W8 W9.heap.size n u l E (W9.alloc (.cells #[.bool n, u, .int .i64 E] 32 (0, 0))) :=
 ⟨below_alloc b _, b.size, alloc_new W9 _, row_free (Kd.R_lower (Kd.R_below r (below_alloc (Below.refl _ _) _)) hb) (alloc_new W9 _)⟩
theorem three_set {W : World} {g : Nat} {ty : TypeId} {v0 v1 v2 u0 u1 u2 : Value} (h : W.heap[g]? = some (.cells #[v0, v1, v2] ty (0, 0))) : Upd W (((W.setCell ⟨g, 0, none⟩ u0).setCell ⟨g, 1, none⟩ u1).setCell ⟨g, 2, none⟩ u2) g (.cells #[u0, u1, u2] ty (0, 0)) := by
 have h1 := Upd.cell (i := 0) (v := u0) h
 have h2 := Upd.cell (i := 1) (v := u1) h1.here
 have h3 := Upd.cell (i := 2) (v := u2) h2.here
 exact (h1.trans h2).trans h3
theorem BoxP.set {W8 W9 : World} {g : Nat} {n : Bool} {u v0 v1 v2 : Value} {l : List Int} {E : Int} {base : Nat} (b : Below W8.heap.size W8 W9) (hg : W8.heap.size ≤ g) (hb : W8.heap.size ≤ base) (r : Kd.R (Kd.int .i64) 3 W9 base (fun _ => True) u l) (h : W9.heap[g]? = some (.cells #[v0, v1, v2] 32 (0, 0))) : BoxP W8 g n u l E (((W9.setCell ⟨g, 0, none⟩ (.bool n)).setCell ⟨g, 1, none⟩ u).setCell ⟨g, 2, none⟩ (.int .i64 E)) := by
 have hu := three_set (u0 := .bool n) (u1 := u) (u2 := .int .i64 E) h
 refine ⟨hu.below b hg, hg, hu.here, ?_⟩
 exact Kd.R_step (Kd.R_lower (row_free r h) hb) (fun k hk _ => hu.other k hk)
end Go.Proofs.Ytjlaijaadclghaa.F
