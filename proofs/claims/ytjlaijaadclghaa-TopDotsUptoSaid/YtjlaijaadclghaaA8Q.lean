/- Walk of the accumulator's Round; conditions: .. -/
import Derived.Test.YtjlaijaadclghaaA7Q
import Derived.Test.YtjlaijaadclghaaF0Q
import Derived.Test.YtjlaijaadclghaaF1Q
import Derived.Test.YtjlaijaadclghaaF2Q
import Derived.Test.YtjlaijaadclghaaF3Q
import Derived.Test.YtjlaijaadclghaaF4Q
import Derived.Test.YtjlaijaadclghaaF5Q
import Derived.Test.YtjlaijaadclghaaF6Q
import Derived.Test.YtjlaijaadclghaaF8Q
import Derived.Test.YtjlaijaadclghaaF9Q
import Derived.Test.YtjlaijaadclghaaF10Q
import Derived.Test.YtjlaijaadclghaaF11Q
import Derived.Test.YtjlaijaadclghaaF12Q
import Derived.Test.YtjlaijaadclghaaF13Q
import Derived.Test.YtjlaijaadclghaaF14Q
import Derived.Test.YtjlaijaadclghaaF15Q
import Derived.Test.YtjlaijaadclghaaF16Q
import Derived.Deep.RegionHeld3
namespace Go.Proofs.Ytjlaijaadclghaa.F
open RowKit YtjlaijaadclghaaW PrintWords PrintLast PrintMore
attribute [local go_sem high] xor_u64 xor_u32
set_option linter.all false
def topI (ls : List Nat) : Nat → Nat
 | 0 => 0
 | i + 1 => if ls.getD (i + 1) 0 = 0 then topI ls i else i + 1
def thW (ls : List Nat) (i j : Nat) : Nat := if j ≤ i then ls.getD (i - j) 0 else 0
def thC (ls : List Nat) (i k : Nat) : Array Value := #[if 0 < k then wordV (thW ls i 0) else wordV 0, if 1 < k then wordV (thW ls i 1) else wordV 0, if 2 < k then wordV (thW ls i 2) else wordV 0]
def anyW (ls : List Nat) : Nat → Bool
 | 0 => false
 | k + 1 => anyW ls k || decide (ls.getD k 0 ≠ 0)
theorem row_at {W : World} {g : Nat} {ls : List Nat} {ty : TypeId} (h : W.heap[g]? = some (.cells (ls.map wordV).toArray ty (0, 0))) {i : Nat} (hi : i < ls.length) : W.cell? ⟨g, i, none⟩ = some (.int .u64 ((ls.getD i 0 : Nat) : Int)) := by
 unfold World.cell?
 rw [h]
 simp [List.getD_eq_getElem?_getD, hi, wordV]
def rdHi (ls : List Nat) (i s : Nat) : Nat := thW ls i 0 * 2 ^ s % 18446744073709551616 + thW ls i 1 / 2 / 2 ^ (63 - s)
def rdLo (ls : List Nat) (i s : Nat) : Nat := thW ls i 1 * 2 ^ s % 18446744073709551616 + thW ls i 2 / 2 / 2 ^ (63 - s)
def rdRest (ls : List Nat) (i s : Nat) : Bool := decide (thW ls i 2 * 2 ^ s % 18446744073709551616 ≠ 0) || anyW ls (i - 2)
theorem turnC_lt : ∀ (xs : List Nat) (c : Nat), ∀ y ∈ turnC xs c, y < 18446744073709551616
 | [], _ => by intro y hy; cases hy
 | x :: xs, c => by
  intro y hy
  simp only [turnC, List.mem_cons] at hy
  rcases hy with rfl | hy
  ·
   exact Nat.mod_lt _ (by decide)
  ·
   exact turnC_lt xs _ y hy
theorem magW_lt {m : Nat} {ws : List Nat} (hw : ∀ x ∈ ws, x < 18446744073709551616) : ∀ y ∈ magW m ws, y < 18446744073709551616 := by
 intro y hy
 unfold magW at hy
 split at hy
 ·
  rcases List.mem_append.mp hy with h | h
  ·
   exact turnC_lt _ _ y h
  ·
   exact hw y (List.mem_of_mem_drop h)
 ·
  exact hw y hy
theorem thW_lt {ls : List Nat} (hw : ∀ x ∈ ls, x < 18446744073709551616) (i j : Nat) : thW ls i j < 18446744073709551616 := by
 unfold thW
 split
 ·
  rw [List.getD_eq_getElem?_getD]
  by_cases h : i - j < ls.length
  ·
   rw [List.getElem?_eq_getElem h]; exact hw _ (List.getElem_mem _)
  ·
   rw [List.getElem?_eq_none (by omega)]; decide
 ·
  decide
set_option maxHeartbeats 4000000 in
set_option maxRecDepth 100000 in
theorem round_nar (b m : Nat) (t : Int) (ws : List Nat) (w : World) (h : AccB w b m true t ws) (h0 : 2 ≤ m) (h1 : m ≤ 16) :
  Calls Try.prog 15 #[.pointer (some ⟨b, 0, none⟩)] w fun e w' => e = .returned (.int .u64 ((2 ^ (4 * m - 1) : Nat) : Int)) ∧ w' = w := by
 have c0 := h.c0
 have c1 := h.c1
 go_enter Try.func15, Try.ntmps15
 go_wp2
 go_ret
 refine ⟨?_, rfl⟩
 show Ending.returned (Value.int .u64 (IntKind.u64.wrap ((2 : Int) ^ (4 * m - 1)))) = _
 have hp : 2 ^ (4 * m - 1) ≤ 2 ^ 63 := Nat.pow_le_pow_right (by decide) (by omega)
 have h63 : (2 : Nat) ^ 63 = 9223372036854775808 := by decide
 rw [show (2 : Int) ^ (4 * m - 1) = ((2 ^ (4 * m - 1) : Nat) : Int) by rw [Int.natCast_pow]; rfl, wrap_nat, Nat.mod_eq_of_lt (by omega)]
theorem wrap_small (x : Int) (h : -9223372036854775808 ≤ x) (k : x < 9223372036854775808) : IntKind.i64.wrap x = x := by
 simp [IntKind.wrap, IntKind.bits, IntKind.signed]; omega
theorem wrap_ex {i s m : Nat} (hi : i < 16) (hs : s < 64) (hm : m ≤ 16) : IntKind.i64.wrap (IntKind.i64.wrap (IntKind.i64.wrap (IntKind.i64.wrap (64 * IntKind.i64.wrap ((i : Int) - 1)) - (s : Int)) + 16) - IntKind.i64.wrap (8 * (4 * (m : Int)))) = 64 * ((i : Int) - 1) - (s : Int) + 16 - 8 * (4 * (m : Int)) := by
 rw [wrap_small ((i : Int) - 1) (by omega) (by omega), wrap_small (64 * ((i : Int) - 1)) (by omega) (by omega), wrap_small (64 * ((i : Int) - 1) - (s : Int)) (by omega) (by omega), wrap_small (64 * ((i : Int) - 1) - (s : Int) + 16) (by omega) (by omega), wrap_small (8 * (4 * (m : Int))) (by omega) (by omega), wrap_small _ (by omega) (by omega)]
abbrev HeldR (b m : Nat) (t : Int) (ws : List Nat) (w W : World) : Prop := W.cell? ⟨b, 0, none⟩ = some (.int .i64 (4 * (m : Int))) ∧ Aside0 (AccB W b m false t ws ∧ Below w.heap.size w W)
theorem HeldR.of {b m : Nat} {t : Int} {ws : List Nat} {w W : World} (h : AccB W b m false t ws) (k : Below w.heap.size w W) : HeldR b m t ws w W := ⟨h.c0, ⟨h, k⟩⟩
theorem HeldR.acc {b m : Nat} {t : Int} {ws : List Nat} {w W : World} (h : HeldR b m t ws w W) : AccB W b m false t ws := h.2.out.1
theorem HeldR.drewN {b m : Nat} {t : Int} {ws : List Nat} {w W : World} (h : HeldR b m t ws w W) (k : Nat) : HeldR b m t ws w (W.drewN k) := .of h.2.out.1 (pw_below_drewN h.2.out.2 k)
theorem HeldR.below {b m : Nat} {t : Int} {ws : List Nat} {w W V : World} (h : HeldR b m t ws w W) (u : Below W.heap.size W V) : HeldR b m t ws w V := .of (h.2.out.1.same (u.block b h.2.out.1.lt)) (h.2.out.2.trans (u.mono (below_size h.2.out.2)))
theorem HeldR.alloc {b m : Nat} {t : Int} {ws : List Nat} {w W : World} (h : HeldR b m t ws w W) (o : Obj) : HeldR b m t ws w (W.alloc o) := h.below (below_alloc (Below.refl _ _) o)
theorem HeldR.t1 {b m : Nat} {t : Int} {ws : List Nat} {w W V : World} {k : Nat} {o : Obj} (h : AccB W b m false t ws) (e : Below w.heap.size w W) (u : Below (W.drewN k).heap.size (W.drewN k) V) : HeldR b m t ws w (V.alloc o) := ((HeldR.of h e).drewN k |>.below u).alloc o
theorem HeldR.new {U V : World} {o : Obj} (u : Below (U.alloc o).heap.size (U.alloc o) V) : V.heap[U.heap.size]? = some o := (u.block _ (by show U.heap.size < (U.heap.push o).size; simp)).trans (alloc_new U o)
theorem HeldR.new2 {U V : World} {o : Obj} {k : Nat} (u : Below ((U.alloc o).drewN k).heap.size ((U.alloc o).drewN k) V) : V.heap[U.heap.size]? = some o := (u.block _ (by show U.heap.size < (U.heap.push o).size; simp)).trans (alloc_new U o)
theorem HeldR.set {b m : Nat} {t : Int} {ws : List Nat} {w W : World} {g o : Nat} {v : Value} (h : HeldR b m t ws w W) (hg : w.heap.size ≤ g) (hb : b < w.heap.size) : HeldR b m t ws w (W.setCell ⟨g, o, none⟩ v) := by
 have hk := below_set (g := g) (j := o) (v := v) h.2.out.2 hg
 exact .of ((h.2.out.1).same (Below.heap_setCell _ _ _ _ (by show b ≠ g; omega))) hk
theorem HeldR.drew {b m : Nat} {t : Int} {ws : List Nat} {w W : World} (h : HeldR b m t ws w W) : HeldR b m t ws w W.drew := .of h.2.out.1 h.2.out.2.drew
theorem six_set {W : World} {g : Nat} {ty : TypeId} {v0 v1 v2 v3 v4 v5 u0 u1 u2 u3 u4 u5 : Value} (h : W.heap[g]? = some (.cells #[v0, v1, v2, v3, v4, v5] ty (0, 0))) :
  ((((((W.setCell ⟨g, 0, none⟩ u0).setCell ⟨g, 1, none⟩ u1).setCell ⟨g, 2, none⟩ u2).setCell ⟨g, 3, none⟩ u3).setCell ⟨g, 4, none⟩ u4).setCell ⟨g, 5, none⟩ u5).heap[g]? = some (.cells #[u0, u1, u2, u3, u4, u5] ty (0, 0)) := by
 have h0 := (Upd.cell (i := 0) (v := u0) h).here
 have h1 := (Upd.cell (i := 1) (v := u1) h0).here
 have h2 := (Upd.cell (i := 2) (v := u2) h1).here
 have h3 := (Upd.cell (i := 3) (v := u3) h2).here
 have h4 := (Upd.cell (i := 4) (v := u4) h3).here
 exact (Upd.cell (i := 5) (v := u5) h4).here
abbrev HeldE (b m : Nat) (t : Int) (ws : List Nat) (gE : Nat) (r1 r3 r4 r5 : Int) (r2 r6 : Bool) (w W : World) : Prop := W.cell? ⟨b, 0, none⟩ = some (.int .i64 (4 * (m : Int))) ∧ W.cell? ⟨gE, 0, none⟩ = some (.int .i64 r1) ∧ W.cell? ⟨gE, 1, none⟩ = some (.bool r2) ∧ W.cell? ⟨gE, 2, none⟩ = some (.int .i64 r3) ∧ W.cell? ⟨gE, 3, none⟩ = some (.int .u64 r4) ∧ W.cell? ⟨gE, 4, none⟩ = some (.int .u64 r5) ∧ W.cell? ⟨gE, 5, none⟩ = some (.bool r6) ∧ Aside0 (AccB W b m false t ws ∧ Below w.heap.size w W ∧ W.heap[gE]? = some (.cells #[.int .i64 r1, .bool r2, .int .i64 r3, .int .u64 r4, .int .u64 r5, .bool r6] 76 (0, 0)))
theorem HeldE.of {b m : Nat} {t : Int} {ws : List Nat} {gE : Nat} {r1 r3 r4 r5 : Int} {r2 r6 : Bool} {w W : World} (h : AccB W b m false t ws) (k : Below w.heap.size w W) (e : W.heap[gE]? = some (.cells #[.int .i64 r1, .bool r2, .int .i64 r3, .int .u64 r4, .int .u64 r5, .bool r6] 76 (0, 0))) : HeldE b m t ws gE r1 r3 r4 r5 r2 r6 w W := by
 obtain ⟨z0, z1, z2, z3, z4, z5, _⟩ := cl6 e
 exact ⟨h.c0, z0, z1, z2, z3, z4, z5, ⟨⟨h, k, e⟩⟩⟩
theorem HeldE.drew {b m : Nat} {t : Int} {ws : List Nat} {gE : Nat} {r1 r3 r4 r5 : Int} {r2 r6 : Bool} {w W : World} (h : HeldE b m t ws gE r1 r3 r4 r5 r2 r6 w W) : HeldE b m t ws gE r1 r3 r4 r5 r2 r6 w W.drew := .of h.2.2.2.2.2.2.2.out.1 h.2.2.2.2.2.2.2.out.2.1.drew h.2.2.2.2.2.2.2.out.2.2
theorem HeldE.below {b m : Nat} {t : Int} {ws : List Nat} {gE : Nat} {r1 r3 r4 r5 : Int} {r2 r6 : Bool} {w W V : World} (h : HeldE b m t ws gE r1 r3 r4 r5 r2 r6 w W) (u : Below W.heap.size W V) : HeldE b m t ws gE r1 r3 r4 r5 r2 r6 w V :=
 .of (h.2.2.2.2.2.2.2.out.1.same (u.block b h.2.2.2.2.2.2.2.out.1.lt)) (h.2.2.2.2.2.2.2.out.2.1.trans (u.mono (below_size h.2.2.2.2.2.2.2.out.2.1))) ((u.block gE (Array.getElem?_eq_some_iff.1 h.2.2.2.2.2.2.2.out.2.2).1).trans h.2.2.2.2.2.2.2.out.2.2)
set_option maxHeartbeats 4000000 in
set_option maxRecDepth 100000 in
theorem round_calls (b m : Nat) (t : Int) (ws : List Nat) (kf z s : Nat) (hz : bits_LeadingZeros64.f kf ((thW (magW m ws) (topI (magW m ws) (m - 1)) 0 : Nat) : Int) = some (z : Int)) (hs : s = z % 64) (ex r1 r3 r4 r5 res : Int) (r2 r6 : Bool) (hex : 64 * ((topI (magW m ws) (m - 1) : Int) - 1) - (s : Int) + 16 - 8 * (4 * (m : Int)) = ex) (hmk : round_Make.f kf (decide (9223372036854775808 ≤ ws.getD (m - 1) 0)) ((rdHi (magW m ws) (topI (magW m ws) (m - 1)) s : Nat) : Int) ((rdLo (magW m ws) (topI (magW m ws) (m - 1)) s : Nat) : Int) ex (rdRest (magW m ws) (topI (magW m ws) (m - 1)) s) = some (r1, r2, r3, r4, r5, r6, none)) (hrd : round_Round.f kf (4 * (m : Int)) r1 r2 r3 r4 r5 r6 = some (res, none)) (w : World) (h : AccB w b m false t ws) (h0 : 2 ≤ m) (h1 : m ≤ 16) (hl : ws.length = 16) (hw : ∀ x ∈ ws, x < 18446744073709551616) :
  Calls Try.prog 15 #[.pointer (some ⟨b, 0, none⟩)] w fun e w' => e = .returned (.int .u64 res) ∧ Below w.heap.size w w' := by
 have hu78 := Try.underlying76
 have hu25 := Try.underlying25
 have HLW := Aside0.mk (magW_lt (m := m) hw)
 have hwm : ws.getD (m - 1) 0 < 18446744073709551616 := by
  rw [List.getD_eq_getElem?_getD, List.getElem?_eq_getElem (by omega)]
  exact hw _ (List.getElem_mem _)
 obtain ⟨ng, hng⟩ : ∃ ng, ng = decide (9223372036854775808 ≤ ws.getD (m - 1) 0) := ⟨_, rfl⟩
 have hN : Aside0 (∀ W, AccB W b m false t ws → Calls Try.prog 35 #[.pointer (some ⟨b, 0, none⟩)] W fun e w' => e = .returned (.bool ng) ∧ ∃ k, w' = W.drewN k) := ⟨fun W hW => by rw [hng]; exact negative_calls b m false t ws W hW (by omega) h1 hl hwm⟩
 rw [← hng] at hmk
 clear hng hwm
 have A12 := Aside0.mk hmk
 have A13 := Aside0.mk hrd
 have HEX := Aside0.mk hex
 clear hmk hrd hex
 obtain ⟨ls, hls⟩ : ∃ ls, ls = magW m ws := ⟨_, rfl⟩
 have hlen : ls.length = 16 := by
  rw [hls]; unfold magW; split
  ·
   rw [List.length_append, turnC_length, ← List.length_append, List.take_append_drop, hl]
  ·
   exact hl
 have HB := Aside0.mk (Below.refl w.heap.size w)
 have HH := Aside0.mk h
 have hb := Aside0.mk h.lt
 have c0 := h.c0
 have c1 := h.c1
 have hM := Aside0.mk (magnitude_calls b m false t ws w h (by omega) h1 hl hw)
 rw [← hls] at hM hz A12 HEX HLW
 have A9 := Aside0.mk hz
 have es : (z : Int) % 64 = (s : Int) := by omega
 have hs64 : s < 64 := by omega
 clear hz hs
 have HLS := Aside0.mk hls
 clear h hls HB
 go_enter Try.func15, Try.ntmps15
 go_upto_region 5 with (first
  | (go_at_call 31; (with_reducible refine hM.out.mono ?_); rintro e w2 ⟨rfl, hb2⟩; have HB2 := Aside0.mk hb2; clear hb2)
  | (go_at_call 32; (with_reducible refine (size_calls b m false t ws _ HA3.out h1).mono ?_); rintro e W3 ⟨rfl, rfl⟩)
  | (refine wpList_store_upd rfl 60 (.tmp 3) (.tmp 26) rfl w2.heap.size (ls.map wordV).toArray rfl rfl 60 _ (alloc_new w2 _) (by rw [show (ls.map wordV).toArray.size = 16 by simp [hlen]]; kernel_rfl) (by simp [hlen]) (words_one ls) ?_; intro W3 hU; have hB3 := hU.below (below_alloc HB2.out _) (below_size HB2.out); have HG3 := Aside0.mk hU.here; have HA3 := Aside0.mk (HH.out.same (hB3.block b hb.out)); have HB3 := Aside0.mk hB3; clear hU hB3))
 generalize hg : w2.heap.size = g at *
 have HGB := Aside0.mk (below_size HB2.out)
 rw [hg] at HGB
 clear hg
 go_loopg [4] m (fun kq v4 W => ∃ i : Nat, v4 = .int .i64 (i : Int) ∧ Aside0 (kq = i + 1 ∧ i < m ∧ topI ls (m - 1) = topI ls i) ∧ W = W3)
 case atStart => exact ⟨m - 1, by first | rfl | (congr 1; omega), ⟨by omega, by omega, rfl⟩, rfl⟩
 case round =>
  obtain ⟨i, rfl, HI, rfl⟩ := hrel
  have hi16 : i < 16 := by have := HI.out.2.1; omega
  have hci : wr.cell? ⟨g, i, none⟩ = some (.int .u64 ((ls.getD i 0 : Nat) : Int)) := row_at HG3.out (by omega)
  obtain ⟨x, hx⟩ : ∃ x, x = ls.getD i 0 := ⟨_, rfl⟩
  rw [← hx] at hci
  have HX := Aside0.mk hx
  clear hx
  by_cases hi0 : 0 < i
  ·
   have cp : decide (0 < i) = true := decide_eq_true hi0
   by_cases hx0 : x = 0
   ·
    have cx : ((x : Int) == 0) = true := by simp [hx0]
    have HX0 := Aside0.mk hx0
    have HI0 := Aside0.mk hi0
    go_wp2
    go_roundg (gk - 1)
    case measure => have := HI.out.1; omega
    case rel =>
     obtain ⟨i', rfl⟩ : ∃ i', i = i' + 1 := ⟨i - 1, by have := HI0.out; omega⟩
     exact ⟨i', by first | rfl | (congr 1; omega) | (simp; done), ⟨by have := HI.out.1; omega, by have := HI.out.2.1; omega, by rw [HI.out.2.2]; show (if ls.getD (i' + 1) 0 = 0 then topI ls i' else i' + 1) = _; rw [if_pos (by rw [← HX.out]; exact HX0.out)]⟩, rfl⟩
   ·
    have cx : ((x : Int) == 0) = false := by simpa using hx0
    have HTI : Aside0 (i = topI ls (m - 1)) := ⟨by
     rw [HI.out.2.2]
     obtain ⟨i', rfl⟩ : ∃ i', i = i' + 1 := ⟨i - 1, by omega⟩
     show i' + 1 = (if ls.getD (i' + 1) 0 = 0 then topI ls i' else i' + 1)
     rw [if_neg (by rw [← HX.out]; exact hx0)]⟩
    obtain ⟨W4, hW4⟩ : ∃ W4, W4 = wr.alloc (.cells #[.int .u64 0, .int .u64 0, .int .u64 0] 72 (0, 0)) := ⟨_, rfl⟩
    obtain ⟨g5, hg5⟩ : ∃ g5, g5 = wr.heap.size := ⟨_, rfl⟩
    have HA4 : Aside0 (AccB W4 b m false t ws) := ⟨by rw [hW4]; exact HA3.out.same (alloc_old wr _ b HA3.out.lt)⟩
    have HB4 : Aside0 (Below w.heap.size w W4) := ⟨by rw [hW4]; exact below_alloc HB3.out _⟩
    have HG4 : Aside0 (W4.heap[g]? = some (.cells (ls.map wordV).toArray 60 (0, 0))) := ⟨by rw [hW4, alloc_old wr _ g (Array.getElem?_eq_some_iff.1 HG3.out).1]; exact HG3.out⟩
    have HH5 : Aside0 (W4.heap[g5]? = some (.cells #[.int .u64 0, .int .u64 0, .int .u64 0] 72 (0, 0))) := ⟨by rw [hW4, hg5]; exact alloc_new wr _⟩
    have hgg5 : Aside0 (g ≠ g5 ∧ b ≠ g5 ∧ w.heap.size ≤ g5) := ⟨by have h1_ := (Array.getElem?_eq_some_iff.1 HG3.out).1; have h2_ := HA3.out.lt; have h3_ := below_size HB3.out; omega⟩
    go_upto_region 9 with (fail)
    rw [← hW4, ← hg5]
    clear hW4 hg5
    have HI16 := Aside0.mk hi16
    clear hci
    go_loopg [6, 40] 3 (fun kq v6 v40 W => ∃ k : Nat, v40 = .int .i64 (k : Int) ∧ Aside0 (kq + k = 3 ∧ AccB W b m false t ws ∧ Below w.heap.size w W ∧ W.heap[g]? = some (.cells (ls.map wordV).toArray 60 (0, 0)) ∧ W.heap[g5]? = some (.cells (thC ls i k) 72 (0, 0))))
    case atStart => exact ⟨0, rfl, ⟨rfl, HA4.out, HB4.out, HG4.out, HH5.out⟩⟩
    case round =>
     obtain ⟨k, rfl, HR⟩ := hrel
     rcases (show k = 0 ∨ k = 1 ∨ k = 2 ∨ k = 3 by have := HR.out.1; omega) with hk_ | hk_ | hk_ | hk_
     ·
      -- word 0
      subst hk_
      have HR5k : Aside0 (wr.heap[g5]? = some (.cells #[wordV 0, wordV 0, wordV 0] 72 (0, 0))) := ⟨(HR.out.2.2.2.2).trans rfl⟩
      have hf5 : wr.frozen? ⟨g5, 0, none⟩ = false := frozen_of_row _ g5 _ _ 72 HR5k.out
      have hcc : wr.cell? ⟨g5, 0, none⟩ = some (wordV 0) := by unfold World.cell?; rw [HR5k.out]; rfl
      by_cases hge : 0 ≤ i
      ·
       have cge : decide (0 ≤ i) = true := decide_eq_true hge
       have hcl : wr.cell? ⟨g, i, none⟩ = some (.int .u64 ((ls.getD (i - 0) 0 : Nat) : Int)) := row_at HR.out.2.2.2.1 (by have := HI16.out; omega)
       obtain ⟨y, hy⟩ : ∃ y, y = ls.getD (i - 0) 0 := ⟨_, rfl⟩
       rw [← hy] at hcl
       have HY : Aside0 (y = thW ls i 0) := ⟨by unfold thW; rw [if_pos hge]; exact hy⟩
       clear hy
       go_wp2
       all_goals (
        go_roundg 2
        case measure => have := HR.out.1; omega
        case rel =>
         have hU := Upd.cell (i := 0) (v := .int .u64 (y : Int)) HR5k.out
         refine ⟨1, rfl, ⟨rfl, (HR.out.2.1).same (hU.other b hgg5.out.2.1), hU.below HR.out.2.2.1 hgg5.out.2.2, (hU.other g hgg5.out.1).trans HR.out.2.2.2.1, ?_⟩⟩
         rw [hU.here, HY.out]; rfl)
      ·
       have cge : decide (0 ≤ i) = false := decide_eq_false hge
       have HY : Aside0 (0 = thW ls i 0) := ⟨by unfold thW; rw [if_neg hge]⟩
       go_wp2
       all_goals (
        go_roundg 2
        case measure => have := HR.out.1; omega
        case rel =>
         refine ⟨1, rfl, ⟨rfl, HR.out.2.1, HR.out.2.2.1, HR.out.2.2.2.1, ?_⟩⟩
         rw [HR5k.out]; show _ = some (Obj.cells (thC ls i 1) 72 (0, 0)); unfold thC; simp [← HY.out])
     ·
      -- word 1
      subst hk_
      have HR5k : Aside0 (wr.heap[g5]? = some (.cells #[wordV (thW ls i 0), wordV 0, wordV 0] 72 (0, 0))) := ⟨(HR.out.2.2.2.2).trans rfl⟩
      have hf5 : wr.frozen? ⟨g5, 1, none⟩ = false := frozen_of_row _ g5 _ _ 72 HR5k.out
      have hcc : wr.cell? ⟨g5, 1, none⟩ = some (wordV 0) := by unfold World.cell?; rw [HR5k.out]; rfl
      by_cases hge : 1 ≤ i
      ·
       have cge : decide (1 ≤ i) = true := decide_eq_true hge
       have hcl : wr.cell? ⟨g, i - 1, none⟩ = some (.int .u64 ((ls.getD (i - 1) 0 : Nat) : Int)) := row_at HR.out.2.2.2.1 (by have := HI16.out; omega)
       obtain ⟨y, hy⟩ : ∃ y, y = ls.getD (i - 1) 0 := ⟨_, rfl⟩
       rw [← hy] at hcl
       have HY : Aside0 (y = thW ls i 1) := ⟨by unfold thW; rw [if_pos hge]; exact hy⟩
       clear hy
       go_wp2
       all_goals (
        go_roundg 1
        case measure => have := HR.out.1; omega
        case rel =>
         have hU := Upd.cell (i := 1) (v := .int .u64 (y : Int)) HR5k.out
         refine ⟨2, rfl, ⟨rfl, (HR.out.2.1).same (hU.other b hgg5.out.2.1), hU.below HR.out.2.2.1 hgg5.out.2.2, (hU.other g hgg5.out.1).trans HR.out.2.2.2.1, ?_⟩⟩
         rw [hU.here, HY.out]; rfl)
      ·
       have cge : decide (1 ≤ i) = false := decide_eq_false hge
       have HY : Aside0 (0 = thW ls i 1) := ⟨by unfold thW; rw [if_neg hge]⟩
       go_wp2
       all_goals (
        go_roundg 1
        case measure => have := HR.out.1; omega
        case rel =>
         refine ⟨2, rfl, ⟨rfl, HR.out.2.1, HR.out.2.2.1, HR.out.2.2.2.1, ?_⟩⟩
         rw [HR5k.out]; show _ = some (Obj.cells (thC ls i 2) 72 (0, 0)); unfold thC; simp [← HY.out])
     ·
      -- word 2
      subst hk_
      have HR5k : Aside0 (wr.heap[g5]? = some (.cells #[wordV (thW ls i 0), wordV (thW ls i 1), wordV 0] 72 (0, 0))) := ⟨(HR.out.2.2.2.2).trans rfl⟩
      have hf5 : wr.frozen? ⟨g5, 2, none⟩ = false := frozen_of_row _ g5 _ _ 72 HR5k.out
      have hcc : wr.cell? ⟨g5, 2, none⟩ = some (wordV 0) := by unfold World.cell?; rw [HR5k.out]; rfl
      by_cases hge : 2 ≤ i
      ·
       have cge : decide (2 ≤ i) = true := decide_eq_true hge
       have hcl : wr.cell? ⟨g, i - 2, none⟩ = some (.int .u64 ((ls.getD (i - 2) 0 : Nat) : Int)) := row_at HR.out.2.2.2.1 (by have := HI16.out; omega)
       obtain ⟨y, hy⟩ : ∃ y, y = ls.getD (i - 2) 0 := ⟨_, rfl⟩
       rw [← hy] at hcl
       have HY : Aside0 (y = thW ls i 2) := ⟨by unfold thW; rw [if_pos hge]; exact hy⟩
       clear hy
       go_wp2
       all_goals (
        go_roundg 0
        case measure => have := HR.out.1; omega
        case rel =>
         have hU := Upd.cell (i := 2) (v := .int .u64 (y : Int)) HR5k.out
         refine ⟨3, rfl, ⟨rfl, (HR.out.2.1).same (hU.other b hgg5.out.2.1), hU.below HR.out.2.2.1 hgg5.out.2.2, (hU.other g hgg5.out.1).trans HR.out.2.2.2.1, ?_⟩⟩
         rw [hU.here, HY.out]; rfl)
      ·
       have cge : decide (2 ≤ i) = false := decide_eq_false hge
       have HY : Aside0 (0 = thW ls i 2) := ⟨by unfold thW; rw [if_neg hge]⟩
       go_wp2
       all_goals (
        go_roundg 0
        case measure => have := HR.out.1; omega
        case rel =>
         refine ⟨3, rfl, ⟨rfl, HR.out.2.1, HR.out.2.2.1, HR.out.2.2.2.1, ?_⟩⟩
         rw [HR5k.out]; show _ = some (Obj.cells (thC ls i 3) 72 (0, 0)); unfold thC; simp [← HY.out])
     ·
      subst hk_
      have HR5k : Aside0 (wr.heap[g5]? = some (.cells #[wordV (thW ls i 0), wordV (thW ls i 1), wordV (thW ls i 2)] 72 (0, 0))) := ⟨HR.out.2.2.2.2⟩
      have HA6 := Aside0.mk HR.out.2.1
      have HB6 := Aside0.mk HR.out.2.2.1
      have HG6 := Aside0.mk HR.out.2.2.2.1
      clear HR HA3 HB3 HG3 HA4 HB4 HG4 HH5
      go_upto_region 14 with (fail)
      obtain ⟨q0, q1, q2, hq⟩ : ∃ q0 q1 q2 : Nat, q0 = thW ls i 0 ∧ q1 = thW ls i 1 ∧ q2 = thW ls i 2 := ⟨_, _, _, rfl, rfl, rfl⟩
      have hA9 := A9.out
      rw [← HTI.out, ← hq.1] at hA9
      have A10 := Aside0.mk hA9
      have HR5 := HR5k.out
      rw [← hq.1, ← hq.2.1, ← hq.2.2] at HR5
      have HQ := Aside0.mk hq
      have d0 : wr.cell? ⟨g5, 0, none⟩ = some (.int .u64 (q0 : Int)) := by unfold World.cell?; rw [HR5]; rfl
      have d1 : wr.cell? ⟨g5, 1, none⟩ = some (.int .u64 (q1 : Int)) := by unfold World.cell?; rw [HR5]; rfl
      have d2 : wr.cell? ⟨g5, 2, none⟩ = some (.int .u64 (q2 : Int)) := by unfold World.cell?; rw [HR5]; rfl
      obtain ⟨hiV, hhiV⟩ : ∃ hiV, hiV = q0 * 2 ^ s % 18446744073709551616 + q1 / 2 / 2 ^ (63 - s) := ⟨_, rfl⟩
      obtain ⟨loV, hloV⟩ : ∃ loV, loV = q1 * 2 ^ s % 18446744073709551616 + q2 / 2 / 2 ^ (63 - s) := ⟨_, rfl⟩
      have eO1 : Go.bits .or .u64 (IntKind.u64.wrap ((q0 : Int) * 2 ^ s)) ((q1 : Int) / 2 / 2 ^ (63 - s)) = (hiV : Int) := by rw [hhiV]; exact or_three (by rw [hq.1]; exact thW_lt HLW.out _ _) (by rw [hq.2.1]; exact thW_lt HLW.out _ _) hs64
      have eO2 : Go.bits .or .u64 (IntKind.u64.wrap ((q1 : Int) * 2 ^ s)) ((q2 : Int) / 2 / 2 ^ (63 - s)) = (loV : Int) := by rw [hloV]; exact or_three (by rw [hq.2.1]; exact thW_lt HLW.out _ _) (by rw [hq.2.2]; exact thW_lt HLW.out _ _) hs64
      have HHI : Aside0 (rdHi ls i s = hiV ∧ rdLo ls i s = loV) := ⟨by unfold rdHi rdLo; rw [← hq.1, ← hq.2.1, ← hq.2.2, hhiV, hloV]; exact ⟨rfl, rfl⟩⟩
      clear hq hA9 HR5 HR5k hhiV hloV
      go_upto_region 15 with (first
       | ((with_reducible refine gC (f := 33) rfl ?_); (with_reducible refine gD (N := 56) rfl ?_); refine goesY_ (some 56) Try.func33 #[.int .u64 (q0 : Int)] ?_; (with_reducible refine (bits_LeadingZeros64.calls kf _ _ _ A10.out).mono ?_); rintro e w' ⟨rfl, ⟨nd, rfl⟩⟩; refine ⟨_, rfl, ?_⟩))
      go_quiet (fail)
      go_wp2
      go_quiet (fail)
      go_wp2
      generalize hW6 : World.drewN _ _ = W6
      have e6 : W6.heap = wr.heap := by rw [← hW6]; rfl
      have HA7 : Aside0 (AccB W6 b m false t ws) := ⟨HA6.out.same (by rw [e6])⟩
      have HB7 : Aside0 (Below w.heap.size w W6) := ⟨by rw [← hW6]; (repeat apply pw_below_drewN); exact HB6.out⟩
      have HG7 : Aside0 (W6.heap[g]? = some (.cells (ls.map wordV).toArray 60 (0, 0))) := ⟨by rw [e6]; exact HG6.out⟩
      clear hW6 e6
      go_loopg [10, 11] (i - 2) (fun kq v10 v11 W => ∃ (r : Bool) (k : Nat), v10 = .bool r ∧ v11 = .int .i64 (k : Int) ∧ Aside0 (k ≤ i - 2 ∧ kq = i - 2 - k ∧ r = (decide (q2 * 2 ^ s % 18446744073709551616 ≠ 0) || anyW ls k)) ∧ W = W6)
      case atStart =>
       exact ⟨_, 0, rfl, rfl, ⟨Nat.zero_le _, by omega, by rw [show anyW ls 0 = false from rfl, Bool.or_false, Bool.eq_iff_iff, bne_iff_ne, decide_eq_true_iff, show (q2 : Int) * 2 ^ s = ((q2 * 2 ^ s : Nat) : Int) by rw [Int.natCast_mul, Int.natCast_pow]; rfl, wrap_nat]; omega⟩, rfl⟩
      case round =>
       obtain ⟨r, k, rfl, rfl, HR, hWr⟩ := hrel
       have hWr2 := hWr.symm
       subst hWr2
       clear hWr
       by_cases hk : k < i - 2
       ·
        have ck : decide ((k : Int) < (i : Int) - 2) = true := decide_eq_true (by omega)
        have hck : W6.cell? ⟨g, k, none⟩ = some (.int .u64 ((ls.getD k 0 : Nat) : Int)) := row_at HG7.out (by have := HI16.out; omega)
        obtain ⟨y, hy⟩ : ∃ y, y = ls.getD k 0 := ⟨_, rfl⟩
        rw [← hy] at hck
        have HY := Aside0.mk hy
        clear hy
        have HK := Aside0.mk hk
        have hi16' := HI16.out
        cases r with
        | true =>
         go_wp2
         go_roundg (gk - 1)
         case measure => have := HR.out.2.1; have := HK.out; omega
         case rel => exact ⟨true, k + 1, rfl, by first | rfl | (simp; done), ⟨by have := HK.out; omega, by have := HR.out.2.1; omega, by rw [show anyW ls (k + 1) = (anyW ls k || decide (ls.getD k 0 ≠ 0)) from rfl, ← Bool.or_assoc, ← HR.out.2.2]; rfl⟩, rfl⟩
        | false =>
         go_wp2
         go_roundg (gk - 1)
         case measure => have := HR.out.2.1; have := HK.out; omega
         case rel => exact ⟨decide (y ≠ 0), k + 1, by first | rfl | (congr 1; rw [Bool.eq_iff_iff]; simp; done), by first | rfl | (simp; done), ⟨by have := HK.out; omega, by have := HR.out.2.1; omega, by rw [show anyW ls (k + 1) = (anyW ls k || decide (ls.getD k 0 ≠ 0)) from rfl, ← Bool.or_assoc, ← HR.out.2.2, HY.out]; rfl⟩, rfl⟩
       ·
        have ck : decide ((k : Int) < (i : Int) - 2) = false := decide_eq_false (by omega)
        have hki : k = i - 2 := by have := HR.out.1; omega
        have HRR : Aside0 (r = (decide (q2 * 2 ^ s % 18446744073709551616 ≠ 0) || anyW ls (i - 2))) := ⟨by rw [HR.out.2.2, hki]⟩
        clear hki
        go_upto_region 22 with (fail)
        have A12i := A12.out
        rw [← HTI.out, HHI.out.1, HHI.out.2] at A12i
        have HRD : Aside0 (rdRest ls i s = r) := ⟨by unfold rdRest; rw [HRR.out, HQ.out.2.2]⟩
        rw [HRD.out] at A12i
        have A14 := Aside0.mk A12i
        have hexi := HEX.out
        rw [← HTI.out] at hexi
        clear A12i ck hk
        have v0 := HA7.out.c0
        have HD0 : HeldR b m t ws w W6.drew := ⟨HA7.out.c0, ⟨⟨HA7.out, HB7.out.drew⟩⟩⟩
        rw [← hexi, ← wrap_ex HI16.out hs64 h1] at A14
        have HS6 : Aside0 (w.heap.size ≤ W6.heap.size) := ⟨HB7.out.size⟩
        clear HA6 HB6 HG6 hexi
        go_region_held3 (fun W => W.cell? ⟨b, 0, none⟩ = some (.int .i64 (4 * (m : Int))) ∧ Aside0 (AccB W b m false t ws ∧ Below w.heap.size w W)) ((first | with_reducible exact HD0 | with_reducible exact HeldR.drewN ‹_› _ | with_reducible exact HeldR.alloc ‹_› _ | with_reducible exact HeldR.drewN (HeldR.of HA7.out HB7.out) _ | (with_reducible refine HeldR.set (HeldR.set (HeldR.set (HeldR.set (HeldR.set (HeldR.set ?_ HS6.out hb.out) HS6.out hb.out) HS6.out hb.out) HS6.out hb.out) HS6.out hb.out) HS6.out hb.out; with_reducible assumption) | with_reducible exact HeldR.drew (HeldR.alloc (HeldR.of HA7.out HB7.out) _) | with_reducible exact HeldR.drewN (HeldR.alloc (HeldR.of HA7.out HB7.out) _) _ | with_reducible exact HeldR.below ‹_› ‹_› | (with_reducible apply HeldR.t1 HA7.out HB7.out; assumption))) (first
         | (go_at_call 35; refine (hN.out _ ?_).mono ?_; (exact HeldR.acc ‹_›); rintro e w' ⟨rfl, ⟨kn, rfl⟩⟩)
         | (go_at_call 34; refine (round_Make.calls kf ng (hiV : Int) (loV : Int) _ r r1 r2 r3 r4 r5 r6 none _ A14.out).mono ?_; rintro e w9 ⟨rfl, hb9⟩; (try ((with_reducible have n8 := HeldR.new2 hb9); have n9 : w9.heap[W6.heap.size]? = _ := n8; clear n8; have N9 := Aside0.mk n9; obtain ⟨z0, z1, z2, z3, z4, z5, f0, f1, f2, f3, f4, f5⟩ := cl6 n9; clear n9)); (try ((with_reducible have n8 := HeldR.new hb9); have n9 : w9.heap[W6.heap.size]? = _ := n8; clear n8; have N9 := Aside0.mk n9; obtain ⟨z0, z1, z2, z3, z4, z5, f0, f1, f2, f3, f4, f5⟩ := cl6 n9; clear n9)); (try simp only [errW_none])))
        ·
         (try simp only [Exit.inBlock, Exit.then])
         generalize hW10 : World.alloc _ _ = W10
         have HR10 : HeldR b m t ws w W10 := by rw [← hW10]; with_reducible assumption
         have HE10 : W10.heap[w9.heap.size]? = some (.cells #[.int .i64 r1, .bool r2, .int .i64 r3, .int .u64 r4, .int .u64 r5, .bool r6] 76 (0, 0)) := by rw [← hW10]; exact alloc_new w9 _
         generalize hgE : w9.heap.size = gE at *
         clear hb9
         clear hW10
         have HE0 := HeldE.of HR10.2.out.1 HR10.2.out.2 HE10
         clear HR10 HE10
         go_upto_region 25 with (fail)
         go_region_held3 (fun W => W.cell? ⟨b, 0, none⟩ = some (.int .i64 (4 * (m : Int))) ∧ W.cell? ⟨gE, 0, none⟩ = some (.int .i64 r1) ∧ W.cell? ⟨gE, 1, none⟩ = some (.bool r2) ∧ W.cell? ⟨gE, 2, none⟩ = some (.int .i64 r3) ∧ W.cell? ⟨gE, 3, none⟩ = some (.int .u64 r4) ∧ W.cell? ⟨gE, 4, none⟩ = some (.int .u64 r5) ∧ W.cell? ⟨gE, 5, none⟩ = some (.bool r6) ∧ Aside0 (AccB W b m false t ws ∧ Below w.heap.size w W ∧ W.heap[gE]? = some (.cells #[.int .i64 r1, .bool r2, .int .i64 r3, .int .u64 r4, .int .u64 r5, .bool r6] 76 (0, 0)))) ((first | with_reducible exact HE0 | with_reducible exact HeldE.drew HE0 | with_reducible exact HeldE.below ‹_› ‹_›)) (first
          | (go_at_call 36; refine (round_Round.calls kf (4 * (m : Int)) r1 r2 r3 r4 r5 r6 res none _ A13.out).mono ?_; rintro e w11 ⟨rfl, hb11⟩; (try simp only [errW_none])))
         (try simp only [Exit.inBlock, Exit.then])
         have HB11 : Aside0 (Below w.heap.size w w11) := ⟨(HeldE.below (HeldE.drew HE0) hb11).2.2.2.2.2.2.2.out.2.1⟩
         clear hb11 HE0 HD0
         go_wp2
         go_ret
         exact ⟨rfl, HB11.out⟩
        ·
         (try simp only [Exit.inBlock, Exit.then])
         generalize hW10 : World.setCell _ _ _ = W10
         have HR10 : HeldR b m t ws w W10 := by rw [← hW10]; with_reducible assumption
         have HE10 : W10.heap[W6.heap.size]? = some (.cells #[.int .i64 r1, .bool r2, .int .i64 r3, .int .u64 r4, .int .u64 r5, .bool r6] 76 (0, 0)) := by rw [← hW10]; exact six_set N9.out
         clear N9 z0 z1 z2 z3 z4 z5 f0 f1 f2 f3 f4 f5
         generalize hgE : W6.heap.size = gE at *
         clear hb9
         clear hW10
         have HE0 := HeldE.of HR10.2.out.1 HR10.2.out.2 HE10
         clear HR10 HE10
         go_upto_region 25 with (fail)
         go_region_held3 (fun W => W.cell? ⟨b, 0, none⟩ = some (.int .i64 (4 * (m : Int))) ∧ W.cell? ⟨gE, 0, none⟩ = some (.int .i64 r1) ∧ W.cell? ⟨gE, 1, none⟩ = some (.bool r2) ∧ W.cell? ⟨gE, 2, none⟩ = some (.int .i64 r3) ∧ W.cell? ⟨gE, 3, none⟩ = some (.int .u64 r4) ∧ W.cell? ⟨gE, 4, none⟩ = some (.int .u64 r5) ∧ W.cell? ⟨gE, 5, none⟩ = some (.bool r6) ∧ Aside0 (AccB W b m false t ws ∧ Below w.heap.size w W ∧ W.heap[gE]? = some (.cells #[.int .i64 r1, .bool r2, .int .i64 r3, .int .u64 r4, .int .u64 r5, .bool r6] 76 (0, 0)))) ((first | with_reducible exact HE0 | with_reducible exact HeldE.drew HE0 | with_reducible exact HeldE.below ‹_› ‹_›)) (first
          | (go_at_call 36; refine (round_Round.calls kf (4 * (m : Int)) r1 r2 r3 r4 r5 r6 res none _ A13.out).mono ?_; rintro e w11 ⟨rfl, hb11⟩; (try simp only [errW_none])))
         (try simp only [Exit.inBlock, Exit.then])
         have HB11 : Aside0 (Below w.heap.size w w11) := ⟨(HeldE.below (HeldE.drew HE0) hb11).2.2.2.2.2.2.2.out.2.1⟩
         clear hb11 HE0 HD0
         go_wp2
         go_ret
         exact ⟨rfl, HB11.out⟩
        ·
         (try simp only [Exit.inBlock, Exit.then])
         generalize hW10 : World.setCell _ _ _ = W10
         have HR10 : HeldR b m t ws w W10 := by rw [← hW10]; with_reducible assumption
         have HE10 : W10.heap[W6.heap.size]? = some (.cells #[.int .i64 r1, .bool r2, .int .i64 r3, .int .u64 r4, .int .u64 r5, .bool r6] 76 (0, 0)) := by rw [← hW10]; exact six_set N9.out
         clear N9 z0 z1 z2 z3 z4 z5 f0 f1 f2 f3 f4 f5
         generalize hgE : W6.heap.size = gE at *
         clear hb9
         clear hW10
         have HE0 := HeldE.of HR10.2.out.1 HR10.2.out.2 HE10
         clear HR10 HE10
         go_upto_region 25 with (fail)
         go_region_held3 (fun W => W.cell? ⟨b, 0, none⟩ = some (.int .i64 (4 * (m : Int))) ∧ W.cell? ⟨gE, 0, none⟩ = some (.int .i64 r1) ∧ W.cell? ⟨gE, 1, none⟩ = some (.bool r2) ∧ W.cell? ⟨gE, 2, none⟩ = some (.int .i64 r3) ∧ W.cell? ⟨gE, 3, none⟩ = some (.int .u64 r4) ∧ W.cell? ⟨gE, 4, none⟩ = some (.int .u64 r5) ∧ W.cell? ⟨gE, 5, none⟩ = some (.bool r6) ∧ Aside0 (AccB W b m false t ws ∧ Below w.heap.size w W ∧ W.heap[gE]? = some (.cells #[.int .i64 r1, .bool r2, .int .i64 r3, .int .u64 r4, .int .u64 r5, .bool r6] 76 (0, 0)))) ((first | with_reducible exact HE0 | with_reducible exact HeldE.drew HE0 | with_reducible exact HeldE.below ‹_› ‹_›)) (first
          | (go_at_call 36; refine (round_Round.calls kf (4 * (m : Int)) r1 r2 r3 r4 r5 r6 res none _ A13.out).mono ?_; rintro e w11 ⟨rfl, hb11⟩; (try simp only [errW_none])))
         (try simp only [Exit.inBlock, Exit.then])
         have HB11 : Aside0 (Below w.heap.size w w11) := ⟨(HeldE.below (HeldE.drew HE0) hb11).2.2.2.2.2.2.2.out.2.1⟩
         clear hb11 HE0 HD0
         go_wp2
         go_ret
         exact ⟨rfl, HB11.out⟩
  ·
   have cp : decide (0 < i) = false := decide_eq_false hi0
   have HTI : Aside0 (i = topI ls (m - 1)) := ⟨by
    rw [HI.out.2.2]
    have : i = 0 := by omega
    rw [this]; rfl⟩
   obtain ⟨W4, hW4⟩ : ∃ W4, W4 = wr.alloc (.cells #[.int .u64 0, .int .u64 0, .int .u64 0] 72 (0, 0)) := ⟨_, rfl⟩
   obtain ⟨g5, hg5⟩ : ∃ g5, g5 = wr.heap.size := ⟨_, rfl⟩
   have HA4 : Aside0 (AccB W4 b m false t ws) := ⟨by rw [hW4]; exact HA3.out.same (alloc_old wr _ b HA3.out.lt)⟩
   have HB4 : Aside0 (Below w.heap.size w W4) := ⟨by rw [hW4]; exact below_alloc HB3.out _⟩
   have HG4 : Aside0 (W4.heap[g]? = some (.cells (ls.map wordV).toArray 60 (0, 0))) := ⟨by rw [hW4, alloc_old wr _ g (Array.getElem?_eq_some_iff.1 HG3.out).1]; exact HG3.out⟩
   have HH5 : Aside0 (W4.heap[g5]? = some (.cells #[.int .u64 0, .int .u64 0, .int .u64 0] 72 (0, 0))) := ⟨by rw [hW4, hg5]; exact alloc_new wr _⟩
   have hgg5 : Aside0 (g ≠ g5 ∧ b ≠ g5 ∧ w.heap.size ≤ g5) := ⟨by have h1_ := (Array.getElem?_eq_some_iff.1 HG3.out).1; have h2_ := HA3.out.lt; have h3_ := below_size HB3.out; omega⟩
   go_upto_region 9 with (fail)
   rw [← hW4, ← hg5]
   clear hW4 hg5
   have HI16 := Aside0.mk hi16
   clear hci
   go_loopg [6, 40] 3 (fun kq v6 v40 W => ∃ k : Nat, v40 = .int .i64 (k : Int) ∧ Aside0 (kq + k = 3 ∧ AccB W b m false t ws ∧ Below w.heap.size w W ∧ W.heap[g]? = some (.cells (ls.map wordV).toArray 60 (0, 0)) ∧ W.heap[g5]? = some (.cells (thC ls i k) 72 (0, 0))))
   case atStart => exact ⟨0, rfl, ⟨rfl, HA4.out, HB4.out, HG4.out, HH5.out⟩⟩
   case round =>
    obtain ⟨k, rfl, HR⟩ := hrel
    rcases (show k = 0 ∨ k = 1 ∨ k = 2 ∨ k = 3 by have := HR.out.1; omega) with hk_ | hk_ | hk_ | hk_
    ·
     -- word 0
     subst hk_
     have HR5k : Aside0 (wr.heap[g5]? = some (.cells #[wordV 0, wordV 0, wordV 0] 72 (0, 0))) := ⟨(HR.out.2.2.2.2).trans rfl⟩
     have hf5 : wr.frozen? ⟨g5, 0, none⟩ = false := frozen_of_row _ g5 _ _ 72 HR5k.out
     have hcc : wr.cell? ⟨g5, 0, none⟩ = some (wordV 0) := by unfold World.cell?; rw [HR5k.out]; rfl
     by_cases hge : 0 ≤ i
     ·
      have cge : decide (0 ≤ i) = true := decide_eq_true hge
      have hcl : wr.cell? ⟨g, i, none⟩ = some (.int .u64 ((ls.getD (i - 0) 0 : Nat) : Int)) := row_at HR.out.2.2.2.1 (by have := HI16.out; omega)
      obtain ⟨y, hy⟩ : ∃ y, y = ls.getD (i - 0) 0 := ⟨_, rfl⟩
      rw [← hy] at hcl
      have HY : Aside0 (y = thW ls i 0) := ⟨by unfold thW; rw [if_pos hge]; exact hy⟩
      clear hy
      go_wp2
      all_goals (
       go_roundg 2
       case measure => have := HR.out.1; omega
       case rel =>
        have hU := Upd.cell (i := 0) (v := .int .u64 (y : Int)) HR5k.out
        refine ⟨1, rfl, ⟨rfl, (HR.out.2.1).same (hU.other b hgg5.out.2.1), hU.below HR.out.2.2.1 hgg5.out.2.2, (hU.other g hgg5.out.1).trans HR.out.2.2.2.1, ?_⟩⟩
        rw [hU.here, HY.out]; rfl)
     ·
      have cge : decide (0 ≤ i) = false := decide_eq_false hge
      have HY : Aside0 (0 = thW ls i 0) := ⟨by unfold thW; rw [if_neg hge]⟩
      go_wp2
      all_goals (
       go_roundg 2
       case measure => have := HR.out.1; omega
       case rel =>
        refine ⟨1, rfl, ⟨rfl, HR.out.2.1, HR.out.2.2.1, HR.out.2.2.2.1, ?_⟩⟩
        rw [HR5k.out]; show _ = some (Obj.cells (thC ls i 1) 72 (0, 0)); unfold thC; simp [← HY.out])
    ·
     -- word 1
     subst hk_
     have HR5k : Aside0 (wr.heap[g5]? = some (.cells #[wordV (thW ls i 0), wordV 0, wordV 0] 72 (0, 0))) := ⟨(HR.out.2.2.2.2).trans rfl⟩
     have hf5 : wr.frozen? ⟨g5, 1, none⟩ = false := frozen_of_row _ g5 _ _ 72 HR5k.out
     have hcc : wr.cell? ⟨g5, 1, none⟩ = some (wordV 0) := by unfold World.cell?; rw [HR5k.out]; rfl
     by_cases hge : 1 ≤ i
     ·
      have cge : decide (1 ≤ i) = true := decide_eq_true hge
      have hcl : wr.cell? ⟨g, i - 1, none⟩ = some (.int .u64 ((ls.getD (i - 1) 0 : Nat) : Int)) := row_at HR.out.2.2.2.1 (by have := HI16.out; omega)
      obtain ⟨y, hy⟩ : ∃ y, y = ls.getD (i - 1) 0 := ⟨_, rfl⟩
      rw [← hy] at hcl
      have HY : Aside0 (y = thW ls i 1) := ⟨by unfold thW; rw [if_pos hge]; exact hy⟩
      clear hy
      go_wp2
      all_goals (
       go_roundg 1
       case measure => have := HR.out.1; omega
       case rel =>
        have hU := Upd.cell (i := 1) (v := .int .u64 (y : Int)) HR5k.out
        refine ⟨2, rfl, ⟨rfl, (HR.out.2.1).same (hU.other b hgg5.out.2.1), hU.below HR.out.2.2.1 hgg5.out.2.2, (hU.other g hgg5.out.1).trans HR.out.2.2.2.1, ?_⟩⟩
        rw [hU.here, HY.out]; rfl)
     ·
      have cge : decide (1 ≤ i) = false := decide_eq_false hge
      have HY : Aside0 (0 = thW ls i 1) := ⟨by unfold thW; rw [if_neg hge]⟩
      go_wp2
      all_goals (
       go_roundg 1
       case measure => have := HR.out.1; omega
       case rel =>
        refine ⟨2, rfl, ⟨rfl, HR.out.2.1, HR.out.2.2.1, HR.out.2.2.2.1, ?_⟩⟩
        rw [HR5k.out]; show _ = some (Obj.cells (thC ls i 2) 72 (0, 0)); unfold thC; simp [← HY.out])
    ·
     -- word 2
     subst hk_
     have HR5k : Aside0 (wr.heap[g5]? = some (.cells #[wordV (thW ls i 0), wordV (thW ls i 1), wordV 0] 72 (0, 0))) := ⟨(HR.out.2.2.2.2).trans rfl⟩
     have hf5 : wr.frozen? ⟨g5, 2, none⟩ = false := frozen_of_row _ g5 _ _ 72 HR5k.out
     have hcc : wr.cell? ⟨g5, 2, none⟩ = some (wordV 0) := by unfold World.cell?; rw [HR5k.out]; rfl
     by_cases hge : 2 ≤ i
     ·
      have cge : decide (2 ≤ i) = true := decide_eq_true hge
      have hcl : wr.cell? ⟨g, i - 2, none⟩ = some (.int .u64 ((ls.getD (i - 2) 0 : Nat) : Int)) := row_at HR.out.2.2.2.1 (by have := HI16.out; omega)
      obtain ⟨y, hy⟩ : ∃ y, y = ls.getD (i - 2) 0 := ⟨_, rfl⟩
      rw [← hy] at hcl
      have HY : Aside0 (y = thW ls i 2) := ⟨by unfold thW; rw [if_pos hge]; exact hy⟩
      clear hy
      go_wp2
      all_goals (
       go_roundg 0
       case measure => have := HR.out.1; omega
       case rel =>
        have hU := Upd.cell (i := 2) (v := .int .u64 (y : Int)) HR5k.out
        refine ⟨3, rfl, ⟨rfl, (HR.out.2.1).same (hU.other b hgg5.out.2.1), hU.below HR.out.2.2.1 hgg5.out.2.2, (hU.other g hgg5.out.1).trans HR.out.2.2.2.1, ?_⟩⟩
        rw [hU.here, HY.out]; rfl)
     ·
      have cge : decide (2 ≤ i) = false := decide_eq_false hge
      have HY : Aside0 (0 = thW ls i 2) := ⟨by unfold thW; rw [if_neg hge]⟩
      go_wp2
      all_goals (
       go_roundg 0
       case measure => have := HR.out.1; omega
       case rel =>
        refine ⟨3, rfl, ⟨rfl, HR.out.2.1, HR.out.2.2.1, HR.out.2.2.2.1, ?_⟩⟩
        rw [HR5k.out]; show _ = some (Obj.cells (thC ls i 3) 72 (0, 0)); unfold thC; simp [← HY.out])
    ·
     subst hk_
     have HR5k : Aside0 (wr.heap[g5]? = some (.cells #[wordV (thW ls i 0), wordV (thW ls i 1), wordV (thW ls i 2)] 72 (0, 0))) := ⟨HR.out.2.2.2.2⟩
     have HA6 := Aside0.mk HR.out.2.1
     have HB6 := Aside0.mk HR.out.2.2.1
     have HG6 := Aside0.mk HR.out.2.2.2.1
     clear HR HA3 HB3 HG3 HA4 HB4 HG4 HH5
     go_upto_region 14 with (fail)
     obtain ⟨q0, q1, q2, hq⟩ : ∃ q0 q1 q2 : Nat, q0 = thW ls i 0 ∧ q1 = thW ls i 1 ∧ q2 = thW ls i 2 := ⟨_, _, _, rfl, rfl, rfl⟩
     have hA9 := A9.out
     rw [← HTI.out, ← hq.1] at hA9
     have A10 := Aside0.mk hA9
     have HR5 := HR5k.out
     rw [← hq.1, ← hq.2.1, ← hq.2.2] at HR5
     have HQ := Aside0.mk hq
     have d0 : wr.cell? ⟨g5, 0, none⟩ = some (.int .u64 (q0 : Int)) := by unfold World.cell?; rw [HR5]; rfl
     have d1 : wr.cell? ⟨g5, 1, none⟩ = some (.int .u64 (q1 : Int)) := by unfold World.cell?; rw [HR5]; rfl
     have d2 : wr.cell? ⟨g5, 2, none⟩ = some (.int .u64 (q2 : Int)) := by unfold World.cell?; rw [HR5]; rfl
     obtain ⟨hiV, hhiV⟩ : ∃ hiV, hiV = q0 * 2 ^ s % 18446744073709551616 + q1 / 2 / 2 ^ (63 - s) := ⟨_, rfl⟩
     obtain ⟨loV, hloV⟩ : ∃ loV, loV = q1 * 2 ^ s % 18446744073709551616 + q2 / 2 / 2 ^ (63 - s) := ⟨_, rfl⟩
     have eO1 : Go.bits .or .u64 (IntKind.u64.wrap ((q0 : Int) * 2 ^ s)) ((q1 : Int) / 2 / 2 ^ (63 - s)) = (hiV : Int) := by rw [hhiV]; exact or_three (by rw [hq.1]; exact thW_lt HLW.out _ _) (by rw [hq.2.1]; exact thW_lt HLW.out _ _) hs64
     have eO2 : Go.bits .or .u64 (IntKind.u64.wrap ((q1 : Int) * 2 ^ s)) ((q2 : Int) / 2 / 2 ^ (63 - s)) = (loV : Int) := by rw [hloV]; exact or_three (by rw [hq.2.1]; exact thW_lt HLW.out _ _) (by rw [hq.2.2]; exact thW_lt HLW.out _ _) hs64
     have HHI : Aside0 (rdHi ls i s = hiV ∧ rdLo ls i s = loV) := ⟨by unfold rdHi rdLo; rw [← hq.1, ← hq.2.1, ← hq.2.2, hhiV, hloV]; exact ⟨rfl, rfl⟩⟩
     clear hq hA9 HR5 HR5k hhiV hloV
     go_upto_region 15 with (first
      | ((with_reducible refine gC (f := 33) rfl ?_); (with_reducible refine gD (N := 56) rfl ?_); refine goesY_ (some 56) Try.func33 #[.int .u64 (q0 : Int)] ?_; (with_reducible refine (bits_LeadingZeros64.calls kf _ _ _ A10.out).mono ?_); rintro e w' ⟨rfl, ⟨nd, rfl⟩⟩; refine ⟨_, rfl, ?_⟩))
     go_quiet (fail)
     go_wp2
     go_quiet (fail)
     go_wp2
     generalize hW6 : World.drewN _ _ = W6
     have e6 : W6.heap = wr.heap := by rw [← hW6]; rfl
     have HA7 : Aside0 (AccB W6 b m false t ws) := ⟨HA6.out.same (by rw [e6])⟩
     have HB7 : Aside0 (Below w.heap.size w W6) := ⟨by rw [← hW6]; (repeat apply pw_below_drewN); exact HB6.out⟩
     have HG7 : Aside0 (W6.heap[g]? = some (.cells (ls.map wordV).toArray 60 (0, 0))) := ⟨by rw [e6]; exact HG6.out⟩
     clear hW6 e6
     go_loopg [10, 11] (i - 2) (fun kq v10 v11 W => ∃ (r : Bool) (k : Nat), v10 = .bool r ∧ v11 = .int .i64 (k : Int) ∧ Aside0 (k ≤ i - 2 ∧ kq = i - 2 - k ∧ r = (decide (q2 * 2 ^ s % 18446744073709551616 ≠ 0) || anyW ls k)) ∧ W = W6)
     case atStart =>
      exact ⟨_, 0, rfl, rfl, ⟨Nat.zero_le _, by omega, by rw [show anyW ls 0 = false from rfl, Bool.or_false, Bool.eq_iff_iff, bne_iff_ne, decide_eq_true_iff, show (q2 : Int) * 2 ^ s = ((q2 * 2 ^ s : Nat) : Int) by rw [Int.natCast_mul, Int.natCast_pow]; rfl, wrap_nat]; omega⟩, rfl⟩
     case round =>
      obtain ⟨r, k, rfl, rfl, HR, hWr⟩ := hrel
      have hWr2 := hWr.symm
      subst hWr2
      clear hWr
      by_cases hk : k < i - 2
      ·
       have ck : decide ((k : Int) < (i : Int) - 2) = true := decide_eq_true (by omega)
       have hck : W6.cell? ⟨g, k, none⟩ = some (.int .u64 ((ls.getD k 0 : Nat) : Int)) := row_at HG7.out (by have := HI16.out; omega)
       obtain ⟨y, hy⟩ : ∃ y, y = ls.getD k 0 := ⟨_, rfl⟩
       rw [← hy] at hck
       have HY := Aside0.mk hy
       clear hy
       have HK := Aside0.mk hk
       have hi16' := HI16.out
       cases r with
       | true =>
        go_wp2
        go_roundg (gk - 1)
        case measure => have := HR.out.2.1; have := HK.out; omega
        case rel => exact ⟨true, k + 1, rfl, by first | rfl | (simp; done), ⟨by have := HK.out; omega, by have := HR.out.2.1; omega, by rw [show anyW ls (k + 1) = (anyW ls k || decide (ls.getD k 0 ≠ 0)) from rfl, ← Bool.or_assoc, ← HR.out.2.2]; rfl⟩, rfl⟩
       | false =>
        go_wp2
        go_roundg (gk - 1)
        case measure => have := HR.out.2.1; have := HK.out; omega
        case rel => exact ⟨decide (y ≠ 0), k + 1, by first | rfl | (congr 1; rw [Bool.eq_iff_iff]; simp; done), by first | rfl | (simp; done), ⟨by have := HK.out; omega, by have := HR.out.2.1; omega, by rw [show anyW ls (k + 1) = (anyW ls k || decide (ls.getD k 0 ≠ 0)) from rfl, ← Bool.or_assoc, ← HR.out.2.2, HY.out]; rfl⟩, rfl⟩
      ·
       have ck : decide ((k : Int) < (i : Int) - 2) = false := decide_eq_false (by omega)
       have hki : k = i - 2 := by have := HR.out.1; omega
       have HRR : Aside0 (r = (decide (q2 * 2 ^ s % 18446744073709551616 ≠ 0) || anyW ls (i - 2))) := ⟨by rw [HR.out.2.2, hki]⟩
       clear hki
       go_upto_region 22 with (fail)
       have A12i := A12.out
       rw [← HTI.out, HHI.out.1, HHI.out.2] at A12i
       have HRD : Aside0 (rdRest ls i s = r) := ⟨by unfold rdRest; rw [HRR.out, HQ.out.2.2]⟩
       rw [HRD.out] at A12i
       have A14 := Aside0.mk A12i
       have hexi := HEX.out
       rw [← HTI.out] at hexi
       clear A12i ck hk
       have v0 := HA7.out.c0
       have HD0 : HeldR b m t ws w W6.drew := ⟨HA7.out.c0, ⟨⟨HA7.out, HB7.out.drew⟩⟩⟩
       rw [← hexi, ← wrap_ex HI16.out hs64 h1] at A14
       have HS6 : Aside0 (w.heap.size ≤ W6.heap.size) := ⟨HB7.out.size⟩
       clear HA6 HB6 HG6 hexi
       go_region_held3 (fun W => W.cell? ⟨b, 0, none⟩ = some (.int .i64 (4 * (m : Int))) ∧ Aside0 (AccB W b m false t ws ∧ Below w.heap.size w W)) ((first | with_reducible exact HD0 | with_reducible exact HeldR.drewN ‹_› _ | with_reducible exact HeldR.alloc ‹_› _ | with_reducible exact HeldR.drewN (HeldR.of HA7.out HB7.out) _ | (with_reducible refine HeldR.set (HeldR.set (HeldR.set (HeldR.set (HeldR.set (HeldR.set ?_ HS6.out hb.out) HS6.out hb.out) HS6.out hb.out) HS6.out hb.out) HS6.out hb.out) HS6.out hb.out; with_reducible assumption) | with_reducible exact HeldR.drew (HeldR.alloc (HeldR.of HA7.out HB7.out) _) | with_reducible exact HeldR.drewN (HeldR.alloc (HeldR.of HA7.out HB7.out) _) _ | with_reducible exact HeldR.below ‹_› ‹_› | (with_reducible apply HeldR.t1 HA7.out HB7.out; assumption))) (first
        | (go_at_call 35; refine (hN.out _ ?_).mono ?_; (exact HeldR.acc ‹_›); rintro e w' ⟨rfl, ⟨kn, rfl⟩⟩)
        | (go_at_call 34; refine (round_Make.calls kf ng (hiV : Int) (loV : Int) _ r r1 r2 r3 r4 r5 r6 none _ A14.out).mono ?_; rintro e w9 ⟨rfl, hb9⟩; (try ((with_reducible have n8 := HeldR.new2 hb9); have n9 : w9.heap[W6.heap.size]? = _ := n8; clear n8; have N9 := Aside0.mk n9; obtain ⟨z0, z1, z2, z3, z4, z5, f0, f1, f2, f3, f4, f5⟩ := cl6 n9; clear n9)); (try ((with_reducible have n8 := HeldR.new hb9); have n9 : w9.heap[W6.heap.size]? = _ := n8; clear n8; have N9 := Aside0.mk n9; obtain ⟨z0, z1, z2, z3, z4, z5, f0, f1, f2, f3, f4, f5⟩ := cl6 n9; clear n9)); (try simp only [errW_none])))
       ·
        (try simp only [Exit.inBlock, Exit.then])
        generalize hW10 : World.alloc _ _ = W10
        have HR10 : HeldR b m t ws w W10 := by rw [← hW10]; with_reducible assumption
        have HE10 : W10.heap[w9.heap.size]? = some (.cells #[.int .i64 r1, .bool r2, .int .i64 r3, .int .u64 r4, .int .u64 r5, .bool r6] 76 (0, 0)) := by rw [← hW10]; exact alloc_new w9 _
        generalize hgE : w9.heap.size = gE at *
        clear hb9
        clear hW10
        have HE0 := HeldE.of HR10.2.out.1 HR10.2.out.2 HE10
        clear HR10 HE10
        go_upto_region 25 with (fail)
        go_region_held3 (fun W => W.cell? ⟨b, 0, none⟩ = some (.int .i64 (4 * (m : Int))) ∧ W.cell? ⟨gE, 0, none⟩ = some (.int .i64 r1) ∧ W.cell? ⟨gE, 1, none⟩ = some (.bool r2) ∧ W.cell? ⟨gE, 2, none⟩ = some (.int .i64 r3) ∧ W.cell? ⟨gE, 3, none⟩ = some (.int .u64 r4) ∧ W.cell? ⟨gE, 4, none⟩ = some (.int .u64 r5) ∧ W.cell? ⟨gE, 5, none⟩ = some (.bool r6) ∧ Aside0 (AccB W b m false t ws ∧ Below w.heap.size w W ∧ W.heap[gE]? = some (.cells #[.int .i64 r1, .bool r2, .int .i64 r3, .int .u64 r4, .int .u64 r5, .bool r6] 76 (0, 0)))) ((first | with_reducible exact HE0 | with_reducible exact HeldE.drew HE0 | with_reducible exact HeldE.below ‹_› ‹_›)) (first
         | (go_at_call 36; refine (round_Round.calls kf (4 * (m : Int)) r1 r2 r3 r4 r5 r6 res none _ A13.out).mono ?_; rintro e w11 ⟨rfl, hb11⟩; (try simp only [errW_none])))
        (try simp only [Exit.inBlock, Exit.then])
        have HB11 : Aside0 (Below w.heap.size w w11) := ⟨(HeldE.below (HeldE.drew HE0) hb11).2.2.2.2.2.2.2.out.2.1⟩
        clear hb11 HE0 HD0
        go_wp2
        go_ret
        exact ⟨rfl, HB11.out⟩
       all_goals (
        (try simp only [Exit.inBlock, Exit.then])
        generalize hW10 : World.setCell _ _ _ = W10
        have HR10 : HeldR b m t ws w W10 := by rw [← hW10]; with_reducible assumption
        have HE10 : W10.heap[W6.heap.size]? = some (.cells #[.int .i64 r1, .bool r2, .int .i64 r3, .int .u64 r4, .int .u64 r5, .bool r6] 76 (0, 0)) := by rw [← hW10]; exact six_set N9.out
        clear N9 z0 z1 z2 z3 z4 z5 f0 f1 f2 f3 f4 f5
        generalize hgE : W6.heap.size = gE at *
        clear hb9
        clear hW10
        have HE0 := HeldE.of HR10.2.out.1 HR10.2.out.2 HE10
        clear HR10 HE10
        go_upto_region 25 with (fail)
        go_region_held3 (fun W => W.cell? ⟨b, 0, none⟩ = some (.int .i64 (4 * (m : Int))) ∧ W.cell? ⟨gE, 0, none⟩ = some (.int .i64 r1) ∧ W.cell? ⟨gE, 1, none⟩ = some (.bool r2) ∧ W.cell? ⟨gE, 2, none⟩ = some (.int .i64 r3) ∧ W.cell? ⟨gE, 3, none⟩ = some (.int .u64 r4) ∧ W.cell? ⟨gE, 4, none⟩ = some (.int .u64 r5) ∧ W.cell? ⟨gE, 5, none⟩ = some (.bool r6) ∧ Aside0 (AccB W b m false t ws ∧ Below w.heap.size w W ∧ W.heap[gE]? = some (.cells #[.int .i64 r1, .bool r2, .int .i64 r3, .int .u64 r4, .int .u64 r5, .bool r6] 76 (0, 0)))) ((first | with_reducible exact HE0 | with_reducible exact HeldE.drew HE0 | with_reducible exact HeldE.below ‹_› ‹_›)) (first
         | (go_at_call 36; refine (round_Round.calls kf (4 * (m : Int)) r1 r2 r3 r4 r5 r6 res none _ A13.out).mono ?_; rintro e w11 ⟨rfl, hb11⟩; (try simp only [errW_none])))
        (try simp only [Exit.inBlock, Exit.then])
        have HB11 : Aside0 (Below w.heap.size w w11) := ⟨(HeldE.below (HeldE.drew HE0) hb11).2.2.2.2.2.2.2.out.2.1⟩
        clear hb11 HE0 HD0
        go_wp2
        go_ret
        exact ⟨rfl, HB11.out⟩)
end Go.Proofs.Ytjlaijaadclghaa.F
