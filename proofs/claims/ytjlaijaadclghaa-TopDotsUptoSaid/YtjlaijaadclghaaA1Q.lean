/- Walks of the accumulator's small functions, .. -/
import Derived.Test.YtjlaijaadclghaaF0Q
import Derived.Test.YtjlaijaadclghaaF1Q
import Derived.Test.YtjlaijaadclghaaF2Q
import Derived.Test.YtjlaijaadclghaaF3Q
import Derived.Test.YtjlaijaadclghaaF4Q
import Derived.Test.YtjlaijaadclghaaF5Q
import Derived.Test.YtjlaijaadclghaaF6Q
import Derived.Test.YtjlaijaadclghaaF8Q
import Derived.Test.YtjlaijaadclghaaF9Q
import Derived.Test.YtjlaijaadclghaaF10Q
import Derived.Test.YtjlaijaadclghaaF11Q
import Derived.Test.YtjlaijaadclghaaF12Q
import Derived.Test.YtjlaijaadclghaaF13Q
import Derived.Test.YtjlaijaadclghaaF14Q
import Derived.Test.YtjlaijaadclghaaF15Q
import Derived.Test.YtjlaijaadclghaaF16Q
namespace Go.Proofs.Ytjlaijaadclghaa.F
open RowKit YtjlaijaadclghaaW PrintWords PrintLast PrintMore
attribute [local go_sem high] xor_u64 xor_u32
set_option linter.all false
def wordV (x : Nat) : Value := .int .u64 (x : Int)
def rowC (pre post : List Value) (ws : List Nat) : Array Value := (pre ++ (ws.map wordV ++ post)).toArray
theorem rowC_get (pre post : List Value) (ys zs : List Nat) (x : Nat) : (rowC pre post (ys ++ x :: zs))[pre.length + ys.length]? = some (wordV x) := by
 unfold rowC
 rw [List.getElem?_toArray, List.getElem?_append_right (by omega), Nat.add_sub_cancel_left, List.map_append, List.append_assoc, List.getElem?_append_right (by simp), List.length_map, Nat.sub_self, List.map_cons]
 rfl
theorem rowC_set (pre post : List Value) (ys zs : List Nat) (x y : Nat) : (rowC pre post (ys ++ x :: zs)).setIfInBounds (pre.length + ys.length) (wordV y) = rowC pre post (ys ++ y :: zs) := by
 unfold rowC
 rw [List.setIfInBounds_toArray, List.set_append_right _ _ (by omega), Nat.add_sub_cancel_left, List.map_append, List.append_assoc, List.set_append_right _ _ (by simp), List.length_map, Nat.sub_self, List.map_append, List.append_assoc]
 rfl
def accC (m : Nat) (nar : Bool) (t : Int) (ws : List Nat) : Array Value := rowC [.int .i64 (4 * (m : Int)), .bool nar, .int .i64 t] [] ws
def AccB (W : World) (b m : Nat) (nar : Bool) (t : Int) (ws : List Nat) : Prop := W.heap[b]? = some (.cells (accC m nar t ws) 62 (0, 0))
theorem AccB.cell {W : World} {b m : Nat} {nar : Bool} {t : Int} {ws : List Nat} (h : AccB W b m nar t ws) (i : Nat) : W.cell? ⟨b, i, none⟩ = (accC m nar t ws)[i]? := by
 unfold World.cell?; rw [h]; rfl
theorem AccB.drewN {W : World} {b m : Nat} {nar : Bool} {t : Int} {ws : List Nat} (h : AccB W b m nar t ws) (k : Nat) : AccB (W.drewN k) b m nar t ws := h
theorem AccB.word {W : World} {b m : Nat} {nar : Bool} {t : Int} {ws : List Nat} (h : AccB W b m nar t ws) {i : Nat} (hi : i < ws.length) : W.cell? ⟨b, 3 + i, none⟩ = some (.int .u64 ((ws.getD i 0 : Nat) : Int)) := by
 rw [h.cell]
 have e : ws = ws.take i ++ ws.getD i 0 :: ws.drop (i + 1) := by
  have h1 : ws.getD i 0 = ws[i] := by simp [List.getD_eq_getElem?_getD, hi]
  rw [h1, List.getElem_cons_drop, List.take_append_drop]
 have hl : (ws.take i).length = i := by rw [List.length_take]; omega
 have g := rowC_get [.int .i64 (4 * (m : Int)), .bool nar, .int .i64 t] [] (ws.take i) (ws.drop (i + 1)) (ws.getD i 0)
 rw [hl, ← e] at g
 exact g
set_option maxHeartbeats 400000 in
set_option maxRecDepth 100000 in
theorem size_calls (b m : Nat) (nar : Bool) (t : Int) (ws : List Nat) (w : World) (h : AccB w b m nar t ws) (h1 : m ≤ 16) :
  Calls Try.prog 32 #[.pointer (some ⟨b, 0, none⟩)] w fun e w' => e = .returned (.int .i64 (m : Int)) ∧ w' = w := by
 have c0 : w.cell? ⟨b, 0, none⟩ = some (.int .i64 (4 * (m : Int))) := by rw [h.cell]; rfl
 go_enter Try.func32, Try.ntmps32
 go_wp2
 go_ret
 exact ⟨rfl, rfl⟩
set_option maxHeartbeats 400000 in
set_option maxRecDepth 100000 in
theorem negative_calls (b m : Nat) (nar : Bool) (t : Int) (ws : List Nat) (w : World) (h : AccB w b m nar t ws) (h0 : 1 ≤ m) (h1 : m ≤ 16) (hl : ws.length = 16) (hw : ws.getD (m - 1) 0 < 18446744073709551616) :
  Calls Try.prog 35 #[.pointer (some ⟨b, 0, none⟩)] w fun e w' => e = .returned (.bool (decide (9223372036854775808 ≤ ws.getD (m - 1) 0))) ∧ ∃ k, w' = w.drewN k := by
 have c0 : w.cell? ⟨b, 3 + (m - 1), none⟩ = some (.int .u64 ((ws.getD (m - 1) 0 : Nat) : Int)) := h.word (by omega)
 go_enter Try.func35, Try.ntmps35
 go_wp2
 go_quiet (first | (go_at_call 32; refine Calls.quiet_of_same (size_calls b m nar t ws _ (h.drewN _) h1)))
 go_wp2
 go_ret
 refine ⟨?_, nq, rfl⟩
 show Ending.returned (Value.bool (((ws.getD (m - 1) 0 : Nat) : Int) / 9223372036854775808 == 1)) = _
 congr 2
 rw [Bool.eq_iff_iff, beq_iff_eq, decide_eq_true_iff]
 omega
theorem setRow_same {w : World} {g : Nat} {cs : Array Value} {ty : TypeId} {fr : Nat × Nat} (h : w.heap[g]? = some (.cells cs ty fr)) : w.setRow g cs = w := by
 have hh : (w.setRow g cs).heap = w.heap := by
  apply Array.ext_getElem?
  intro i
  by_cases c : i = g
  ·
   subst c; rw [setRow_heap w i _ cs ty fr h, h]
  ·
   exact setRow_other w g i cs c
 have : w.setRow g cs = { w with heap := (w.setRow g cs).heap } := rfl
 rw [this, hh]
theorem xor_ones {x : Nat} (h : x < 18446744073709551616) : Go.bits .xor .u64 18446744073709551615 (x : Int) = ((18446744073709551615 - x : Nat) : Int) := by
 have c : (18446744073709551615 : Int) = ((18446744073709551615 : Nat) : Int) := rfl
 rw [c]
 simp only [bits, BitVec.ofInt_natCast]
 have h1 : (BitVec.ofNat IntKind.u64.bits 18446744073709551615 ^^^ BitVec.ofNat IntKind.u64.bits x).toNat = 18446744073709551615 - x := by
  show (BitVec.ofNat 64 18446744073709551615 ^^^ BitVec.ofNat 64 x).toNat = _
  rw [show (BitVec.ofNat 64 18446744073709551615) = BitVec.allOnes 64 from rfl, BitVec.allOnes_xor, BitVec.toNat_not, BitVec.toNat_ofNat, Nat.mod_eq_of_lt h]
 rw [h1]
 simp [IntKind.wrap, IntKind.bits, IntKind.signed]
 omega
def turnC : List Nat → Nat → List Nat
 | [], _ => []
 | x :: xs, c => (18446744073709551615 - x + c) % 18446744073709551616 :: turnC xs ((18446744073709551615 - x + c) / 18446744073709551616)
theorem turnC_length : ∀ (xs : List Nat) (c : Nat), (turnC xs c).length = xs.length
 | [], _ => rfl
 | x :: xs, c => by simp only [turnC, List.length_cons, turnC_length xs]
set_option maxHeartbeats 2000000 in
set_option maxRecDepth 100000 in
theorem turn_calls (g cap : Nat) (ty : TypeId) (pre post : List Value) (xs : List Nat) (w : World) (hg : w.heap[g]? = some (.cells (rowC pre post xs) ty (0, 0))) (hx : ∀ x ∈ xs, x < 18446744073709551616) (hl : xs.length ≤ 16) :
  Calls Try.prog 49 #[.slice (some ⟨g, pre.length, none⟩) xs.length cap] w fun e w' => e = .returned (.tuple #[]) ∧ ∃ k, w' = (w.setRow g (rowC pre post (turnC xs 1))).drewN k := by
 go_enter Try.func49, Try.ntmps49
 go_wp2
 go_loopg [2, 3, 4, 7] xs.length (fun kq v2 v3 v4 v7 w' => ∃ (ys zs : List Nat) (c : Nat), v2 = .int .u64 (c : Int) ∧ v7 = .int .i64 (ys.length : Int) ∧ Aside0 (kq = zs.length ∧ ys.length + zs.length = xs.length ∧ c ≤ 1 ∧ (∀ x ∈ zs, x < 18446744073709551616) ∧ turnC xs 1 = ys ++ turnC zs c) ∧ ∃ k, w' = (w.setRow g (rowC pre post (ys ++ zs))).drewN k)
 case atStart => exact ⟨[], xs, 1, rfl, rfl, ⟨⟨rfl, by simp, by decide, hx, rfl⟩⟩, 0, (setRow_same hg).symm⟩
 case round =>
  obtain ⟨ys, zs, c, rfl, rfl, ⟨⟨hk, hlen, hc, hz, ht⟩⟩, k0, rfl⟩ := hrel
  cases zs with
  | nil =>
   have c0 : decide (ys.length < xs.length) = false := by simp at hlen; rw [decide_eq_false_iff_not]; omega
   go_wp2
   go_end0
   have e : turnC xs 1 = ys ++ [] := ht
   exact ⟨rfl, k0, by rw [e, List.append_nil]⟩
  | cons x zs =>
   have hlt : ys.length < xs.length := by simp at hlen; omega
   have c0 : decide ((ys.length : Int) < (xs.length : Int)) = true := decide_eq_true (by omega)
   have hx0 : x < 18446744073709551616 := hz x (by simp)
   have hg2 := setRow_heap w g _ (rowC pre post (ys ++ x :: zs)) ty (0, 0) hg
   have hcell : (w.setRow g (rowC pre post (ys ++ x :: zs))).cell? ⟨g, pre.length + ys.length, none⟩ = some (.int .u64 (x : Int)) := by
    unfold World.cell?; rw [hg2]; exact rowC_get pre post ys zs x
   have hfz : (w.setRow g (rowC pre post (ys ++ x :: zs))).frozen? ⟨g, pre.length + ys.length, none⟩ = false := frozen_of_row _ g _ _ ty hg2
   have A3 : Aside0 (bits_Add64.f (Go.bits .xor .u64 18446744073709551615 (x : Int)) 0 (c : Int) = some ((((18446744073709551615 - x + c) % 18446744073709551616 : Nat) : Int), (((18446744073709551615 - x + c) / 18446744073709551616 : Nat) : Int))) := by
    refine ⟨?_⟩
    rw [xor_ones hx0]
    unfold bits_Add64.f
    rw [if_pos (by omega)]
    congr 2 <;> omega
   go_wp2_with (first | ((with_reducible refine gC (f := 65) rfl ?_); (with_reducible refine gD (N := 18) rfl ?_); refine goesX_ (some 18) #[.int .u64 (Go.bits .xor .u64 18446744073709551615 (x : Int)), .int .u64 0, .int .u64 (c : Int)] ?_; (with_reducible refine (bits_Add64.calls _ _ _ _ _ _ A3.out).mono ?_); rintro e w' ⟨rfl, rfl⟩; refine ⟨_, rfl, ?_⟩))
   go_roundg zs.length
   case measure => simp at hk; omega
   case rel =>
    refine ⟨ys ++ [(18446744073709551615 - x + c) % 18446744073709551616], zs, (18446744073709551615 - x + c) / 18446744073709551616, ?_, ?_, ⟨⟨rfl, ?_, ?_, fun y hy => hz y (by simp [hy]), ?_⟩⟩, k0, ?_⟩
    ·
     congr 1
    ·
     congr 1; rw [List.length_append]; rfl
    ·
     rw [List.length_append, ← hlen]; simp; omega
    ·
     omega
    ·
     rw [ht, List.append_assoc]; rfl
    ·
     show ((w.setRow g (rowC pre post (ys ++ x :: zs))).setCell ⟨g, pre.length + ys.length, none⟩ (wordV ((18446744073709551615 - x + c) % 18446744073709551616))).drewN k0 = _
     rw [setCell_eq_setRow _ g _ _ ty (0, 0) _ hg2, setRow_setRow, rowC_set, List.append_assoc]
     rfl
end Go.Proofs.Ytjlaijaadclghaa.F
