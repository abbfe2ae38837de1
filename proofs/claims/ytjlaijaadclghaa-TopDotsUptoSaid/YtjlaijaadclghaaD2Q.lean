/- The iterator over two lists, place by place; .. -/
import Derived.RangeFuncNested
import Derived.RangeFuncBound
import Derived.RangeFuncCalls
import Derived.RangeFuncLeaves
import Derived.RangeFuncBox
import Derived.Shelf.Abstract
import Derived.Shelf.RegionOpen
import Derived.WalkKit
import Derived.OwnWalkIn
import Derived.TacticsInMore
import Derived.LoopNIn
import Derived.LoopIn
import Derived.Test.YtjlaijaadclghaaProg
import Derived.Test.YtjlaijaadclghaaA9Q
namespace Go.Proofs.Ytjlaijaadclghaa.F
open Go.RowKit Go.Shelf
set_option linter.all false
attribute [local go_sem] Oper.semAt_some
def KpB (b n0 : Nat) (W V : World) : Prop := W.heap.size ≤ V.heap.size ∧ ∀ k, k < n0 → k ≠ b → V.heap[k]? = W.heap[k]?
theorem KpB.refl (b n0 : Nat) (W : World) : KpB b n0 W W := ⟨Nat.le_refl _, fun _ _ _ => rfl⟩
theorem KpB.trans {b n0 : Nat} {U V W : World} (h : KpB b n0 U V) (k : KpB b n0 V W) : KpB b n0 U W := ⟨Nat.le_trans h.1 k.1, fun i h1 h2 => (k.2 i h1 h2).trans (h.2 i h1 h2)⟩
theorem KpB.cell {b n0 : Nat} {W V : World} (h : KpB b n0 W V) {p : Addr} (h1 : p.block < n0) (h2 : p.block ≠ b) : V.cell? p = W.cell? p := World.cell?_of_block (h.2 p.block h1 h2)
theorem kpB_b {b n0 : Nat} {w : World} (hn : n0 ≤ w.heap.size) (W : World) (l : Nat) (o o' : Obj) (hl : w.heap.size ≤ l) (h : W.heap[l]? = some o) (_ : o.isCells = false) (_ : o.isWalk = false) : KpB b n0 W (W.putObj l o') :=
 ⟨by simp, fun k hk _ => World.putObj_heap_other (by omega)⟩
set_option maxRecDepth 100000 in
set_option maxHeartbeats 2000000 in
theorem places1_in (F : Fence) (n : Nat) (h47 : F.fn 47) (hro : F.round = none) (hn : 1 ≤ n) (l Ba Bb n0 b L ca cb ba oa bb ob : Nat) (da db : Nat → Int) (hreach : L * 8 ≤ 140737488351232) (ha : ba < n0 ∧ ba ≠ b) (hb : bb < n0 ∧ bb ≠ b) (hBa : Ba < n0 ∧ Ba ≠ b) (hBb : Bb < n0 ∧ Bb ≠ b) (J Jx : List Nat → World → Prop)
  (hY : ∀ pre x W, J pre W → pre.length < L → YieldAt F (n - 1) Try.prog l #[.int .u64 (da x), .int .u64 (db x)] W fun e W' =>
   (e = .returned (.bool true) ∧ J (pre ++ [x]) W' ∧ KpB b n0 W W') ∨ (e = .returned (.bool false) ∧ Jx (pre ++ [x]) W'))
  (W : World) (hca : W.cell? ⟨Ba, 0, none⟩ = some (.slice (some ⟨ba, oa, none⟩) L ca)) (hcb : W.cell? ⟨Bb, 0, none⟩ = some (.slice (some ⟨bb, ob, none⟩) L cb))
  (hla : ∀ j, j < L → W.cell? ⟨ba, oa + j, none⟩ = some (.int .u64 (da j))) (hlb : ∀ j, j < L → W.cell? ⟨bb, ob + j, none⟩ = some (.int .u64 (db j))) (h0 : J [] W) :
  CallsIn F n Try.prog 47 #[.func (.yield l) #[] #[], .pointer (some ⟨Ba, 0, none⟩), .pointer (some ⟨Bb, 0, none⟩)] W fun e W' => (∃ v, e = .returned v) ∧
   ((∃ ys, ys = List.range L ∧ J ys W') ∨ (∃ pre, (∃ k, k ≤ L ∧ pre = List.range k) ∧ Jx pre W')) := by
 refine callsIn_of_wp Try.func47 rfl h47 ?_ hro
 simp only [Try.ntmps47, List.size_toArray, List.length_cons, List.length_nil, Nat.reduceAdd, Nat.reduceSub, Array.replicate_succ, Array.replicate_zero, List.push_toArray, List.append_toArray, List.nil_append, List.cons_append]
 gi_wp2
 gi_loopw [8] (fun i wr => ∃ k : Nat, k ≤ L ∧ i = .int .i64 k ∧ J (List.range k) wr ∧ KpB b n0 W wr)
  (fun i _ => L - (intOf i).toNat)
 case atStart => exact ⟨0, Nat.zero_le _, rfl, h0, KpB.refl _ _ _⟩
 case round =>
  obtain ⟨k, hk, rfl, hJs, hnx⟩ := hrel
  by_cases hlt : k < L
  ·
   obtain ⟨fn, tmps, assign, body, hy, hR⟩ := hY _ k wr hJs (by rw [List.length_range]; exact hlt)
   have c1 : wr.cell? ⟨ba, oa + k, none⟩ = some (.int .u64 (da k)) := (hnx.cell (p := ⟨ba, oa + k, none⟩) ha.1 ha.2).trans (hla k hlt)
   have c2 : wr.cell? ⟨bb, ob + k, none⟩ = some (.int .u64 (db k)) := (hnx.cell (p := ⟨bb, ob + k, none⟩) hb.1 hb.2).trans (hlb k hlt)
   have c3 : wr.cell? ⟨Bb, 0, none⟩ = some (.slice (some ⟨bb, ob, none⟩) L cb) := (hnx.cell (p := ⟨Bb, 0, none⟩) hBb.1 hBb.2).trans hcb
   (try dsimp only at hy)
   gi_wp2
   refine hR.mono ?_
   rintro e W3 (⟨rfl, hJ3, hk3⟩ | ⟨rfl, hJx3⟩)
   ·
    gi_wp2
    go_roundw
    case rel => exact ⟨k + 1, by omega, by simp, by rw [List.range_succ]; exact hJ3, hnx.trans hk3⟩
    case measure => simp [intOf]; omega
   ·
    gi_wp2
    refine bodyPost_ret (results_none rfl _ _ _) rfl ?_
    exact ⟨⟨_, rfl⟩, .inr ⟨_, ⟨k + 1, by omega, List.range_succ.symm⟩, hJx3⟩⟩
  ·
   obtain rfl : k = L := by omega
   gi_wp2
   go_end0
   exact ⟨⟨_, rfl⟩, .inl ⟨_, rfl, hJs⟩⟩
set_option maxRecDepth 100000 in
set_option maxHeartbeats 1000000 in
theorem places1_nil (F : Fence) (n : Nat) (h47 : F.fn 47) (hro : F.round = none) (l Ba Bb ca : Nat) (A : Option Addr) (J : List Nat → World → Prop) (W : World) (hca : W.cell? ⟨Ba, 0, none⟩ = some (.slice A 0 ca)) (h0 : J [] W) :
  CallsIn F n Try.prog 47 #[.func (.yield l) #[] #[], .pointer (some ⟨Ba, 0, none⟩), .pointer (some ⟨Bb, 0, none⟩)] W fun e W' => (∃ v, e = .returned v) ∧ J [] W' := by
 refine callsIn_of_wp Try.func47 rfl h47 ?_ hro
 simp only [Try.ntmps47, List.size_toArray, List.length_cons, List.length_nil, Nat.reduceAdd, Nat.reduceSub, Array.replicate_succ, Array.replicate_zero, List.push_toArray, List.append_toArray, List.nil_append, List.cons_append]
 gi_wp2
 gi_loopw [8] (fun i wr => i = .int .i64 0 ∧ J [] wr) (fun _ _ => 0)
 case atStart => exact ⟨rfl, h0⟩
 case round =>
  obtain ⟨rfl, hJs⟩ := hrel
  gi_wp2
  go_end0
  exact ⟨⟨_, rfl⟩, hJs⟩
def LstAt (n0 b : Nat) (W : World) (A : Option Addr) (L : Nat) (da : Nat → Int) : Prop := 0 < L → ∃ ba oa, A = some ⟨ba, oa, none⟩ ∧ (ba < n0 ∧ ba ≠ b) ∧ ∀ j, j < L → W.cell? ⟨ba, oa + j, none⟩ = some (.int .u64 (da j))
theorem places_stops (F : Fence) (n : Nat) (h47 : F.fn 47) (hro : F.round = none) (hn : 1 ≤ n) (Ba Bb n0 b L ca cb : Nat) (A B : Option Addr) (da db : Nat → Int) (hreach : L * 8 ≤ 140737488351232) (w : World) (hn0 : n0 ≤ w.heap.size) (hBa : Ba < n0 ∧ Ba ≠ b) (hBb : Bb < n0 ∧ Bb ≠ b)
  (hca : w.cell? ⟨Ba, 0, none⟩ = some (.slice A L ca)) (hcb : w.cell? ⟨Bb, 0, none⟩ = some (.slice B L cb)) (hA : LstAt n0 b w A L da) (hB : LstAt n0 b w B L db) :
  SeqStopsK F n Try.prog 47 #[.pointer (some ⟨Ba, 0, none⟩), .pointer (some ⟨Bb, 0, none⟩)] (fun x : Nat => #[Value.int .u64 (da x), Value.int .u64 (db x)]) (KpB b n0) (fun ys => ys = List.range L) (fun pre => ∃ k, k ≤ L ∧ pre = List.range k) L w := fun l J Jx W hW _ _ hY h0 => by
 have kc : ∀ {p : Addr} {v : Value}, p.block < n0 → w.cell? p = some v → W.cell? p = some v := fun h1 h2 => (World.cell?_of_block (hW.block _ (Nat.lt_of_lt_of_le h1 hn0))).trans h2
 rcases Nat.eq_zero_or_pos L with z | z
 ·
  subst z
  refine (places1_nil F n h47 hro l Ba Bb ca A J W (kc hBa.1 hca) h0).mono ?_
  rintro e W' ⟨he, hj⟩
  exact ⟨he, .inl ⟨_, rfl, hj⟩⟩
 ·
  obtain ⟨ba, oa, rfl, h1, h2⟩ := hA z
  obtain ⟨bb, ob, rfl, h3, h4⟩ := hB z
  exact places1_in F n h47 hro hn l Ba Bb n0 b L ca cb ba oa bb ob da db hreach h1 h3 hBa hBb J Jx hY W (kc hBa.1 hca) (kc hBb.1 hcb) (fun j hj => kc h1.1 (h2 j hj)) (fun j hj => kc h3.1 (h4 j hj)) h0
end Go.Proofs.Ytjlaijaadclghaa.F

namespace Go.Proofs.Ytjlaijaadclghaa.F
open RowKit Go.Shelf YtjlaijaadclghaaW PrintWords PrintLast PrintMore
set_option linter.all false
attribute [local go_sem] Oper.semAt_some
set_option maxHeartbeats 1000000 in
theorem places_in (F : Fence) (n : Nat) (h29 : F.fn 29) (hro : F.round = none) (A B : Option Addr) (la ca lb cb : Nat) (w : World) :
  CallsIn F n Try.prog 29 #[.slice A la ca, .slice B lb cb] w fun e w' => e = .returned (.func (.func 47) #[] #[.pointer (some ⟨w.heap.size, 0, none⟩), .pointer (some ⟨w.heap.size + 1, 0, none⟩)]) ∧ w' = (w.alloc (.cells #[.slice A la ca] 22)).alloc (.cells #[.slice B lb cb] 22) := by
 refine callsIn_of_wp Try.func29 rfl h29 ?_ hro
 simp only [Try.ntmps29, List.size_toArray, List.length_cons, List.length_nil, Nat.reduceAdd, Nat.reduceSub, Array.replicate_succ, Array.replicate_zero, List.push_toArray, List.append_toArray, List.nil_append, List.cons_append]
 gi_wp2
 go_ret
 exact ⟨by simp, rfl⟩
set_option maxRecDepth 100000 in
set_option maxHeartbeats 2000000 in
theorem into_calls {m L : Nat} {da db : Nat → Int} {nx : List Nat → Bool} {wx : List Nat → List Nat} (h2 : 2 ≤ m) (h16 : m ≤ 16) (hL : L ≤ 1048576) (x0 : nx [] = false ∧ wx [] = List.replicate 16 0)
  (hx : ∀ (pre : List Nat) (x : Nat), pre.length < L → ∀ b W, AccB W b m (nx pre) (pre.length : Int) (wx pre) → Calls Try.prog 48 #[.pointer (some ⟨b, 0, none⟩), .int .u64 (da x), .int .u64 (db x), .bool false] W fun e w' => e = .returned (errW none) ∧ AccB w' b m (nx (pre ++ [x])) ((pre.length + 1 : Nat) : Int) (wx (pre ++ [x])) ∧ Chg W w' b)
  (b ca cb : Nat) (A B : Option Addr) (w : World) (hb : AccB w b m false 0 (List.replicate 16 0)) (hA : LstAt w.heap.size b w A L da) (hB : LstAt w.heap.size b w B L db) :
  Calls Try.prog 14 #[.pointer (some ⟨b, 0, none⟩), .slice A L ca, .slice B L cb] w fun e w' => e = .returned (errW none) ∧ AccB w' b m (nx (List.range L)) (L : Int) (wx (List.range L)) ∧ Chg w w' b := by
 refine (callsIn_wide (n := 3)).1 ?_
 refine callsIn_of_wp_marks Try.func14 rfl trivial ?_ rfl
 simp only [Try.ntmps14, List.size_toArray, List.length_cons, List.length_nil, Nat.reduceAdd, Nat.reduceSub, Array.replicate_succ, Array.replicate_zero, List.push_toArray, List.append_toArray, List.nil_append, List.cons_append]
 have hblt := hb.lt
 have hu25 := Try.underlying25
 have hfd : ∀ (x0 x1 x3 : Value) (t : Int) (w : World), (Instr.field 64 (.agg #[x0, x1, .int .i64 t, x3]) 2).run Try.prog w = .ok (.int .i64 t) w := fun _ _ _ _ _ => by kernel_rfl
 gi_wp2_with (first
  | (refine ⟨trivial, ?_⟩; gi_at_call 28; refine (callsIn_wide.2 (state_calls b m false 0 (List.replicate 16 0) _ (hb.same (by rw [alloc_old _ _ _ (by show b < (w.heap.push _).size; rw [Array.size_push]; omega), alloc_old _ _ _ hblt])) (by omega) h16 rfl)).mono ?_; rintro e W3 ⟨gS, cS, curS, rfl, _, _, _, hb3⟩)
  | (refine ⟨trivial, ?_⟩; gi_at_call 29; refine (places_in Fence.wide _ trivial rfl _ _ _ _ _ _ _).mono ?_; rintro e w' ⟨rfl, rfl⟩))
 obtain ⟨w2, hw2⟩ : ∃ w2, (w.alloc (.cells #[.pointer (some ⟨b, 0, none⟩)] 42)).alloc (.cells #[.nilIface] 25) = w2 := ⟨_, rfl⟩
 rw [hw2] at hb3
 have hs2 : w2.heap.size = w.heap.size + 2 := by rw [← hw2]; simp
 have hs3 := hb3.size
 have hk0 : w2.heap[w.heap.size]? = some (.cells #[.pointer (some ⟨b, 0, none⟩)] 42 (0, 0)) := by
  rw [← hw2, alloc_old _ _ _ (by simp)]; exact alloc_new w _
 have hk1 : w2.heap[w.heap.size + 1]? = some (.cells #[.nilIface] 25 (0, 0)) := by
  rw [← hw2]; have := alloc_new (w.alloc (.cells #[.pointer (some ⟨b, 0, none⟩)] 42)) (.cells #[.nilIface] 25); rwa [World.size_alloc] at this
 obtain ⟨W4, hW4⟩ : ∃ W4, (W3.alloc (Obj.cells #[Value.slice A L ca] 22)).alloc (Obj.cells #[Value.slice B L cb] 22) = W4 := ⟨_, rfl⟩
 have hs4 : W4.heap.size = W3.heap.size + 2 := by rw [← hW4]; simp
 have hb34 : Below W3.heap.size W3 W4 := by rw [← hW4]; exact below_alloc (below_alloc (Below.refl _ _) _) _
 have hcA : W4.cell? ⟨W3.heap.size, 0, none⟩ = some (.slice A L ca) := by
  have h1 : W4.heap[W3.heap.size]? = some (.cells #[.slice A L ca] 22 (0, 0)) := by
   rw [← hW4, alloc_old _ _ _ (by simp)]; exact alloc_new W3 _
  simp [World.cell?, h1]
 have hcB : W4.cell? ⟨W3.heap.size + 1, 0, none⟩ = some (.slice B L cb) := by
  have h1 : W4.heap[W3.heap.size + 1]? = some (.cells #[.slice B L cb] 22 (0, 0)) := by
   rw [← hW4]; have := alloc_new (W3.alloc (Obj.cells #[Value.slice A L ca] 22)) (Obj.cells #[Value.slice B L cb] 22); rwa [World.size_alloc] at this
  simp [World.cell?, h1]
 have hbw4 : Below w.heap.size w W4 := by
  refine below_step (below_step (W := w2) ?_ hb3) hb34
  rw [← hw2]; exact below_alloc (below_alloc (Below.refl _ _) _) _
 have hlst : ∀ {D : Option Addr} {dd : Nat → Int}, LstAt w.heap.size b w D L dd → LstAt W4.heap.size b W4 D L dd := fun h h0 => by
  obtain ⟨ba, oa, h1, h2, h3⟩ := h h0
  exact ⟨ba, oa, h1, ⟨by omega, h2.2⟩, fun j hj => (World.cell?_of_block (hbw4.block ba h2.1)).trans (h3 j hj)⟩
 have hacc4 : AccB W4 b m false 0 (List.replicate 16 0) := hb.same (hbw4.block b hblt)
 have hbox0 : W4.heap[w.heap.size]? = some (.cells #[.pointer (some ⟨b, 0, none⟩)] 42 (0, 0)) := (hb34.block _ (by omega)).trans ((hb3.block _ (by omega)).trans hk0)
 have hbox1 : W4.heap[w.heap.size + 1]? = some (.cells #[.nilIface] 25 (0, 0)) := (hb34.block _ (by omega)).trans ((hb3.block _ (by omega)).trans hk1)
 rw [hW4]
 have hl1 := hlst hA
 have hl2 := hlst hB
 clear hlst hA hB hb hk0 hk1 hW4 hw2 hb34 hb3
 refine wpIn_rangeFunc_ownG rfl (by omega) (gf := 47) (lb := #[.pointer (some ⟨W3.heap.size, 0, none⟩), .pointer (some ⟨W3.heap.size + 1, 0, none⟩)]) rfl trivial (enters_of Try.func47 (by kernel_rfl) rfl)
  (places_stops Fence.wide _ trivial rfl (by omega) W3.heap.size (W3.heap.size + 1) W4.heap.size b L ca cb A B da db (by omega) W4 (Nat.le_refl _) ⟨by omega, by omega⟩ ⟨by omega, by omega⟩ hcA hcB hl1 hl2) KpB.trans (kpB_b (Nat.le_refl _)) (Below.refl _ _) (fun _ => rfl)
  (fun pre W => AccB W b m (nx pre) (pre.length : Int) (wx pre) ∧ Chg W4 W b) (fun _ _ _ => False)
  (fun pre V V' row hs hg hr => ?own) (fun _ _ _ _ _ hs _ _ => hs) ⟨by rw [x0.1, x0.2]; exact hacc4, Chg.refl _ _⟩
  (fun x => { tmps := #[.pointer (some ⟨b, 0, none⟩), .slice A L ca, .slice B L cb, .pointer (some ⟨w.heap.size, 0, none⟩), undef, undef, .pointer (some ⟨w.heap.size + 1, 0, none⟩), .int .u64 (da x), .int .u64 (db x), undef, .slice A L ca, .int .i64 L, .slice B L cb, .int .i64 L, .bool false, undef, .slice A L ca, .int .i64 L, .pointer (some ⟨b, 0, none⟩), .agg #[.int .i64 (4 * m), .bool false, .int .i64 0, .slice (some ⟨gS, 0, none⟩) m cS], .int .i64 0, .int .i64 2147483647, .bool (decide ((2147483647 : Int) < (L : Int))), undef, .slice A L ca, .slice B L cb, .func (.func 47) #[] #[.pointer (some ⟨W3.heap.size, 0, none⟩), .pointer (some ⟨W3.heap.size + 1, 0, none⟩)], .int .u64 (da x), .int .u64 (db x), undef, undef, undef, undef, undef, undef, undef], defers := [] }) ?assign ?body ?done ?stop
 case own =>
  have hrow : ∀ k, k < W4.heap.size → some k ≠ row := fun k hk e => by have := (hr k e.symm).1; omega
  refine ⟨hs.1.same (hg.block b hs.1.lt (hrow b (by omega))), ⟨hg.os.trans hs.2.os, hg.tape.trans hs.2.tape, hg.output.trans hs.2.output, Nat.le_trans hs.2.size hg.size, fun k hk hkb => (hg.block k (Nat.lt_of_lt_of_le hk hs.2.size) (hrow k hk)).trans (hs.2.other k hk hkb)⟩⟩
 case assign =>
  intro l x W K hK
  gi_wp2
  exact hK
 case body =>
  rintro l pre x W ⟨hacc, hch⟩ hlen
  have hn1 : 1 ≤ 3 - 1 - 1 := by omega
  have c3 : W.cell? ⟨w.heap.size, 0, none⟩ = some (.pointer (some ⟨b, 0, none⟩)) := by
   have h1 := (hch.other w.heap.size (by omega) (by omega)).trans hbox0
   simp [World.cell?, h1]
  have hput := hx pre x hlen b W hacc
  gi_wp2_with (refine ⟨trivial, ?_⟩; gi_at_call 30; refine (CallsIn.inRound l (callsIn_wide.2 (put_calls b _ _ _ _ hput))).mono ?_; rintro e W' ⟨rfl, ha', hc'⟩; simp only [errW_none])
  refine ⟨⟨hc'.size, fun i o hB hi ho => (hc'.other i (Array.getElem?_eq_some_iff.1 hi).1 (by omega)).trans hi⟩, ⟨hc'.size, fun k hk hkb => hc'.other k (Nat.lt_of_lt_of_le hk hch.size) hkb⟩, ?_, hch.trans hc'⟩
  rw [show (pre ++ [x]).length = pre.length + 1 by simp]
  exact ha'
 case done =>
  rintro D ys W hD rfl ⟨hacc, hch⟩ hK
  have h1 := (hch.other (w.heap.size + 1) (by omega) (by omega)).trans hbox1
  have c5 : W.cell? ⟨w.heap.size + 1, 0, none⟩ = some .nilIface := by simp [World.cell?, h1]
  have f5 : W.frozen? ⟨w.heap.size + 1, 0, none⟩ = false := by simp [World.frozen?, h1]
  gi_wp2
  have hK' := (KeepsOthers.setCell W ⟨w.heap.size + 1, 0, none⟩ .nilIface).same D _ hK rfl
  refine ⟨by simp, .inl ⟨_, _, rfl, run_takeDeferred hK', ?_⟩⟩
  have hc5 := cell_kept (World.cell?_setCell_same' W ⟨w.heap.size + 1, 0, none⟩ .nilIface (by rw [c5]; rfl)) (grownBy_putObj' _ D (.deferred none)) (fun r e => by cases e; exact ⟨_, hK', rfl⟩)
  have hdw : ∀ k, k < W4.heap.size → k ≠ w.heap.size + 1 → ((W.setCell ⟨w.heap.size + 1, 0, none⟩ .nilIface).putObj D (.deferred none)).heap[k]? = W.heap[k]? := fun k hk h => (World.putObj_heap_other (by omega)).trans (Below.heap_setCell W ⟨w.heap.size + 1, 0, none⟩ .nilIface k h)
  refine ⟨errW none, ?_, rfl, ?_, ?_⟩
  ·
   simp [results, Try.f14, go_sem, hc5, errW_none]
  ·
   rw [List.length_range] at hacc
   exact hacc.same (hdw b (by omega) (by omega))
  ·
   exact ⟨hch.os.trans hbw4.os, hch.tape.trans hbw4.tape, hch.output.trans hbw4.output, by have := hch.size; have := hbw4.size; simp; omega, fun k hk hkb => (hdw k (by omega) (by omega)).trans ((hch.other k (by omega) hkb).trans (hbw4.block k hk))⟩
 case stop =>
  rintro D c pre W hD hpre h
  exact h.elim
end Go.Proofs.Ytjlaijaadclghaa.F
