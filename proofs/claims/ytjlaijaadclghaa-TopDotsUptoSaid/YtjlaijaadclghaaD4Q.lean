/- What holds at each round of the law's loop .. -/
import Derived.Test.YtjlaijaadclghaaA15Q
import Derived.Deep.AppendLies
namespace Go.Proofs.Ytjlaijaadclghaa.F
open RowKit YtjlaijaadclghaaW PrintWords PrintLast PrintMore
set_option linter.all false
theorem below_lower {W V : World} {B : Nat} (h : Below W.heap.size W V) (hB : B ≤ W.heap.size) : Below B W V := ⟨h.os, h.tape, h.output, h.size, fun k hk => h.block k (Nat.lt_of_lt_of_le hk hB)⟩
theorem below_then {u v w : World} {B : Nat} (h : Below B u v) (k : Below B v w) : Below B u w := ⟨k.os.trans h.os, k.tape.trans h.tape, k.output.trans h.output, Nat.le_trans h.size k.size, fun i hi => (k.block i hi).trans (h.block i hi)⟩
theorem row_upto {W V : World} {B : Nat} {u : Value} {l : List Int} (r : Kd.R (Kd.int .i64) 3 W B (fun _ => True) u l) (h : Below W.heap.size W V) : Kd.R (Kd.int .i64) 3 V B (fun k => k < W.heap.size) u l :=
 Kd.R_step (Kd.R_mono (Kd.R_bound r) (fun k hk => hk.2.2.1)) (fun k hk _ => h.block k hk)
theorem plusK (k B S1 : Nat) (n0 n1 : Bool) (u0 u1 : Value) (l0 l1 r2 : List Int) (E0 E1 r3 : Int) (r1 : Bool) (W : World) (hB : B ≤ S1) (hS : S1 ≤ W.heap.size) (h0 : Kd.R (Kd.int .i64) 3 W B (fun k => k < S1) u0 l0) (h1 : Kd.R (Kd.int .i64) 3 W S1 (fun _ => True) u1 l1) (h : verniertop_plus.f k n0 l0 E0 n1 l1 E1 = some (r1, r2, r3)) :
  Calls Try.prog 8 #[.agg #[.bool n0, u0, .int .i64 E0], .agg #[.bool n1, u1, .int .i64 E1]] W fun e w' => ∃ v1, e = .returned (.agg #[.bool r1, v1, .int .i64 r3]) ∧ Kd.R (Kd.int .i64) 3 w' B (fun _ => True) v1 r2 ∧ Below B W w' ∧ ∀ j, j < S1 → u0.ownBlock ≠ some j → w'.heap[j]? = W.heap[j]? := by
 obtain ⟨w0, hw0⟩ : ∃ w0 : World, w0 = { W with heap := W.heap.extract 0 B } := ⟨_, rfl⟩
 have hs0 : w0.heap.size = B := by rw [hw0]; show (W.heap.extract 0 B).size = B; rw [Array.size_extract]; omega
 have hb : Below w0.heap.size w0 W := by
  refine ⟨by rw [hw0], by rw [hw0], by rw [hw0], by rw [hs0]; omega, fun i hi => ?_⟩
  rw [hs0] at hi
  rw [hw0]
  show W.heap[i]? = (W.heap.extract 0 B)[i]?
  rw [Array.getElem?_extract, if_pos (by omega), Nat.zero_add]
 have q0 : Kd.R (Kd.int .i64) 3 W w0.heap.size (fun k => u0.ownBlock = some k) u0 l0 := by rw [hs0]; exact ⟨fun k e => e, h0.2⟩
 have q1 : Kd.R (Kd.int .i64) 3 W w0.heap.size (fun k => S1 ≤ k) u1 l1 := by
  rw [hs0]
  have := Kd.R_bound h1
  exact Kd.R_mono (Kd.R_lower this hB) (fun k hk => hk.2.1)
 have hu : ∀ k, u0.ownBlock = some k → k < S1 := fun k e => h0.1 k e
 refine (verniertop_plus.calls k n0 _ u0 l0 E0 n1 _ u1 l1 E1 r1 r2 r3 w0 W hb q0 (fun k a b => by have := hu k a; omega) q1 (fun k a b => by have := hu k b; omega) h).mono ?_
 rintro e w' ⟨v1, he, hr, hb', hk⟩
 refine ⟨v1, he, ?_, ?_, fun j hj hn => hk.2 j (by omega) (fun c => c.elim hn (fun c => by omega))⟩
 ·
  rw [hs0] at hr; exact Kd.R_mono hr (fun _ _ => trivial)
 ·
  refine ⟨hb'.os.trans hb.os.symm, hb'.tape.trans hb.tape.symm, hb'.output.trans hb.output.symm, hk.1, fun i hi => ?_⟩
  rw [hs0] at hb' hb; exact (hb'.block i hi).trans (hb.block i hi).symm
theorem own_same {w V : World} {base : Nat} {e : TypeId} {size n : Nat} {v : Value} {xs : List Value} (h : w.ownsRow base e size v n xs) (k : ∀ g, v.ownBlock = some g → V.heap[g]? = w.heap[g]?) : V.ownsRow base e size v n xs := by
 refine ⟨h.1, ?_⟩
 rcases h.2 with h2 | ⟨g, cap, cur, rfl, a, b, c⟩
 ·
  exact .inl h2
 ·
  exact .inr ⟨g, cap, cur, rfl, a, (k g rfl).trans b, c⟩
theorem own_at {w : World} {base : Nat} {e : TypeId} {size n : Nat} {v : Value} {xs : List Value} (h : w.ownsRow base e size v n xs) {g : Nat} (hg : v.ownBlock = some g) : base ≤ g ∧ g < w.heap.size ∧ ∃ cur, w.heap[g]? = some (.cells cur e (0, 0)) := by
 rcases h.2 with ⟨rfl, _⟩ | ⟨g', cap, cur, rfl, a, b, c⟩
 ·
  cases hg
 ·
  cases hg
  exact ⟨a, (Array.getElem?_eq_some_iff.1 b).1, cur, b⟩
theorem own_slice {w : World} {base : Nat} {e : TypeId} {size n : Nat} {v : Value} {xs : List Value} (h : w.ownsRow base e size v n xs) : ∃ C cc, v = .slice C n cc := by
 rcases h.2 with ⟨rfl, rfl⟩ | ⟨g', cap, cur, rfl, a, b, c⟩
 ·
  exact ⟨_, _, rfl⟩
 ·
  exact ⟨_, _, rfl⟩
theorem row_ne {w : World} {base B : Nat} {u : Value} {l : List Int} (r : Kd.R (Kd.int .i64) 3 w B (fun _ => True) u l) {g : Nat} {cur : Array Value} (h : w.heap[g]? = some (.cells cur 23 (0, 0))) : u.ownBlock ≠ some g := by
 have h2 : Kd.R (Kd.int .i64) 3 w B (fun k => k ≠ g) u l := Kd.R_mono (Kd.R_types r h (fun q hq => by
  rcases List.mem_cons.mp hq with rfl | hq
  ·
   decide
  ·
   cases hq)) (fun k hk => hk.2)
 intro e
 exact h2.1 g e rfl
theorem row_neN {w : World} {base B : Nat} {u : Value} {l : List Int} (r : Kd.R (Kd.int .i64) 3 w B (fun _ => True) u l) {g : Nat} {cur : Array Value} (h : w.heap[g]? = some (.cells cur 35 (0, 0))) : u.ownBlock ≠ some g := by
 have h2 : Kd.R (Kd.int .i64) 3 w B (fun k => k ≠ g) u l := Kd.R_mono (Kd.R_types r h (fun q hq => by
  rcases List.mem_cons.mp hq with rfl | hq
  ·
   decide
  ·
   cases hq)) (fun k hk => hk.2)
 intro e
 exact h2.1 g e rfl
abbrev HeldY (gA gB : Nat) (ka : Int) (na : Bool) (sa fa kb : Int) (nb : Bool) (sb fb : Int) (W : World) : Prop :=
 W.cell? ⟨gA, 0, none⟩ = some (.int .i64 ka) ∧ W.cell? ⟨gA, 1, none⟩ = some (.bool na) ∧ W.cell? ⟨gA, 2, none⟩ = some (.int .i64 sa) ∧ W.cell? ⟨gA, 3, none⟩ = some (.int .u64 fa) ∧ W.cell? ⟨gB, 0, none⟩ = some (.int .i64 kb) ∧ W.cell? ⟨gB, 1, none⟩ = some (.bool nb) ∧ W.cell? ⟨gB, 2, none⟩ = some (.int .i64 sb) ∧ W.cell? ⟨gB, 3, none⟩ = some (.int .u64 fb) ∧
 Aside0 (W.heap[gA]? = some (.cells #[.int .i64 ka, .bool na, .int .i64 sa, .int .u64 fa] 35 (0, 0)) ∧ W.heap[gB]? = some (.cells #[.int .i64 kb, .bool nb, .int .i64 sb, .int .u64 fb] 35 (0, 0)))
section
variable {gA gB : Nat} {ka : Int} {na : Bool} {sa fa kb : Int} {nb : Bool} {sb fb : Int} {W V : World}
theorem HeldY.of (a : W.heap[gA]? = some (.cells #[.int .i64 ka, .bool na, .int .i64 sa, .int .u64 fa] 35 (0, 0))) (b : W.heap[gB]? = some (.cells #[.int .i64 kb, .bool nb, .int .i64 sb, .int .u64 fb] 35 (0, 0))) : HeldY gA gB ka na sa fa kb nb sb fb W := by
 obtain ⟨a0, a1, a2, a3, _⟩ := cl4 a
 obtain ⟨b0, b1, b2, b3, _⟩ := cl4 b
 exact ⟨a0, a1, a2, a3, b0, b1, b2, b3, ⟨⟨a, b⟩⟩⟩
theorem HeldY.same (h : HeldY gA gB ka na sa fa kb nb sb fb W) (ea : V.heap[gA]? = W.heap[gA]?) (eb : V.heap[gB]? = W.heap[gB]?) : HeldY gA gB ka na sa fa kb nb sb fb V :=
 .of (ea.trans h.2.2.2.2.2.2.2.2.out.1) (eb.trans h.2.2.2.2.2.2.2.2.out.2)
theorem HeldY.via (u : Below W.heap.size W V) (h : HeldY gA gB ka na sa fa kb nb sb fb W) : HeldY gA gB ka na sa fa kb nb sb fb V :=
 h.same (u.block _ (Array.getElem?_eq_some_iff.1 h.2.2.2.2.2.2.2.2.out.1).1) (u.block _ (Array.getElem?_eq_some_iff.1 h.2.2.2.2.2.2.2.2.out.2).1)
theorem HeldY.set {p o : Nat} {v : Value} (h : HeldY gA gB ka na sa fa kb nb sb fb W) (hp : gA ≠ p ∧ gB ≠ p) : HeldY gA gB ka na sa fa kb nb sb fb (W.setCell ⟨p, o, none⟩ v) :=
 h.same (Below.heap_setCell W ⟨p, o, none⟩ v gA hp.1) (Below.heap_setCell W ⟨p, o, none⟩ v gB hp.2)
end
structure InvD (w : World) (g B : Nat) (xs ys : List Value) (vn : Bool) (vl : List Int) (vE : Int) (u cv dv : Value) (W : World) : Prop where
 below : Below w.heap.size w W
 box : W.heap[g]? = some (.cells #[.bool vn, u, .int .i64 vE] 32 (0, 0))
 row : Kd.R (Kd.int .i64) 3 W B (fun _ => True) u vl
 rc : W.ownsRow B 23 1 cv xs.length xs
 rd : W.ownsRow B 23 1 dv ys.length ys
 ne : ∀ k, cv.ownBlock = some k → dv.ownBlock ≠ some k
 lt : w.heap.size ≤ g ∧ g < B ∧ B ≤ W.heap.size
section
variable {w : World} {g B : Nat} {xs ys : List Value} {vn : Bool} {vl : List Int} {vE : Int} {u cv dv : Value} {W V : World}
theorem InvD.step (h : InvD w g B xs ys vn vl vE u cv dv W) (c : Below W.heap.size W V) : InvD w g B xs ys vn vl vE u cv dv V := by
 obtain ⟨h0, h1, h2, h3, h4, h5, h6⟩ := h
 have hs := c.size
 exact ⟨below_step h0 c, (c.block _ (by omega)).trans h1, Kd.R_below h2 c, own_same h3 (fun k hk => c.block k (own_at h3 hk).2.1), own_same h4 (fun k hk => c.block k (own_at h4 hk).2.1), h5, by omega⟩
theorem InvD.drewN (h : InvD w g B xs ys vn vl vE u cv dv W) (k : Nat) : InvD w g B xs ys vn vl vE u cv dv (W.drewN k) := h.step (pw_below_drewN (Below.refl _ _) k)
theorem rowK {B : Nat} {u : Value} {vl : List Int} (h : Kd.R (Kd.int .i64) 3 W B (fun _ => True) u vl) (e : ∀ k, k < W.heap.size → u.ownBlock = some k → V.heap[k]? = W.heap[k]?) : Kd.R (Kd.int .i64) 3 V B (fun _ => True) u vl := by
 have h0 : Kd.R (Kd.int .i64) 3 W B (fun k => u.ownBlock = some k) u vl := ⟨fun k e => e, h.2⟩
 exact Kd.R_mono (Kd.R_step h0 (w1 := V) (fun k hk hlt => e k hlt hk)) (fun _ _ => trivial)
theorem InvD.c {x : Value} {v : Value} (h : InvD w g B xs ys vn vl vE u cv dv W) (o : V.ownsRow B 23 1 v (xs.length + 1) (xs ++ [x])) (k : W.grownBy V cv.ownBlock) (a : v.ownBlock = cv.ownBlock ∨ v.ownBlock = some W.heap.size) : InvD w g B (xs ++ [x]) ys vn vl vE u v dv V := by
 obtain ⟨h0, h1, h2, h3, h4, h5, h6⟩ := h
 have hs := k.size
 have hn : some g ≠ cv.ownBlock := fun e => by have := (own_at h3 e.symm).1; omega
 refine ⟨h0.trans ((?_ : Below w.heap.size W V)), (k.block g (by omega) hn).trans h1, rowK h2 (fun j hj e => k.block j hj (fun e2 => ?_)), by rw [List.length_append]; exact o, own_same h4 (fun j hj => k.block j (own_at h4 hj).2.1 (fun e => h5 j e.symm hj)), fun j hj hd => ?_, by omega⟩
 ·
  exact ⟨k.os, k.tape, k.output, hs, fun j hj => k.block j (Nat.lt_of_lt_of_le hj h0.size) (fun e => by have := (own_at h3 e.symm).1; omega)⟩
 ·
  obtain ⟨_, _, cur, hc⟩ := own_at h3 e2.symm
  exact row_ne (base := 0) h2 hc e
 ·
  rcases a with a | a
  ·
   exact h5 j (a ▸ hj) hd
  ·
   have := (own_at h4 hd).2.1
   rw [a] at hj
   cases hj
   omega
theorem InvD.turn (h : InvD w g B xs ys vn vl vE u cv dv W) : InvD w g B ys xs vn vl vE u dv cv W := ⟨h.below, h.box, h.row, h.rd, h.rc, fun k a b => h.ne k b a, h.lt⟩
theorem InvD.d {x : Value} {v : Value} (h : InvD w g B xs ys vn vl vE u cv dv W) (o : V.ownsRow B 23 1 v (ys.length + 1) (ys ++ [x])) (k : W.grownBy V dv.ownBlock) (a : v.ownBlock = dv.ownBlock ∨ v.ownBlock = some W.heap.size) : InvD w g B xs (ys ++ [x]) vn vl vE u cv v V := (h.turn.c o k a).turn
theorem InvD.v {n' : Bool} {l' : List Int} {E' : Int} {u' : Value} {V1 : World} (h : InvD w g B xs ys vn vl vE u cv dv W) (c : Below B W V1) (k : ∀ j, j < W.heap.size → u.ownBlock ≠ some j → V1.heap[j]? = W.heap[j]?) (r : Kd.R (Kd.int .i64) 3 V1 B (fun _ => True) u' l') (c2 : Chg V1 V g) (b : V.heap[g]? = some (.cells #[.bool n', u', .int .i64 E'] 32 (0, 0))) : InvD w g B xs ys n' l' E' u' cv dv V := by
 obtain ⟨h0, h1, h2, h3, h4, h5, h6⟩ := h
 have hs := c.size
 have hs2 := c2.size
 have e : ∀ k, k < B → k ≠ g → V.heap[k]? = W.heap[k]? := fun k hk hg => (c2.other k (by omega) hg).trans (c.block k hk)
 have o : ∀ {v : Value} {zs : List Value}, W.ownsRow B 23 1 v zs.length zs → V.ownsRow B 23 1 v zs.length zs := fun hv => own_same hv (fun j hj => by
  obtain ⟨a1, a2, cur, a3⟩ := own_at hv hj
  exact (c2.other j (by omega) (by omega)).trans (k j a2 (row_ne (base := 0) h2 a3)))
 refine ⟨⟨c2.os.trans (c.os.trans h0.os), c2.tape.trans (c.tape.trans h0.tape), c2.output.trans (c.output.trans h0.output), ?_, fun k hk => (e k (by omega) (by omega)).trans (h0.block k hk)⟩, b, rowK r (fun k hk e => c2.other k hk (fun z => ?_)), o h3, o h4, h5, by omega⟩
 ·
  have := h0.size
  omega
 ·
  have := (Kd.R_bound r).1 k e
  have := this.2.1
  omega
end
end Go.Proofs.Ytjlaijaadclghaa.F
