/- Functions of the given program as plain Lean functions, and for each a proof that the program's call comes to just these answers; no further conditions. (Written by a program of this repo out of the translation.) -/
import Derived.Test.YtogldofffdiflaaF0b
import Derived.Test.YtogldofffdiflaaF1b
import Derived.Test.YtogldofffdiflaaF6b
import Derived.Test.YtogldofffdiflaaF8b
import Derived.Test.YtogldofffdiflaaF9b
import Derived.Test.YtogldofffdiflaaF10b
namespace Go.Proofs.Ytogldofffdiflaa.F
open Go.RowKit Go.Proofs.YtogldofffdiflaaW.PrintWords Go.Proofs.YtogldofffdiflaaW.PrintLast Go.Proofs.YtogldofffdiflaaW.PrintMore
attribute [local go_sem high] xor_u64 xor_u32 eqErr25 neErr25 eqErrL25 neErrL25
attribute [local go_sem] max2_int min2_int max_two min_two max_three min_three max_four min_four   -- for this text's walks alone
set_option linter.unusedVariables false
set_option linter.unusedSimpArgs false
attribute [local go_sem high] eqA33
/-- Behind an append the old slice still reads as it did: in place the new cells lie behind it, and a new row leaves the old block alone. -/
theorem append_keep {P : Program} {w w' : World} {base : Nat} {t ty e : TypeId} {i : TypeInfo} {z : Value} (ht : P.underlying t = some (.slice e)) (hi : P.info? e = some i) (hz : i.zero = some z)
  {v v' : Value} {n : Nat} {xs : List Value} (hown : w.ownsRow base e i.size v n xs)
  {a : Addr} {m c : Nat} {news : List Value} (hl : news.length = m * i.size) (hnews : ∀ j u, news[j]? = some u → w.cell? (a.add j) = some u) (h1 : ∀ u ∈ news, u.oneCell' = true)
  (h63 : n + m ≤ maxLen) (hbytes : (n + m) * i.bytes ≤ 140737488355328)
  (hr : (Builtin.append_ #[t, t] ty #[v, .slice (some a) m c]).run P w = .ok v' w') : w'.ownsRow base e i.size v n xs := by
 have hsmall : n + m ≤ 9223372036854775807 := by simp only [maxLen] at h63; omega
 rcases hown.2 with ⟨hv, hn⟩ | ⟨g, cap, cur, rfl, hbg, hg, hnc, hcm, hcs, htake⟩
 ·
  exact ⟨hown.1, .inl ⟨hv, hn⟩⟩
 ·
  have hlt : g < w.heap.size := (Array.getElem?_eq_some_iff.1 hg).1
  by_cases hroom : n + m ≤ cap
  ·
   have hfit : n * i.size + news.length ≤ cur.size := by rw [hl, hcs, ← Nat.add_mul]; exact Nat.mul_le_mul_right _ hroom
   have h2 := run_append_room (P := P) w t ty e i ht hi g n cap cur hg a m c news hl hnews h1 hroom hfit
   have h3 := hr.symm.trans h2
   injection h3 with _ hw
   subst hw
   refine ⟨hown.1, .inr ⟨g, cap, _, rfl, hbg, setRow_heap w g cur _ e _ hg, hnc, hcm, ?_, ?_⟩⟩
   ·
    simp only [List.size_toArray, List.length_append, List.length_take, List.length_drop, Array.length_toList]
    omega
   ·
    have hx : (cur.toList.take (n * i.size)).length = n * i.size := by rw [htake]; exact hown.1
    rw [List.append_assoc]
    rw [List.take_append_of_le_length (Nat.le_of_eq hx.symm), List.take_of_length_le (Nat.le_of_eq hx)]
    exact htake
  ·
   have holds : ∀ j u, xs[j]? = some u → w.cell? ((⟨g, 0, none⟩ : Addr).add j) = some u := hown.cells (g := g) rfl
   have h2 := run_append_grow (P := P) w t ty e i z ht hi hz ⟨g, 0, none⟩ n cap xs hown.1 holds a m c news hl hnews (by omega) (by omega) (growslice_fits (by omega) hbytes)
   have h3 := hr.symm.trans h2
   injection h3 with _ hw
   subst hw
   exact ⟨hown.1, .inr ⟨g, cap, cur, rfl, hbg, (heap_alloc_old w.drew _ hlt).trans hg, hnc, hcm, hcs, htake⟩⟩
/-- The step of an append of one number, with the old slice kept readable. -/
theorem R_append_keep {P : Program} {ops : Array Oper} {rest : List Oper} {o : Oper} {a : Act} {Q : Exit → Act → World → Prop} {kd : IntKind} {w0 W : World} (base : Nat) (hgd : o.guard = none) (s x : Operand) (t e : TypeId) (z : Value) (bytes : Nat)
  (ho : o.op = .call { callee := .builtin .append, args := #[s, x], argTypes := #[t, t] })
  (ht : P.underlying t = some (.slice e)) (hinfo : (P.info? e).map (fun i => (i.zero, i.size, i.bytes)) = some (some z, (Kd.int kd).sz, bytes)) (hz : z.cells.size = (Kd.int kd).sz) (hs0 : 0 < (Kd.int kd).sz) (hb0 : 0 < bytes)
  (v : Value) (xs : List Int) (p : Int) (cs : List Value) (ok okp : Nat → Prop) (hs : a.eval s = v) (hx : a.eval x = .slice (some ⟨W.heap.size, 0, none⟩) 1 1) (hp : (Kd.int kd).M W base okp p cs) (hokp : ∀ k, okp k → ok k ∧ some k ≠ v.ownBlock) (hfresh : ∀ k, W.heap.size ≤ k → ok k)
  (HO : (Kd.int kd).R e W base ok v xs) (HB : Below base w0 W) (hbase : base ≤ W.heap.size) (hl : (xs.length + 1) * bytes ≤ 140737488355328)
  (h : ∀ v1 w1, (Kd.int kd).R e w1 base ok v1 (xs ++ [p]) → Below base w0 w1 → W.grownBy w1 v.ownBlock → (v1.ownBlock = v.ownBlock ∨ ∃ b, v1.ownBlock = some b ∧ W.heap.size ≤ b) → (Kd.int kd).R e w1 base ok v xs → wpList P ops Q rest (a.put o.dst v1) w1) :
  wpList P ops Q (o :: rest) a (W.alloc (.cells cs.toArray e)) := by
 have hok0 := HO.1
 have HE := Kd.own_of_R HO
 obtain ⟨h0, inner, hown, hr⟩ := HO
 obtain ⟨i0, hi, hzz⟩ := Option.map_eq_some_iff.1 hinfo
 simp only [Prod.mk.injEq] at hzz
 obtain ⟨hz0, hz1, hz2⟩ := hzz
 have hlen : xs.length + 1 ≤ 140737488355328 := Nat.le_trans (Nat.le_mul_of_pos_right _ hb0) hl
 have hnews : ∀ j u, cs[j]? = some u → (W.alloc (.cells cs.toArray e)).cell? ((⟨W.heap.size, 0, none⟩ : Addr).add j) = some u := by simpa using World.news_of_block (cs := cs.toArray) (t := e) (fr := (0, 0)) (heap_alloc_new W (.cells cs.toArray e))
 have hcl : cs.length = (Kd.int kd).sz := (Kd.int kd).K_len ((Kd.int kd).K_of_M hp)
 have hone := (Kd.int kd).K_one ((Kd.int kd).K_of_M hp)
 have hmx : xs.length + 1 ≤ maxLen := by simp only [maxLen]; omega
 refine wpList_plain hgd fun K hK => ?_
 obtain ⟨v1, w1, hrun, h2, hg, _, hat⟩ := run_append_own_at (P := P) (W.alloc (.cells cs.toArray e)) base t o.type e i0 z (Kd.int kd).sz bytes ht hi hz0 hz1 hz2 hz hs0 v xs.length inner (hown.alloc _) ⟨W.heap.size, 0, none⟩ 1 1 cs (by rw [hcl]; simp) hnews hone hmx hl (by simp; omega)
 have hk : w1.ownsRow base e i0.size v xs.length (encs (Value.int kd) xs) := append_keep (P := P) (i := i0) ht hi hz0 (by rw [hz1]; exact HE.alloc _) (by rw [hcl, hz1]; simp) hnews hone hmx (by rw [hz2]; exact hl) hrun
 rw [hz1] at hk
 unfold Oper.wp execOp
 simp only [ho, resolve, invoke, builtin, Sem.run_bind, Sem.run_pure, Result.andThen_ok, List.map_toArray, List.map_cons, List.map_nil, hs, hx, hrun]
 have hg' : W.grownBy w1 v.ownBlock := World.grownBy.trans (World.grownBy_alloc W _ _) hg
 have hat' : v1.ownBlock = v.ownBlock ∨ ∃ b, v1.ownBlock = some b ∧ W.heap.size ≤ b := by
  rcases hat with hat | hat
  ·
   exact .inl hat
  ·
   exact .inr ⟨_, hat, by simp⟩
 exact hK _ _ (h v1 w1 (Kd.R_appended h0 hr hp hokp hfresh h2 hg' hat') ((HB.alloc hbase _).grown hg (by simp; omega) (own_base hown)) hg' hat' (Kd.R_of_own hk hok0))
mutual
def vernierlaw05_ShapeOfs.j0 : Nat → List Int → Bool → Option (Bool)
 | 0, _, _ => none
 | k + 1, x8, x41 => if x41 = true then (some false) else (vernierlaw05_ShapeOfs.l0 k x8 0)
def vernierlaw05_ShapeOfs.l0 : Nat → List Int → Int → Option (Bool)
 | 0, _, _ => none
 | k + 1, x8, x9 => if x9 < (x8.length : Int) then (if 0 ≤ x9 then (vernierlaw05_ShapeOfs.l0 k (x8.set (x9 : Int).toNat (-5)) (wrap64 (x9 + 1))) else (none)) else ((shape_Widths.f).bind fun t176 => (if x8.length < 17592186044416 then ((some (x8 ++ [(-6)] : List Int)).bind fun y179 => (if (t176.length : Int) = 4 then (if 0 < (t176.length : Int) then (if (rd t176 0) = 8 then (if 1 < (t176.length : Int) then (if (rd t176 1) = 16 then (if 2 < (t176.length : Int) then (if (rd t176 2) = 32 then (if 3 < (t176.length : Int) then (if (rd t176 3) = 64 then (if 4 < (y179.length : Int) then (if (rd y179 4) = (-6) then (if 0 < (x8.length : Int) then (some ((rd x8 0) == (-5))) else (none)) else (some false)) else (none)) else (some false)) else (none)) else (some false)) else (none)) else (some false)) else (none)) else (some false)) else (none)) else (some false))) else (none)))
end
def vernierlaw05_ShapeOfs.f (k : Nat) (a0 : Int) : Option (Bool) := (vernierlaw05_up.f).bind fun t156 => ((shape_Of.f a0).bind fun bt157 => ((vernierref05_Of.f k a0).bind fun bt164 => ((shape_Widths.f).bind fun t171 => (if t156 = true then (if (t171.length : Int) = 4 then (if (!(bt157.1 == bt164.1) || (!(bt157.2.1 == bt164.2.1) || (!(bt157.2.2.1 == bt164.2.2.1) || (!(bt157.2.2.2.1 == bt164.2.2.2.1) || (!(bt157.2.2.2.2.1 == bt164.2.2.2.2.1)))))) = true then (vernierlaw05_ShapeOfs.j0 k t171 true) else ((vernierlaw00_Code.f bt157.2.2.2.2.2).bind fun t174 => (vernierlaw05_ShapeOfs.j0 k t171 (t174 != bt164.2.2.2.2.2)))) else (vernierlaw05_ShapeOfs.j0 k t171 true)) else (vernierlaw05_ShapeOfs.j0 k t171 true)))))
set_option maxHeartbeats 8000000 in
set_option maxRecDepth 100000 in
theorem vernierlaw05_ShapeOfs.calls (k : Nat) (a0 : Int) (r : Bool) (w : World) (h : vernierlaw05_ShapeOfs.f k a0 = some r) :
  Calls Try.prog 4 #[.int .i64 a0] w fun e w' => e = .returned (.bool r) ∧ Below w.heap.size w w' := by
 have hu33 := Try.underlying33
 have HB := Aside0.mk (Below.refl w.heap.size w)
 have H : ((vernierlaw05_up.f).bind fun t156 => ((shape_Of.f a0).bind fun bt157 => ((vernierref05_Of.f k a0).bind fun bt164 => ((shape_Widths.f).bind fun t171 => (if t156 = true then (if (t171.length : Int) = 4 then (if (!(bt157.1 == bt164.1) || (!(bt157.2.1 == bt164.2.1) || (!(bt157.2.2.1 == bt164.2.2.1) || (!(bt157.2.2.2.1 == bt164.2.2.2.1) || (!(bt157.2.2.2.2.1 == bt164.2.2.2.2.1)))))) = true then (vernierlaw05_ShapeOfs.j0 k t171 true) else ((vernierlaw00_Code.f bt157.2.2.2.2.2).bind fun t174 => (vernierlaw05_ShapeOfs.j0 k t171 (t174 != bt164.2.2.2.2.2)))) else (vernierlaw05_ShapeOfs.j0 k t171 true)) else (vernierlaw05_ShapeOfs.j0 k t171 true)))))) = some r := h
 clear h
 replace H := Option.bind_eq_some_iff.mp H
 obtain ⟨t156, A20, H⟩ := H
 try dsimp -simprocs only at H
 have A2 := Aside0.mk A20
 clear A20
 replace H := Option.bind_eq_some_iff.mp H
 obtain ⟨⟨t157, t158, t159, t160, t161, t162⟩, A30, H⟩ := H
 try dsimp -simprocs only at H
 have A3 := Aside0.mk A30
 clear A30
 replace H := Option.bind_eq_some_iff.mp H
 obtain ⟨⟨t164, t165, t166, t167, t168, t169⟩, A40, H⟩ := H
 try dsimp -simprocs only at H
 have A4 := Aside0.mk A40
 clear A40
 replace H := Option.bind_eq_some_iff.mp H
 obtain ⟨t171, A50, H⟩ := H
 try dsimp -simprocs only at H
 have A5 := Aside0.mk A50
 clear A50
 have HC6 := Aside0.mk H
 clear H
 go_enter Try.func4, Try.ntmps4
 go_upto_region 5 with (first | ((with_reducible refine gX_ 9 12 rfl rfl ?_); refine goesY_ (some 12) Try.func9 #[] ?_; (with_reducible refine (vernierlaw05_up.calls  t156 _ A2.out).mono ?_); rintro e w7 ⟨rfl, hb⟩; refine ⟨_, rfl, ?_⟩; replace HB := Aside0.mk (bS3 HB.out hb); (try clear hb); (try clear hk)) | ((with_reducible refine gX_ 10 15 rfl rfl ?_); refine goesY_ (some 15) Try.func10 #[.int .i64 a0] ?_; (with_reducible refine (shape_Of.calls a0 t157 t158 t159 t160 t161 t162 _ A3.out).mono ?_); rintro e w8 ⟨rfl, hb⟩; refine ⟨_, rfl, ?_⟩; replace HB := Aside0.mk (bS3 HB.out hb); (try clear hb); (try clear hk); (try simp only [errW_none, errW_some])) | ((with_reducible refine gD (N := 4) rfl ?_); (try (refine gate_guard (by rfl) ?_; dsimp only)); refine bE3 4 #[.int .i64 0, .int .u64 0, .int .u64 0, .int .u64 0, .int .i64 0] 33 ?hr ?_; (case hr => first | (go_simp; done) | (go_simp; rfl)); intro gb163 hg w9 hbox hb; have BK163 := Aside0.mk (hbox); have GW163 := Aside0.mk ((bZ3 hg HB.out)); have GE163 := Aside0.mk ((bZ3 hg HB.out)); replace HB := Aside0.mk (bS3 HB.out hb); clear hb hbox hg; obtain ⟨hcz10_0, hcz10_1, hcz10_2, hcz10_3, hcz10_4, hfz10_0, hfz10_1, hfz10_2, hfz10_3, hfz10_4⟩ := cl5 BK163.out) | ((with_reducible refine gX_ 11 20 rfl rfl ?_); refine goesY_ (some 20) Try.func11 #[.int .i64 a0] ?_; (with_reducible refine (vernierref05_Of.calls k a0 t164 t165 t166 t167 t168 t169 _ A4.out).mono ?_); rintro e w11 ⟨rfl, hb⟩; refine ⟨_, rfl, ?_⟩; replace BK163 := Aside0.mk (bB (g := gb163) (o := .cells #[.int .i64 t157, .int .u64 t158, .int .u64 t159, .int .u64 t160, .int .i64 t161] 33 (0, 0)) (bQ3 BK163.out) hb); replace HB := Aside0.mk (bS3 HB.out hb); (try clear hb); (try clear hk)) | ((with_reducible refine gD (N := 6) rfl ?_); (try (refine gate_guard (by rfl) ?_; dsimp only)); refine bE3 6 #[.int .i64 0, .int .u64 0, .int .u64 0, .int .u64 0, .int .i64 0] 33 ?hr ?_; (case hr => first | (go_simp; done) | (go_simp; rfl)); intro gb170 hg w12 hbox hb; have BK170 := Aside0.mk (hbox); have GW170 := Aside0.mk ((bZ3 hg HB.out)); have GE170 := Aside0.mk ((bZ3 hg HB.out)); replace HB := Aside0.mk (bS3 HB.out hb); have NB163_170 := Aside0.mk ((bL3 hg BK163.out)); have NB170_163 := Aside0.mk ((bG3 hg BK163.out)); replace BK163 := Aside0.mk (bB3 BK163.out hb); clear hb hbox hg; have hnb13 := NB170_163.out; have hnc13 := NB163_170.out; obtain ⟨hcz14_0, hcz14_1, hcz14_2, hcz14_3, hcz14_4, hfz14_0, hfz14_1, hfz14_2, hfz14_3, hfz14_4⟩ := cl5 BK170.out) | ((with_reducible refine gX_ 12 23 rfl rfl ?_); refine goesY_ (some 23) Try.func12 #[] ?_; (with_reducible refine (shape_Widths.calls  t171 _ A5.out).mono ?_); rintro e w15 ⟨v172, rfl, ho0, hb⟩; refine ⟨_, rfl, ?_⟩; have HO173 := Aside0.mk (Kd.R_lower ho0 (bZ (bR3 HB.out))); replace BK163 := Aside0.mk (bB (g := gb163) (o := .cells #[.int .i64 t157, .int .u64 t158, .int .u64 t159, .int .u64 t160, .int .i64 t161] 33 (0, 0)) (bQ3 BK163.out) hb); replace BK170 := Aside0.mk (bB (g := gb170) (o := .cells #[.int .i64 t164, .int .u64 t165, .int .u64 t166, .int .u64 t167, .int .i64 t168] 33 (0, 0)) (bQ3 BK170.out) hb); replace HB := Aside0.mk (bS3 HB.out hb); (try clear hb); (try clear hk); (try clear ho0)))
 (try simp only [Act.put, lS_, lZ_, lC_])
 go_cut [41] (fun v41 wc => ∃ (kq : Nat) (x41_5 : Bool), v41 = .bool x41_5 ∧ Aside0 (vernierlaw05_ShapeOfs.j0 kq t171 x41_5 = some r) ∧ Aside0 (kq ≤ k) ∧ Aside0 (Kd.R (Kd.int .i64) 3 wc w.heap.size (fun _ => True) v172 t171) ∧ Aside0 (wc.heap[gb163]? = some (.cells #[.int .i64 t157, .int .u64 t158, .int .u64 t159, .int .u64 t160, .int .i64 t161] 33 (0, 0))) ∧ Aside0 (wc.heap[gb170]? = some (.cells #[.int .i64 t164, .int .u64 t165, .int .u64 t166, .int .u64 t167, .int .i64 t168] 33 (0, 0))) ∧ Aside0 (Below w.heap.size w wc))
 case first =>
  have H := HC6.out
  clear HC6
  by_cases c16 : t156 = true
  ·
   subst c16
   rw [if_pos rfl] at H
   by_cases c17 : (t171.length : Int) = 4
   ·
    rw [if_pos c17] at H
    have c17b0 : ((t171.length : Int) == 4) = true := beq_iff_eq.mpr c17
    have c17b1 : ((t171.length : Int) != 4) = false := bne_eq_false_iff_eq.mpr c17
    clear c17
    (first | rw [c17b0] | (simp only [i64_w, i32_w]; rw [c17b0]) | skip)
    by_cases c18 : (!(t157 == t164) || (!(t158 == t165) || (!(t159 == t166) || (!(t160 == t167) || (!(t161 == t168)))))) = true
    ·
     rw [if_pos c18] at H
     have c18b0 : (!(t157 == t164) || (!(t158 == t165) || (!(t159 == t166) || (!(t160 == t167) || (!(t161 == t168)))))) = true := c18
     clear c18
     have H' := Aside0.mk H
     clear H
     obtain ⟨Ao19, co19, eo19⟩ := Kd.R_slice HO173.out
     subst eo19
     have hnb20 := NB163_170.out
     have hnc20 := NB170_163.out
     obtain ⟨hcz21_0, hcz21_1, hcz21_2, hcz21_3, hcz21_4, hfz21_0, hfz21_1, hfz21_2, hfz21_3, hfz21_4⟩ := cl5 BK163.out
     obtain ⟨hcz22_0, hcz22_1, hcz22_2, hcz22_3, hcz22_4, hfz22_0, hfz22_1, hfz22_2, hfz22_3, hfz22_4⟩ := cl5 BK170.out
     go_wp2
     go_meet
     case rel => exact ⟨_, (true), (by first | rfl | (simp; done) | (simp [*]; done)), H', ⟨by first | omega | exact Nat.le_refl _⟩, ⟨by (with_reducible repeat (first | apply Kd.R_alloc | apply Kd.R_drewN | apply Kd.R_drew)); exact HO173.out⟩, ⟨bK3 BK163.out⟩, ⟨bK3 BK170.out⟩, ⟨bR3 HB.out⟩⟩
    ·
     rw [if_neg c18] at H
     have c18b0 : (!(t157 == t164) || (!(t158 == t165) || (!(t159 == t166) || (!(t160 == t167) || (!(t161 == t168)))))) = false := by simpa using c18
     clear c18
     replace H := Option.bind_eq_some_iff.mp H
     obtain ⟨t174, A230, H⟩ := H
     try dsimp -simprocs only at H
     have A23 := Aside0.mk A230
     clear A230
     have H' := Aside0.mk H
     clear H
     obtain ⟨Ao24, co24, eo24⟩ := Kd.R_slice HO173.out
     subst eo24
     have hnb25 := NB163_170.out
     have hnc25 := NB170_163.out
     obtain ⟨hcz26_0, hcz26_1, hcz26_2, hcz26_3, hcz26_4, hfz26_0, hfz26_1, hfz26_2, hfz26_3, hfz26_4⟩ := cl5 BK163.out
     obtain ⟨hcz27_0, hcz27_1, hcz27_2, hcz27_3, hcz27_4, hfz27_0, hfz27_1, hfz27_2, hfz27_3, hfz27_4⟩ := cl5 BK170.out
     have CA23 := fun W => vernierlaw00_Code.calls t162 t174 W A23.out
     try simp only [errW_none, errW_some] at CA23
     go_wp2_with (first | (go_at_call 8; (with_reducible refine (CA23 _).mono ?_); rintro e w' ⟨rfl, ⟨nd, rfl⟩⟩))
     go_meet
     case rel => exact ⟨_, ((t174 != t169)), (by first | rfl | (simp; done) | (simp [*]; done)), H', ⟨by first | omega | exact Nat.le_refl _⟩, ⟨by (with_reducible repeat (first | apply Kd.R_alloc | apply Kd.R_drewN | apply Kd.R_drew)); exact HO173.out⟩, ⟨bK3 BK163.out⟩, ⟨bK3 BK170.out⟩, ⟨bR3 HB.out⟩⟩
   ·
    rw [if_neg c17] at H
    have c17b0 : ((t171.length : Int) == 4) = false := beq_eq_false_iff_ne.mpr c17
    have c17b1 : ((t171.length : Int) != 4) = true := bne_iff_ne.mpr c17
    (first | rw [c17b0] | (simp only [i64_w, i32_w]; rw [c17b0]) | skip)
    have H' := Aside0.mk H
    clear H
    obtain ⟨Ao28, co28, eo28⟩ := Kd.R_slice HO173.out
    subst eo28
    go_wp2
    go_meet
    case rel => exact ⟨_, (true), (by first | rfl | (simp; done) | (simp [*]; done)), H', ⟨by first | omega | exact Nat.le_refl _⟩, ⟨by (with_reducible repeat (first | apply Kd.R_alloc | apply Kd.R_drewN | apply Kd.R_drew)); exact HO173.out⟩, ⟨bK3 BK163.out⟩, ⟨bK3 BK170.out⟩, ⟨bR3 HB.out⟩⟩
  ·
   replace c16 := Bool.eq_false_iff.mpr c16
   subst c16
   rw [if_neg (show ¬ (false = true) by decide)] at H
   have H' := Aside0.mk H
   clear H
   go_wp2
   go_meet
   case rel => exact ⟨_, (true), (by first | rfl | (simp; done) | (simp [*]; done)), H', ⟨by first | omega | exact Nat.le_refl _⟩, ⟨by (with_reducible repeat (first | apply Kd.R_alloc | apply Kd.R_drewN | apply Kd.R_drew)); exact HO173.out⟩, ⟨bK3 BK163.out⟩, ⟨bK3 BK170.out⟩, ⟨bR3 HB.out⟩⟩
 case rest =>
  clear HC6
  try clear c1
  try clear c2
  try clear p2
  try clear c4
  try clear c9
  try clear c10
  try clear c11
  try clear c12
  try clear c13
  try clear c16
  try clear c17
  try clear c17b0
  try clear c17b1
  try clear c18
  try clear c18b0
  try clear c20
  try clear c25
  try clear hcz10_0 hcz10_1 hcz10_2 hcz10_3 hcz10_4
  try clear hcz14_0 hcz14_1 hcz14_2 hcz14_3 hcz14_4
  try clear hcz21_0 hcz21_1 hcz21_2 hcz21_3 hcz21_4
  try clear hcz22_0 hcz22_1 hcz22_2 hcz22_3 hcz22_4
  try clear hcz26_0 hcz26_1 hcz26_2 hcz26_3 hcz26_4
  try clear hcz27_0 hcz27_1 hcz27_2 hcz27_3 hcz27_4
  try clear hfz10_0 hfz10_1 hfz10_2 hfz10_3 hfz10_4
  try clear hfz14_0 hfz14_1 hfz14_2 hfz14_3 hfz14_4
  try clear hfz21_0 hfz21_1 hfz21_2 hfz21_3 hfz21_4
  try clear hfz22_0 hfz22_1 hfz22_2 hfz22_3 hfz22_4
  try clear hfz26_0 hfz26_1 hfz26_2 hfz26_3 hfz26_4
  try clear hfz27_0 hfz27_1 hfz27_2 hfz27_3 hfz27_4
  obtain ⟨kq, x41_5, rfl, HA, HJ5, HO_8, BK163, BK170, HB⟩ := hcut
  cases kq with
  | zero => exact absurd HA.out (by simp [vernierlaw05_ShapeOfs.j0])
  | succ kj5 =>
   have H := HA.out
   clear HA
   simp only [vernierlaw05_ShapeOfs.j0] at H
   by_cases c29 : x41_5 = true
   ·
    subst c29
    rw [if_pos rfl] at H
    obtain rfl := Option.some.inj H
    go_wp2
    go_ret
    exact ⟨eR3, bR3 HB.out⟩
   ·
    replace c29 := Bool.eq_false_iff.mpr c29
    subst c29
    rw [if_neg (show ¬ (false = true) by decide)] at H
    have H' := Aside0.mk H
    clear H
    go_wp2
    go_loopg [9] kj5 (fun kq v9 w' => ∃ (x8_2 : List Int) (x9_2 : Int), v9 = .int .i64 x9_2 ∧ Aside0 (vernierlaw05_ShapeOfs.l0 kq x8_2 x9_2 = some r) ∧ Aside0 (kq ≤ kj5) ∧ Aside0 (Kd.R (Kd.int .i64) 3 w' w.heap.size (fun _ => True) v172 x8_2) ∧ Aside0 (w'.heap[gb163]? = some (.cells #[.int .i64 t157, .int .u64 t158, .int .u64 t159, .int .u64 t160, .int .i64 t161] 33 (0, 0))) ∧ Aside0 (w'.heap[gb170]? = some (.cells #[.int .i64 t164, .int .u64 t165, .int .u64 t166, .int .u64 t167, .int .i64 t168] 33 (0, 0))) ∧ Aside0 (Below w.heap.size w w'))
    case atStart => exact ⟨(t171), (0), (by first | rfl | (simp; done) | (simp [*]; done)), H', ⟨Nat.le_refl _⟩, ⟨by (with_reducible repeat (first | apply Kd.R_alloc | apply Kd.R_drewN | apply Kd.R_drew)); exact HO_8.out⟩, ⟨bK3 BK163.out⟩, ⟨bK3 BK170.out⟩, ⟨bR3 HB.out⟩⟩
    case round =>
     clear H'
     try clear c1
     try clear c2
     try clear p2
     try clear c4
     try clear c9
     try clear c10
     try clear c11
     try clear c12
     try clear c13
     try clear c16
     try clear c17
     try clear c17b0
     try clear c17b1
     try clear c18
     try clear c18b0
     try clear c20
     try clear c25
     try clear c29
     try clear hcz10_0 hcz10_1 hcz10_2 hcz10_3 hcz10_4
     try clear hcz14_0 hcz14_1 hcz14_2 hcz14_3 hcz14_4
     try clear hcz21_0 hcz21_1 hcz21_2 hcz21_3 hcz21_4
     try clear hcz22_0 hcz22_1 hcz22_2 hcz22_3 hcz22_4
     try clear hcz26_0 hcz26_1 hcz26_2 hcz26_3 hcz26_4
     try clear hcz27_0 hcz27_1 hcz27_2 hcz27_3 hcz27_4
     try clear hfz10_0 hfz10_1 hfz10_2 hfz10_3 hfz10_4
     try clear hfz14_0 hfz14_1 hfz14_2 hfz14_3 hfz14_4
     try clear hfz21_0 hfz21_1 hfz21_2 hfz21_3 hfz21_4
     try clear hfz22_0 hfz22_1 hfz22_2 hfz22_3 hfz22_4
     try clear hfz26_0 hfz26_1 hfz26_2 hfz26_3 hfz26_4
     try clear hfz27_0 hfz27_1 hfz27_2 hfz27_3 hfz27_4
     try clear p2
     obtain ⟨x8_2, x9_2, rfl, HA, HK2, HO_8, BK163, BK170, HB⟩ := hrel
     cases gk with
     | zero => exact absurd HA.out (by simp [vernierlaw05_ShapeOfs.l0])
     | succ k2 =>
      have H := HA.out
      clear HA
      simp only [vernierlaw05_ShapeOfs.l0] at H
      by_cases c30 : x9_2 < (x8_2.length : Int)
      ·
       rw [if_pos c30] at H
       have c30b0 : decide (x9_2 < (x8_2.length : Int)) = true := decide_eq_true c30
       clear c30
       by_cases c31 : 0 ≤ x9_2
       ·
        rw [if_pos c31] at H
        have c31b0 : decide (0 ≤ x9_2) = true := decide_eq_true c31
        clear c31
        obtain ⟨y175, hy175⟩ : ∃ y_ : List Int, y_ = (x8_2.set (x9_2 : Int).toNat (-5)) := ⟨_, rfl⟩
        replace H : (vernierlaw05_ShapeOfs.l0 k2 y175 (wrap64 (x9_2 + 1))) = some r := by first | (rw [hy175]; with_reducible exact H) | (have H2_ := (Option.bind_some _ _).symm.trans H; rw [hy175]; with_reducible exact H2_) | (have H2_ := (Option.bind_some _ _).symm.trans H; with_reducible exact H2_) | with_reducible exact H | (rw [hy175]; exact H) | exact H
        have Ny175 := Aside0.mk hy175
        clear hy175
        have H' := Aside0.mk H
        clear H
        obtain ⟨Ao33, co33, eo33⟩ := Kd.R_slice HO_8.out
        subst eo33
        have p32 : 0 ≤ (x9_2 : Int) := of_decide_eq_true (by first | (with_reducible assumption) | assumption)
        have q32 : (x9_2 : Int) < ((x8_2.length : Int) : Int) := of_decide_eq_true (by first | (with_reducible assumption) | assumption)
        obtain ⟨go32, co32, eo32, gb32, gl32, cl32, HG32⟩ := Kd.R_form HO_8.out (by omega)
        (first | cases eo32 | (injection eo32 with ea_ en_ ec_; (first | subst ea_ | (injection ea_ with ea_; subst ea_)); subst ec_; clear en_))
        have GB32 := Aside0.mk gb32
        have GG32 := Aside0.mk HG32
        clear gb32 gl32 HG32
        obtain ⟨hx32_0, hf32_0⟩ := Kd.R_celln 0 HO_8.out (x9_2 : Int) p32 q32
        replace p32 := eq_true p32
        replace q32 := eq_true q32
        have HP34 := Kd.R_putg HO_8.out (x9_2 : Int) (-5)
        go_wp2_with (first | ((with_reducible refine gate_store (t := 3) (p := 50) rfl ?_); refine store_event (t := 3) (p := 50) (v := ?vo_w35) (w1 := (wr.setCell ⟨go32, (x9_2 : Int).toNat, none⟩ (.int .i64 (-5)))) ?hg ?ho ?hn ?hr ?_; (case ho => rfl); (case hg => rfl); (case hn => rfl); (case hr => first | (go_simp; done) | (go_simp; rfl)); intro w35 hw; have hg : wr.grownBy w35 (some go32) := (by rw [hw]; exact HP34.2); have hp_ : Kd.R (Kd.int .i64) 3 w35 w.heap.size (fun _ => True) (.slice (some ⟨go32, 0, none⟩) x8_2.length co33) y175 := (by rw [hw, Ny175.out]; exact HP34.1); clear HP34; replace BK163 := Aside0.mk (blk_grown (g := gb163) (o := .cells #[.int .i64 t157, .int .u64 t158, .int .u64 t159, .int .u64 t160, .int .i64 t161] 33 (0, 0)) (bK3 BK163.out) hg (Kd.R_ne HO_8.out BK163.out (by decide))); replace BK170 := Aside0.mk (blk_grown (g := gb170) (o := .cells #[.int .i64 t164, .int .u64 t165, .int .u64 t166, .int .u64 t167, .int .i64 t168] 33 (0, 0)) (bK3 BK170.out) hg (Kd.R_ne HO_8.out BK170.out (by decide))); replace HO_8 := Aside0.mk (hp_); replace HB := Aside0.mk ((by rw [hw]; exact pS (HB.out) GB32.out : Below w.heap.size w w35)); clear hg hw hp_))
        go_roundg k2
        case measure => have := HJ5.out; have := HK2.out; omega
        case rel => exact ⟨(y175), (wrap64 (x9_2 + 1)), (by first | rfl | (simp; done) | (simp [*]; done)), H', ⟨by have := HJ5.out; have := HK2.out; omega⟩, ⟨by (with_reducible repeat (first | apply Kd.R_alloc | apply Kd.R_drewN | apply Kd.R_drew)); exact HO_8.out⟩, ⟨bK3 BK163.out⟩, ⟨bK3 BK170.out⟩, ⟨bR3 HB.out⟩⟩
       ·
        rw [if_neg c31] at H
        exact absurd H (by simp)
      ·
       rw [if_neg c30] at H
       have c30b0 : decide (x9_2 < (x8_2.length : Int)) = false := decide_eq_false c30
       clear c30
       replace H := Option.bind_eq_some_iff.mp H
       obtain ⟨t176, A360, H⟩ := H
       try dsimp -simprocs only at H
       have A36 := Aside0.mk A360
       clear A360
       by_cases c37 : x8_2.length < 17592186044416
       ·
        rw [if_pos c37] at H
        have LMc37 := Aside0.mk c37
        clear c37
        obtain ⟨y179, hy179⟩ : ∃ y_ : List Int, y_ = (x8_2 ++ [(-6)]) := ⟨_, rfl⟩
        replace H : (if (t176.length : Int) = 4 then (if 0 < (t176.length : Int) then (if (rd t176 0) = 8 then (if 1 < (t176.length : Int) then (if (rd t176 1) = 16 then (if 2 < (t176.length : Int) then (if (rd t176 2) = 32 then (if 3 < (t176.length : Int) then (if (rd t176 3) = 64 then (if 4 < (y179.length : Int) then (if (rd y179 4) = (-6) then (if 0 < (x8_2.length : Int) then (some ((rd x8_2 0) == (-5))) else (none)) else (some false)) else (none)) else (some false)) else (none)) else (some false)) else (none)) else (some false)) else (none)) else (some false)) else (none)) else (some false)) = some r := by first | (rw [hy179]; with_reducible exact H) | (have H2_ := (Option.bind_some _ _).symm.trans H; rw [hy179]; with_reducible exact H2_) | (have H2_ := (Option.bind_some _ _).symm.trans H; with_reducible exact H2_) | with_reducible exact H | (rw [hy179]; exact H) | exact H
        have Ny179 := Aside0.mk hy179
        clear hy179
        by_cases c38 : (t176.length : Int) = 4
        ·
         rw [if_pos c38] at H
         have c38b0 : ((t176.length : Int) == 4) = true := beq_iff_eq.mpr c38
         have c38b1 : ((t176.length : Int) != 4) = false := bne_eq_false_iff_eq.mpr c38
         clear c38
         by_cases c39 : 0 < (t176.length : Int)
         ·
          rw [if_pos c39] at H
          have c39b0 : decide (0 < (t176.length : Int)) = true := decide_eq_true c39
          have c39b1 : decide (0 < t176.length) = true := decide_eq_true (by omega)
          clear c39
          by_cases c40 : (rd t176 0) = 8
          ·
           rw [if_pos c40] at H
           have c40b0 : ((rd t176 0) == 8) = true := beq_iff_eq.mpr c40
           have c40b1 : ((rd t176 0) != 8) = false := bne_eq_false_iff_eq.mpr c40
           clear c40
           by_cases c41 : 1 < (t176.length : Int)
           ·
            rw [if_pos c41] at H
            have c41b0 : decide (1 < (t176.length : Int)) = true := decide_eq_true c41
            have c41b1 : decide (1 < t176.length) = true := decide_eq_true (by omega)
            clear c41
            by_cases c42 : (rd t176 1) = 16
            ·
             rw [if_pos c42] at H
             have c42b0 : ((rd t176 1) == 16) = true := beq_iff_eq.mpr c42
             have c42b1 : ((rd t176 1) != 16) = false := bne_eq_false_iff_eq.mpr c42
             clear c42
             by_cases c43 : 2 < (t176.length : Int)
             ·
              rw [if_pos c43] at H
              have c43b0 : decide (2 < (t176.length : Int)) = true := decide_eq_true c43
              have c43b1 : decide (2 < t176.length) = true := decide_eq_true (by omega)
              clear c43
              by_cases c44 : (rd t176 2) = 32
              ·
               rw [if_pos c44] at H
               have c44b0 : ((rd t176 2) == 32) = true := beq_iff_eq.mpr c44
               have c44b1 : ((rd t176 2) != 32) = false := bne_eq_false_iff_eq.mpr c44
               clear c44
               by_cases c45 : 3 < (t176.length : Int)
               ·
                rw [if_pos c45] at H
                have c45b0 : decide (3 < (t176.length : Int)) = true := decide_eq_true c45
                have c45b1 : decide (3 < t176.length) = true := decide_eq_true (by omega)
                clear c45
                by_cases c46 : (rd t176 3) = 64
                ·
                 rw [if_pos c46] at H
                 have c46b0 : ((rd t176 3) == 64) = true := beq_iff_eq.mpr c46
                 have c46b1 : ((rd t176 3) != 64) = false := bne_eq_false_iff_eq.mpr c46
                 clear c46
                 by_cases c47 : 4 < (y179.length : Int)
                 ·
                  rw [if_pos c47] at H
                  have c47b0 : decide (4 < (y179.length : Int)) = true := decide_eq_true c47
                  have c47b1 : decide (4 < y179.length) = true := decide_eq_true (by omega)
                  clear c47
                  by_cases c48 : (rd y179 4) = (-6)
                  ·
                   rw [if_pos c48] at H
                   have c48b0 : ((rd y179 4) == (-6)) = true := beq_iff_eq.mpr c48
                   have c48b1 : ((rd y179 4) != (-6)) = false := bne_eq_false_iff_eq.mpr c48
                   clear c48
                   by_cases c49 : 0 < (x8_2.length : Int)
                   ·
                    rw [if_pos c49] at H
                    have c49b0 : decide (0 < (x8_2.length : Int)) = true := decide_eq_true c49
                    have c49b1 : decide (0 < x8_2.length) = true := decide_eq_true (by omega)
                    clear c49
                    obtain rfl := Option.some.inj H
                    obtain ⟨Ao50, co50, eo50⟩ := Kd.R_slice HO_8.out
                    subst eo50
                    go_wp2_with (first | ((with_reducible refine gX_ 12 51 rfl rfl ?_); refine goesY_ (some 51) Try.func12 #[] ?_; (with_reducible refine (shape_Widths.calls  t176 _ A36.out).mono ?_); rintro e w51 ⟨v177, rfl, ho0, hb⟩; refine ⟨_, rfl, ?_⟩; have HO178 := Aside0.mk (Kd.R_lower (Kd.R_new' ho0 (Kd.R_lt (by (with_reducible repeat (first | apply Kd.R_alloc | apply Kd.R_drewN | apply Kd.R_drew)); exact HO_8.out))) (bZ (bR3 HB.out))); replace HO_8 := Aside0.mk (Kd.R_elder' (by (with_reducible repeat (first | apply Kd.R_alloc | apply Kd.R_drewN | apply Kd.R_drew)); exact HO_8.out) (Kd.R_base ho0) hb); replace BK163 := Aside0.mk (bB3 BK163.out hb); replace BK170 := Aside0.mk (bB3 BK170.out hb); replace HB := Aside0.mk (bS3 HB.out hb); (try clear hb); (try clear hk); (try clear ho0)) | ((with_reducible refine gate_builtin (b := .append) (xs := #[.tmp 52, .tmp 53]) rfl ?_); (try (refine gate_guard (by rfl) ?_; dsimp only)); at_builtin; refine R_append_keep (kd := .i64) (w0 := w) w.heap.size rfl (.tmp 52) (.tmp 53) 38 3 (.int .i64 0) 8 rfl Try.underlying38 info3 rfl (by decide) (by omega) (.slice Ao50 x8_2.length co50) x8_2 (-6) [.int .i64 (-6)] (fun k_ => some k_ ≠ (v177 : Value).ownBlock) (fun _ => False) rfl rfl ?aP (fun _ hk => hk.elim) ?aF ?aO ?aB ?aS ?aL ?_; (case aP => exact rfl); (case aB => exact (bR3 HB.out)); (case aF => exact (fun k_ hk => Kd.fresh' (Kd.R_lt (by (with_reducible repeat (first | apply Kd.R_alloc | apply Kd.R_drewN | apply Kd.R_drew)); exact HO178.out)) k_ hk)); (case aO => exact (by (with_reducible repeat (first | apply Kd.R_alloc | apply Kd.R_drewN | apply Kd.R_drew)); exact Kd.R_mono HO_8.out (fun _ hk => hk.2))); (case aS => exact (bZ (bR3 HB.out))); (case aL => have := LMc37.out; omega); intro v180 w52 ho hb hg hat hkeep; rw [← Ny179.out] at ho; have n0_ := Aside0.mk (blk_grown (g := gb163) (o := .cells #[.int .i64 t157, .int .u64 t158, .int .u64 t159, .int .u64 t160, .int .i64 t161] 33 (0, 0)) (bK3 BK163.out) hg (Kd.R_ne HO_8.out BK163.out (by decide))); have n1_ := Aside0.mk (blk_grown (g := gb170) (o := .cells #[.int .i64 t164, .int .u64 t165, .int .u64 t166, .int .u64 t167, .int .i64 t168] 33 (0, 0)) (bK3 BK170.out) hg (Kd.R_ne HO_8.out BK170.out (by decide))); have n2_ := Aside0.mk (Kd.R_after (ok := (fun _ => True)) (by (with_reducible repeat (first | apply Kd.R_alloc | apply Kd.R_drewN | apply Kd.R_drew)); exact HO178.out) hg hat); have n3_ := Aside0.mk (hb); have n4_ := Aside0.mk (ho); clear BK163; clear BK170; clear HO178; clear HB; clear HO_8; have HO_8 := Aside0.mk hkeep; clear hkeep; have BK163 := n0_; have BK170 := n1_; have HO178 := n2_; have HB := n3_; have HO181 := n4_; clear n0_ n1_ n2_ n3_ n4_; clear ho hb hg hat; obtain ⟨Ao53, co53, eo53⟩ := Kd.R_slice HO178.out; subst eo53; have p182 : 0 ≤ (0 : Int) := (by omega); have q182 : 0 < (t176.length : Int) := of_decide_eq_true (by first | (with_reducible assumption) | assumption); obtain ⟨ad182, e182, hx182_0⟩ := Kd.at_int (Kd.R_reads' HO178.out).2.2 0 p182 q182; cases e182; have qi182 : (0 < t176.length) = True := eq_true (by omega); (try rw [show ((0 : Int)).toNat = 0 from rfl] at hx182_0); (try rw [Addr.add_zero'] at hx182_0); replace p182 := eq_true p182; replace q182 := eq_true q182; have p183 : 0 ≤ (1 : Int) := (by omega); have q183 : 1 < (t176.length : Int) := of_decide_eq_true (by first | (with_reducible assumption) | assumption); obtain ⟨ad183, e183, hx183_0⟩ := Kd.at_int (Kd.R_reads' HO178.out).2.2 1 p183 q183; obtain rfl : ad182 = ad183 := (by injection e183); (try simp only [show (1 : Int).toNat = 1 from rfl, Nat.reduceMul, Nat.reduceEqDiff, Go.Addr.add, ↓reduceIte] at hx183_0); have qi183 : (1 < t176.length) = True := eq_true (by omega); (try rw [show ((1 : Int)).toNat = 1 from rfl] at hx183_0); replace p183 := eq_true p183; replace q183 := eq_true q183; have p184 : 0 ≤ (2 : Int) := (by omega); have q184 : 2 < (t176.length : Int) := of_decide_eq_true (by first | (with_reducible assumption) | assumption); obtain ⟨ad184, e184, hx184_0⟩ := Kd.at_int (Kd.R_reads' HO178.out).2.2 2 p184 q184; obtain rfl : ad182 = ad184 := (by injection e184); (try simp only [show (2 : Int).toNat = 2 from rfl, Nat.reduceMul, Nat.reduceEqDiff, Go.Addr.add, ↓reduceIte] at hx184_0); have qi184 : (2 < t176.length) = True := eq_true (by omega); (try rw [show ((2 : Int)).toNat = 2 from rfl] at hx184_0); replace p184 := eq_true p184; replace q184 := eq_true q184; have p185 : 0 ≤ (3 : Int) := (by omega); have q185 : 3 < (t176.length : Int) := of_decide_eq_true (by first | (with_reducible assumption) | assumption); obtain ⟨ad185, e185, hx185_0⟩ := Kd.at_int (Kd.R_reads' HO178.out).2.2 3 p185 q185; obtain rfl : ad182 = ad185 := (by injection e185); (try simp only [show (3 : Int).toNat = 3 from rfl, Nat.reduceMul, Nat.reduceEqDiff, Go.Addr.add, ↓reduceIte] at hx185_0); have qi185 : (3 < t176.length) = True := eq_true (by omega); (try rw [show ((3 : Int)).toNat = 3 from rfl] at hx185_0); replace p185 := eq_true p185; replace q185 := eq_true q185; obtain ⟨Ao54, co54, eo54⟩ := Kd.R_slice HO181.out; subst eo54; have p186 : 0 ≤ (4 : Int) := (by omega); have q186 : 4 < (y179.length : Int) := of_decide_eq_true (by first | (with_reducible assumption) | assumption); obtain ⟨ad186, e186, hx186_0⟩ := Kd.at_int (Kd.R_reads' HO181.out).2.2 4 p186 q186; cases e186; (try simp only [show (4 : Int).toNat = 4 from rfl, Nat.reduceMul, Nat.reduceEqDiff, Go.Addr.add, ↓reduceIte] at hx186_0); have qi186 : (4 < y179.length) = True := eq_true (by omega); (try rw [show ((4 : Int)).toNat = 4 from rfl] at hx186_0); replace p186 := eq_true p186; replace q186 := eq_true q186; have p187 : 0 ≤ (0 : Int) := (by omega); have q187 : 0 < (x8_2.length : Int) := of_decide_eq_true (by first | (with_reducible assumption) | assumption); obtain ⟨ad187, e187, hx187_0⟩ := Kd.at_int (Kd.R_reads' HO_8.out).2.2 0 p187 (by first | exact q187 | (have h_ := (Kd.R_reads' HO_8.out).1; omega)); cases e187; have qi187 : (0 < x8_2.length) = True := eq_true (by omega); (try rw [show ((0 : Int)).toNat = 0 from rfl] at hx187_0); (try rw [Addr.add_zero'] at hx187_0); replace p187 := eq_true p187; replace q187 := eq_true q187))
                    go_ret
                    exact ⟨eR3, bR3 HB.out⟩
                   ·
                    rw [if_neg c49] at H
                    exact absurd H (by simp)
                  ·
                   rw [if_neg c48] at H
                   have c48b0 : ((rd y179 4) == (-6)) = false := beq_eq_false_iff_ne.mpr c48
                   have c48b1 : ((rd y179 4) != (-6)) = true := bne_iff_ne.mpr c48
                   obtain rfl := Option.some.inj H
                   obtain ⟨Ao55, co55, eo55⟩ := Kd.R_slice HO_8.out
                   subst eo55
                   go_wp2_with (first | ((with_reducible refine gX_ 12 51 rfl rfl ?_); refine goesY_ (some 51) Try.func12 #[] ?_; (with_reducible refine (shape_Widths.calls  t176 _ A36.out).mono ?_); rintro e w56 ⟨v177, rfl, ho0, hb⟩; refine ⟨_, rfl, ?_⟩; have HO178 := Aside0.mk (Kd.R_lower (Kd.R_new' ho0 (Kd.R_lt (by (with_reducible repeat (first | apply Kd.R_alloc | apply Kd.R_drewN | apply Kd.R_drew)); exact HO_8.out))) (bZ (bR3 HB.out))); replace HO_8 := Aside0.mk (Kd.R_elder' (by (with_reducible repeat (first | apply Kd.R_alloc | apply Kd.R_drewN | apply Kd.R_drew)); exact HO_8.out) (Kd.R_base ho0) hb); replace BK163 := Aside0.mk (bB3 BK163.out hb); replace BK170 := Aside0.mk (bB3 BK170.out hb); replace HB := Aside0.mk (bS3 HB.out hb); (try clear hb); (try clear hk); (try clear ho0)) | ((with_reducible refine gate_builtin (b := .append) (xs := #[.tmp 52, .tmp 53]) rfl ?_); (try (refine gate_guard (by rfl) ?_; dsimp only)); at_builtin; refine R_append_keep (kd := .i64) (w0 := w) w.heap.size rfl (.tmp 52) (.tmp 53) 38 3 (.int .i64 0) 8 rfl Try.underlying38 info3 rfl (by decide) (by omega) (.slice Ao55 x8_2.length co55) x8_2 (-6) [.int .i64 (-6)] (fun k_ => some k_ ≠ (v177 : Value).ownBlock) (fun _ => False) rfl rfl ?aP (fun _ hk => hk.elim) ?aF ?aO ?aB ?aS ?aL ?_; (case aP => exact rfl); (case aB => exact (bR3 HB.out)); (case aF => exact (fun k_ hk => Kd.fresh' (Kd.R_lt (by (with_reducible repeat (first | apply Kd.R_alloc | apply Kd.R_drewN | apply Kd.R_drew)); exact HO178.out)) k_ hk)); (case aO => exact (by (with_reducible repeat (first | apply Kd.R_alloc | apply Kd.R_drewN | apply Kd.R_drew)); exact Kd.R_mono HO_8.out (fun _ hk => hk.2))); (case aS => exact (bZ (bR3 HB.out))); (case aL => have := LMc37.out; omega); intro v180 w57 ho hb hg hat hkeep; rw [← Ny179.out] at ho; have n0_ := Aside0.mk (blk_grown (g := gb163) (o := .cells #[.int .i64 t157, .int .u64 t158, .int .u64 t159, .int .u64 t160, .int .i64 t161] 33 (0, 0)) (bK3 BK163.out) hg (Kd.R_ne HO_8.out BK163.out (by decide))); have n1_ := Aside0.mk (blk_grown (g := gb170) (o := .cells #[.int .i64 t164, .int .u64 t165, .int .u64 t166, .int .u64 t167, .int .i64 t168] 33 (0, 0)) (bK3 BK170.out) hg (Kd.R_ne HO_8.out BK170.out (by decide))); have n2_ := Aside0.mk (Kd.R_after (ok := (fun _ => True)) (by (with_reducible repeat (first | apply Kd.R_alloc | apply Kd.R_drewN | apply Kd.R_drew)); exact HO178.out) hg hat); have n3_ := Aside0.mk (hb); have n4_ := Aside0.mk (ho); clear BK163; clear BK170; clear HO178; clear HB; clear HO_8; have HO_8 := Aside0.mk hkeep; clear hkeep; have BK163 := n0_; have BK170 := n1_; have HO178 := n2_; have HB := n3_; have HO181 := n4_; clear n0_ n1_ n2_ n3_ n4_; clear ho hb hg hat; obtain ⟨Ao58, co58, eo58⟩ := Kd.R_slice HO178.out; subst eo58; have p182 : 0 ≤ (0 : Int) := (by omega); have q182 : 0 < (t176.length : Int) := of_decide_eq_true (by first | (with_reducible assumption) | assumption); obtain ⟨ad182, e182, hx182_0⟩ := Kd.at_int (Kd.R_reads' HO178.out).2.2 0 p182 q182; cases e182; have qi182 : (0 < t176.length) = True := eq_true (by omega); (try rw [show ((0 : Int)).toNat = 0 from rfl] at hx182_0); (try rw [Addr.add_zero'] at hx182_0); replace p182 := eq_true p182; replace q182 := eq_true q182; have p183 : 0 ≤ (1 : Int) := (by omega); have q183 : 1 < (t176.length : Int) := of_decide_eq_true (by first | (with_reducible assumption) | assumption); obtain ⟨ad183, e183, hx183_0⟩ := Kd.at_int (Kd.R_reads' HO178.out).2.2 1 p183 q183; obtain rfl : ad182 = ad183 := (by injection e183); (try simp only [show (1 : Int).toNat = 1 from rfl, Nat.reduceMul, Nat.reduceEqDiff, Go.Addr.add, ↓reduceIte] at hx183_0); have qi183 : (1 < t176.length) = True := eq_true (by omega); (try rw [show ((1 : Int)).toNat = 1 from rfl] at hx183_0); replace p183 := eq_true p183; replace q183 := eq_true q183; have p184 : 0 ≤ (2 : Int) := (by omega); have q184 : 2 < (t176.length : Int) := of_decide_eq_true (by first | (with_reducible assumption) | assumption); obtain ⟨ad184, e184, hx184_0⟩ := Kd.at_int (Kd.R_reads' HO178.out).2.2 2 p184 q184; obtain rfl : ad182 = ad184 := (by injection e184); (try simp only [show (2 : Int).toNat = 2 from rfl, Nat.reduceMul, Nat.reduceEqDiff, Go.Addr.add, ↓reduceIte] at hx184_0); have qi184 : (2 < t176.length) = True := eq_true (by omega); (try rw [show ((2 : Int)).toNat = 2 from rfl] at hx184_0); replace p184 := eq_true p184; replace q184 := eq_true q184; have p185 : 0 ≤ (3 : Int) := (by omega); have q185 : 3 < (t176.length : Int) := of_decide_eq_true (by first | (with_reducible assumption) | assumption); obtain ⟨ad185, e185, hx185_0⟩ := Kd.at_int (Kd.R_reads' HO178.out).2.2 3 p185 q185; obtain rfl : ad182 = ad185 := (by injection e185); (try simp only [show (3 : Int).toNat = 3 from rfl, Nat.reduceMul, Nat.reduceEqDiff, Go.Addr.add, ↓reduceIte] at hx185_0); have qi185 : (3 < t176.length) = True := eq_true (by omega); (try rw [show ((3 : Int)).toNat = 3 from rfl] at hx185_0); replace p185 := eq_true p185; replace q185 := eq_true q185; obtain ⟨Ao59, co59, eo59⟩ := Kd.R_slice HO181.out; subst eo59; have p186 : 0 ≤ (4 : Int) := (by omega); have q186 : 4 < (y179.length : Int) := of_decide_eq_true (by first | (with_reducible assumption) | assumption); obtain ⟨ad186, e186, hx186_0⟩ := Kd.at_int (Kd.R_reads' HO181.out).2.2 4 p186 q186; cases e186; (try simp only [show (4 : Int).toNat = 4 from rfl, Nat.reduceMul, Nat.reduceEqDiff, Go.Addr.add, ↓reduceIte] at hx186_0); have qi186 : (4 < y179.length) = True := eq_true (by omega); (try rw [show ((4 : Int)).toNat = 4 from rfl] at hx186_0); replace p186 := eq_true p186; replace q186 := eq_true q186))
                   go_ret
                   exact ⟨eR3, bR3 HB.out⟩
                 ·
                  rw [if_neg c47] at H
                  exact absurd H (by simp)
                ·
                 rw [if_neg c46] at H
                 have c46b0 : ((rd t176 3) == 64) = false := beq_eq_false_iff_ne.mpr c46
                 have c46b1 : ((rd t176 3) != 64) = true := bne_iff_ne.mpr c46
                 obtain rfl := Option.some.inj H
                 obtain ⟨Ao60, co60, eo60⟩ := Kd.R_slice HO_8.out
                 subst eo60
                 go_wp2_with (first | ((with_reducible refine gX_ 12 51 rfl rfl ?_); refine goesY_ (some 51) Try.func12 #[] ?_; (with_reducible refine (shape_Widths.calls  t176 _ A36.out).mono ?_); rintro e w61 ⟨v177, rfl, ho0, hb⟩; refine ⟨_, rfl, ?_⟩; have HO178 := Aside0.mk (Kd.R_lower (Kd.R_new' ho0 (Kd.R_lt (by (with_reducible repeat (first | apply Kd.R_alloc | apply Kd.R_drewN | apply Kd.R_drew)); exact HO_8.out))) (bZ (bR3 HB.out))); replace HO_8 := Aside0.mk (Kd.R_elder' (by (with_reducible repeat (first | apply Kd.R_alloc | apply Kd.R_drewN | apply Kd.R_drew)); exact HO_8.out) (Kd.R_base ho0) hb); replace BK163 := Aside0.mk (bB3 BK163.out hb); replace BK170 := Aside0.mk (bB3 BK170.out hb); replace HB := Aside0.mk (bS3 HB.out hb); (try clear hb); (try clear hk); (try clear ho0)) | ((with_reducible refine gate_builtin (b := .append) (xs := #[.tmp 52, .tmp 53]) rfl ?_); (try (refine gate_guard (by rfl) ?_; dsimp only)); at_builtin; refine R_append_keep (kd := .i64) (w0 := w) w.heap.size rfl (.tmp 52) (.tmp 53) 38 3 (.int .i64 0) 8 rfl Try.underlying38 info3 rfl (by decide) (by omega) (.slice Ao60 x8_2.length co60) x8_2 (-6) [.int .i64 (-6)] (fun k_ => some k_ ≠ (v177 : Value).ownBlock) (fun _ => False) rfl rfl ?aP (fun _ hk => hk.elim) ?aF ?aO ?aB ?aS ?aL ?_; (case aP => exact rfl); (case aB => exact (bR3 HB.out)); (case aF => exact (fun k_ hk => Kd.fresh' (Kd.R_lt (by (with_reducible repeat (first | apply Kd.R_alloc | apply Kd.R_drewN | apply Kd.R_drew)); exact HO178.out)) k_ hk)); (case aO => exact (by (with_reducible repeat (first | apply Kd.R_alloc | apply Kd.R_drewN | apply Kd.R_drew)); exact Kd.R_mono HO_8.out (fun _ hk => hk.2))); (case aS => exact (bZ (bR3 HB.out))); (case aL => have := LMc37.out; omega); intro v180 w62 ho hb hg hat hkeep; rw [← Ny179.out] at ho; have n0_ := Aside0.mk (blk_grown (g := gb163) (o := .cells #[.int .i64 t157, .int .u64 t158, .int .u64 t159, .int .u64 t160, .int .i64 t161] 33 (0, 0)) (bK3 BK163.out) hg (Kd.R_ne HO_8.out BK163.out (by decide))); have n1_ := Aside0.mk (blk_grown (g := gb170) (o := .cells #[.int .i64 t164, .int .u64 t165, .int .u64 t166, .int .u64 t167, .int .i64 t168] 33 (0, 0)) (bK3 BK170.out) hg (Kd.R_ne HO_8.out BK170.out (by decide))); have n2_ := Aside0.mk (Kd.R_after (ok := (fun _ => True)) (by (with_reducible repeat (first | apply Kd.R_alloc | apply Kd.R_drewN | apply Kd.R_drew)); exact HO178.out) hg hat); have n3_ := Aside0.mk (hb); have n4_ := Aside0.mk (ho); clear BK163; clear BK170; clear HO178; clear HB; clear HO_8; have HO_8 := Aside0.mk hkeep; clear hkeep; have BK163 := n0_; have BK170 := n1_; have HO178 := n2_; have HB := n3_; have HO181 := n4_; clear n0_ n1_ n2_ n3_ n4_; clear ho hb hg hat; obtain ⟨Ao63, co63, eo63⟩ := Kd.R_slice HO178.out; subst eo63; have p182 : 0 ≤ (0 : Int) := (by omega); have q182 : 0 < (t176.length : Int) := of_decide_eq_true (by first | (with_reducible assumption) | assumption); obtain ⟨ad182, e182, hx182_0⟩ := Kd.at_int (Kd.R_reads' HO178.out).2.2 0 p182 q182; cases e182; have qi182 : (0 < t176.length) = True := eq_true (by omega); (try rw [show ((0 : Int)).toNat = 0 from rfl] at hx182_0); (try rw [Addr.add_zero'] at hx182_0); replace p182 := eq_true p182; replace q182 := eq_true q182; have p183 : 0 ≤ (1 : Int) := (by omega); have q183 : 1 < (t176.length : Int) := of_decide_eq_true (by first | (with_reducible assumption) | assumption); obtain ⟨ad183, e183, hx183_0⟩ := Kd.at_int (Kd.R_reads' HO178.out).2.2 1 p183 q183; obtain rfl : ad182 = ad183 := (by injection e183); (try simp only [show (1 : Int).toNat = 1 from rfl, Nat.reduceMul, Nat.reduceEqDiff, Go.Addr.add, ↓reduceIte] at hx183_0); have qi183 : (1 < t176.length) = True := eq_true (by omega); (try rw [show ((1 : Int)).toNat = 1 from rfl] at hx183_0); replace p183 := eq_true p183; replace q183 := eq_true q183; have p184 : 0 ≤ (2 : Int) := (by omega); have q184 : 2 < (t176.length : Int) := of_decide_eq_true (by first | (with_reducible assumption) | assumption); obtain ⟨ad184, e184, hx184_0⟩ := Kd.at_int (Kd.R_reads' HO178.out).2.2 2 p184 q184; obtain rfl : ad182 = ad184 := (by injection e184); (try simp only [show (2 : Int).toNat = 2 from rfl, Nat.reduceMul, Nat.reduceEqDiff, Go.Addr.add, ↓reduceIte] at hx184_0); have qi184 : (2 < t176.length) = True := eq_true (by omega); (try rw [show ((2 : Int)).toNat = 2 from rfl] at hx184_0); replace p184 := eq_true p184; replace q184 := eq_true q184; have p185 : 0 ≤ (3 : Int) := (by omega); have q185 : 3 < (t176.length : Int) := of_decide_eq_true (by first | (with_reducible assumption) | assumption); obtain ⟨ad185, e185, hx185_0⟩ := Kd.at_int (Kd.R_reads' HO178.out).2.2 3 p185 q185; obtain rfl : ad182 = ad185 := (by injection e185); (try simp only [show (3 : Int).toNat = 3 from rfl, Nat.reduceMul, Nat.reduceEqDiff, Go.Addr.add, ↓reduceIte] at hx185_0); have qi185 : (3 < t176.length) = True := eq_true (by omega); (try rw [show ((3 : Int)).toNat = 3 from rfl] at hx185_0); replace p185 := eq_true p185; replace q185 := eq_true q185))
                 go_ret
                 exact ⟨eR3, bR3 HB.out⟩
               ·
                rw [if_neg c45] at H
                exact absurd H (by simp)
              ·
               rw [if_neg c44] at H
               have c44b0 : ((rd t176 2) == 32) = false := beq_eq_false_iff_ne.mpr c44
               have c44b1 : ((rd t176 2) != 32) = true := bne_iff_ne.mpr c44
               obtain rfl := Option.some.inj H
               obtain ⟨Ao64, co64, eo64⟩ := Kd.R_slice HO_8.out
               subst eo64
               go_wp2_with (first | ((with_reducible refine gX_ 12 51 rfl rfl ?_); refine goesY_ (some 51) Try.func12 #[] ?_; (with_reducible refine (shape_Widths.calls  t176 _ A36.out).mono ?_); rintro e w65 ⟨v177, rfl, ho0, hb⟩; refine ⟨_, rfl, ?_⟩; have HO178 := Aside0.mk (Kd.R_lower (Kd.R_new' ho0 (Kd.R_lt (by (with_reducible repeat (first | apply Kd.R_alloc | apply Kd.R_drewN | apply Kd.R_drew)); exact HO_8.out))) (bZ (bR3 HB.out))); replace HO_8 := Aside0.mk (Kd.R_elder' (by (with_reducible repeat (first | apply Kd.R_alloc | apply Kd.R_drewN | apply Kd.R_drew)); exact HO_8.out) (Kd.R_base ho0) hb); replace BK163 := Aside0.mk (bB3 BK163.out hb); replace BK170 := Aside0.mk (bB3 BK170.out hb); replace HB := Aside0.mk (bS3 HB.out hb); (try clear hb); (try clear hk); (try clear ho0)) | ((with_reducible refine gate_builtin (b := .append) (xs := #[.tmp 52, .tmp 53]) rfl ?_); (try (refine gate_guard (by rfl) ?_; dsimp only)); at_builtin; refine R_append_keep (kd := .i64) (w0 := w) w.heap.size rfl (.tmp 52) (.tmp 53) 38 3 (.int .i64 0) 8 rfl Try.underlying38 info3 rfl (by decide) (by omega) (.slice Ao64 x8_2.length co64) x8_2 (-6) [.int .i64 (-6)] (fun k_ => some k_ ≠ (v177 : Value).ownBlock) (fun _ => False) rfl rfl ?aP (fun _ hk => hk.elim) ?aF ?aO ?aB ?aS ?aL ?_; (case aP => exact rfl); (case aB => exact (bR3 HB.out)); (case aF => exact (fun k_ hk => Kd.fresh' (Kd.R_lt (by (with_reducible repeat (first | apply Kd.R_alloc | apply Kd.R_drewN | apply Kd.R_drew)); exact HO178.out)) k_ hk)); (case aO => exact (by (with_reducible repeat (first | apply Kd.R_alloc | apply Kd.R_drewN | apply Kd.R_drew)); exact Kd.R_mono HO_8.out (fun _ hk => hk.2))); (case aS => exact (bZ (bR3 HB.out))); (case aL => have := LMc37.out; omega); intro v180 w66 ho hb hg hat hkeep; rw [← Ny179.out] at ho; have n0_ := Aside0.mk (blk_grown (g := gb163) (o := .cells #[.int .i64 t157, .int .u64 t158, .int .u64 t159, .int .u64 t160, .int .i64 t161] 33 (0, 0)) (bK3 BK163.out) hg (Kd.R_ne HO_8.out BK163.out (by decide))); have n1_ := Aside0.mk (blk_grown (g := gb170) (o := .cells #[.int .i64 t164, .int .u64 t165, .int .u64 t166, .int .u64 t167, .int .i64 t168] 33 (0, 0)) (bK3 BK170.out) hg (Kd.R_ne HO_8.out BK170.out (by decide))); have n2_ := Aside0.mk (Kd.R_after (ok := (fun _ => True)) (by (with_reducible repeat (first | apply Kd.R_alloc | apply Kd.R_drewN | apply Kd.R_drew)); exact HO178.out) hg hat); have n3_ := Aside0.mk (hb); have n4_ := Aside0.mk (ho); clear BK163; clear BK170; clear HO178; clear HB; clear HO_8; have HO_8 := Aside0.mk hkeep; clear hkeep; have BK163 := n0_; have BK170 := n1_; have HO178 := n2_; have HB := n3_; have HO181 := n4_; clear n0_ n1_ n2_ n3_ n4_; clear ho hb hg hat; obtain ⟨Ao67, co67, eo67⟩ := Kd.R_slice HO178.out; subst eo67; have p182 : 0 ≤ (0 : Int) := (by omega); have q182 : 0 < (t176.length : Int) := of_decide_eq_true (by first | (with_reducible assumption) | assumption); obtain ⟨ad182, e182, hx182_0⟩ := Kd.at_int (Kd.R_reads' HO178.out).2.2 0 p182 q182; cases e182; have qi182 : (0 < t176.length) = True := eq_true (by omega); (try rw [show ((0 : Int)).toNat = 0 from rfl] at hx182_0); (try rw [Addr.add_zero'] at hx182_0); replace p182 := eq_true p182; replace q182 := eq_true q182; have p183 : 0 ≤ (1 : Int) := (by omega); have q183 : 1 < (t176.length : Int) := of_decide_eq_true (by first | (with_reducible assumption) | assumption); obtain ⟨ad183, e183, hx183_0⟩ := Kd.at_int (Kd.R_reads' HO178.out).2.2 1 p183 q183; obtain rfl : ad182 = ad183 := (by injection e183); (try simp only [show (1 : Int).toNat = 1 from rfl, Nat.reduceMul, Nat.reduceEqDiff, Go.Addr.add, ↓reduceIte] at hx183_0); have qi183 : (1 < t176.length) = True := eq_true (by omega); (try rw [show ((1 : Int)).toNat = 1 from rfl] at hx183_0); replace p183 := eq_true p183; replace q183 := eq_true q183; have p184 : 0 ≤ (2 : Int) := (by omega); have q184 : 2 < (t176.length : Int) := of_decide_eq_true (by first | (with_reducible assumption) | assumption); obtain ⟨ad184, e184, hx184_0⟩ := Kd.at_int (Kd.R_reads' HO178.out).2.2 2 p184 q184; obtain rfl : ad182 = ad184 := (by injection e184); (try simp only [show (2 : Int).toNat = 2 from rfl, Nat.reduceMul, Nat.reduceEqDiff, Go.Addr.add, ↓reduceIte] at hx184_0); have qi184 : (2 < t176.length) = True := eq_true (by omega); (try rw [show ((2 : Int)).toNat = 2 from rfl] at hx184_0); replace p184 := eq_true p184; replace q184 := eq_true q184))
               go_ret
               exact ⟨eR3, bR3 HB.out⟩
             ·
              rw [if_neg c43] at H
              exact absurd H (by simp)
            ·
             rw [if_neg c42] at H
             have c42b0 : ((rd t176 1) == 16) = false := beq_eq_false_iff_ne.mpr c42
             have c42b1 : ((rd t176 1) != 16) = true := bne_iff_ne.mpr c42
             obtain rfl := Option.some.inj H
             obtain ⟨Ao68, co68, eo68⟩ := Kd.R_slice HO_8.out
             subst eo68
             go_wp2_with (first | ((with_reducible refine gX_ 12 51 rfl rfl ?_); refine goesY_ (some 51) Try.func12 #[] ?_; (with_reducible refine (shape_Widths.calls  t176 _ A36.out).mono ?_); rintro e w69 ⟨v177, rfl, ho0, hb⟩; refine ⟨_, rfl, ?_⟩; have HO178 := Aside0.mk (Kd.R_lower (Kd.R_new' ho0 (Kd.R_lt (by (with_reducible repeat (first | apply Kd.R_alloc | apply Kd.R_drewN | apply Kd.R_drew)); exact HO_8.out))) (bZ (bR3 HB.out))); replace HO_8 := Aside0.mk (Kd.R_elder' (by (with_reducible repeat (first | apply Kd.R_alloc | apply Kd.R_drewN | apply Kd.R_drew)); exact HO_8.out) (Kd.R_base ho0) hb); replace BK163 := Aside0.mk (bB3 BK163.out hb); replace BK170 := Aside0.mk (bB3 BK170.out hb); replace HB := Aside0.mk (bS3 HB.out hb); (try clear hb); (try clear hk); (try clear ho0)) | ((with_reducible refine gate_builtin (b := .append) (xs := #[.tmp 52, .tmp 53]) rfl ?_); (try (refine gate_guard (by rfl) ?_; dsimp only)); at_builtin; refine R_append_keep (kd := .i64) (w0 := w) w.heap.size rfl (.tmp 52) (.tmp 53) 38 3 (.int .i64 0) 8 rfl Try.underlying38 info3 rfl (by decide) (by omega) (.slice Ao68 x8_2.length co68) x8_2 (-6) [.int .i64 (-6)] (fun k_ => some k_ ≠ (v177 : Value).ownBlock) (fun _ => False) rfl rfl ?aP (fun _ hk => hk.elim) ?aF ?aO ?aB ?aS ?aL ?_; (case aP => exact rfl); (case aB => exact (bR3 HB.out)); (case aF => exact (fun k_ hk => Kd.fresh' (Kd.R_lt (by (with_reducible repeat (first | apply Kd.R_alloc | apply Kd.R_drewN | apply Kd.R_drew)); exact HO178.out)) k_ hk)); (case aO => exact (by (with_reducible repeat (first | apply Kd.R_alloc | apply Kd.R_drewN | apply Kd.R_drew)); exact Kd.R_mono HO_8.out (fun _ hk => hk.2))); (case aS => exact (bZ (bR3 HB.out))); (case aL => have := LMc37.out; omega); intro v180 w70 ho hb hg hat hkeep; rw [← Ny179.out] at ho; have n0_ := Aside0.mk (blk_grown (g := gb163) (o := .cells #[.int .i64 t157, .int .u64 t158, .int .u64 t159, .int .u64 t160, .int .i64 t161] 33 (0, 0)) (bK3 BK163.out) hg (Kd.R_ne HO_8.out BK163.out (by decide))); have n1_ := Aside0.mk (blk_grown (g := gb170) (o := .cells #[.int .i64 t164, .int .u64 t165, .int .u64 t166, .int .u64 t167, .int .i64 t168] 33 (0, 0)) (bK3 BK170.out) hg (Kd.R_ne HO_8.out BK170.out (by decide))); have n2_ := Aside0.mk (Kd.R_after (ok := (fun _ => True)) (by (with_reducible repeat (first | apply Kd.R_alloc | apply Kd.R_drewN | apply Kd.R_drew)); exact HO178.out) hg hat); have n3_ := Aside0.mk (hb); have n4_ := Aside0.mk (ho); clear BK163; clear BK170; clear HO178; clear HB; clear HO_8; have HO_8 := Aside0.mk hkeep; clear hkeep; have BK163 := n0_; have BK170 := n1_; have HO178 := n2_; have HB := n3_; have HO181 := n4_; clear n0_ n1_ n2_ n3_ n4_; clear ho hb hg hat; obtain ⟨Ao71, co71, eo71⟩ := Kd.R_slice HO178.out; subst eo71; have p182 : 0 ≤ (0 : Int) := (by omega); have q182 : 0 < (t176.length : Int) := of_decide_eq_true (by first | (with_reducible assumption) | assumption); obtain ⟨ad182, e182, hx182_0⟩ := Kd.at_int (Kd.R_reads' HO178.out).2.2 0 p182 q182; cases e182; have qi182 : (0 < t176.length) = True := eq_true (by omega); (try rw [show ((0 : Int)).toNat = 0 from rfl] at hx182_0); (try rw [Addr.add_zero'] at hx182_0); replace p182 := eq_true p182; replace q182 := eq_true q182; have p183 : 0 ≤ (1 : Int) := (by omega); have q183 : 1 < (t176.length : Int) := of_decide_eq_true (by first | (with_reducible assumption) | assumption); obtain ⟨ad183, e183, hx183_0⟩ := Kd.at_int (Kd.R_reads' HO178.out).2.2 1 p183 q183; obtain rfl : ad182 = ad183 := (by injection e183); (try simp only [show (1 : Int).toNat = 1 from rfl, Nat.reduceMul, Nat.reduceEqDiff, Go.Addr.add, ↓reduceIte] at hx183_0); have qi183 : (1 < t176.length) = True := eq_true (by omega); (try rw [show ((1 : Int)).toNat = 1 from rfl] at hx183_0); replace p183 := eq_true p183; replace q183 := eq_true q183))
             go_ret
             exact ⟨eR3, bR3 HB.out⟩
           ·
            rw [if_neg c41] at H
            exact absurd H (by simp)
          ·
           rw [if_neg c40] at H
           have c40b0 : ((rd t176 0) == 8) = false := beq_eq_false_iff_ne.mpr c40
           have c40b1 : ((rd t176 0) != 8) = true := bne_iff_ne.mpr c40
           obtain rfl := Option.some.inj H
           obtain ⟨Ao72, co72, eo72⟩ := Kd.R_slice HO_8.out
           subst eo72
           go_wp2_with (first | ((with_reducible refine gX_ 12 51 rfl rfl ?_); refine goesY_ (some 51) Try.func12 #[] ?_; (with_reducible refine (shape_Widths.calls  t176 _ A36.out).mono ?_); rintro e w73 ⟨v177, rfl, ho0, hb⟩; refine ⟨_, rfl, ?_⟩; have HO178 := Aside0.mk (Kd.R_lower (Kd.R_new' ho0 (Kd.R_lt (by (with_reducible repeat (first | apply Kd.R_alloc | apply Kd.R_drewN | apply Kd.R_drew)); exact HO_8.out))) (bZ (bR3 HB.out))); replace HO_8 := Aside0.mk (Kd.R_elder' (by (with_reducible repeat (first | apply Kd.R_alloc | apply Kd.R_drewN | apply Kd.R_drew)); exact HO_8.out) (Kd.R_base ho0) hb); replace BK163 := Aside0.mk (bB3 BK163.out hb); replace BK170 := Aside0.mk (bB3 BK170.out hb); replace HB := Aside0.mk (bS3 HB.out hb); (try clear hb); (try clear hk); (try clear ho0)) | ((with_reducible refine gate_builtin (b := .append) (xs := #[.tmp 52, .tmp 53]) rfl ?_); (try (refine gate_guard (by rfl) ?_; dsimp only)); at_builtin; refine R_append_keep (kd := .i64) (w0 := w) w.heap.size rfl (.tmp 52) (.tmp 53) 38 3 (.int .i64 0) 8 rfl Try.underlying38 info3 rfl (by decide) (by omega) (.slice Ao72 x8_2.length co72) x8_2 (-6) [.int .i64 (-6)] (fun k_ => some k_ ≠ (v177 : Value).ownBlock) (fun _ => False) rfl rfl ?aP (fun _ hk => hk.elim) ?aF ?aO ?aB ?aS ?aL ?_; (case aP => exact rfl); (case aB => exact (bR3 HB.out)); (case aF => exact (fun k_ hk => Kd.fresh' (Kd.R_lt (by (with_reducible repeat (first | apply Kd.R_alloc | apply Kd.R_drewN | apply Kd.R_drew)); exact HO178.out)) k_ hk)); (case aO => exact (by (with_reducible repeat (first | apply Kd.R_alloc | apply Kd.R_drewN | apply Kd.R_drew)); exact Kd.R_mono HO_8.out (fun _ hk => hk.2))); (case aS => exact (bZ (bR3 HB.out))); (case aL => have := LMc37.out; omega); intro v180 w74 ho hb hg hat hkeep; rw [← Ny179.out] at ho; have n0_ := Aside0.mk (blk_grown (g := gb163) (o := .cells #[.int .i64 t157, .int .u64 t158, .int .u64 t159, .int .u64 t160, .int .i64 t161] 33 (0, 0)) (bK3 BK163.out) hg (Kd.R_ne HO_8.out BK163.out (by decide))); have n1_ := Aside0.mk (blk_grown (g := gb170) (o := .cells #[.int .i64 t164, .int .u64 t165, .int .u64 t166, .int .u64 t167, .int .i64 t168] 33 (0, 0)) (bK3 BK170.out) hg (Kd.R_ne HO_8.out BK170.out (by decide))); have n2_ := Aside0.mk (Kd.R_after (ok := (fun _ => True)) (by (with_reducible repeat (first | apply Kd.R_alloc | apply Kd.R_drewN | apply Kd.R_drew)); exact HO178.out) hg hat); have n3_ := Aside0.mk (hb); have n4_ := Aside0.mk (ho); clear BK163; clear BK170; clear HO178; clear HB; clear HO_8; have HO_8 := Aside0.mk hkeep; clear hkeep; have BK163 := n0_; have BK170 := n1_; have HO178 := n2_; have HB := n3_; have HO181 := n4_; clear n0_ n1_ n2_ n3_ n4_; clear ho hb hg hat; obtain ⟨Ao75, co75, eo75⟩ := Kd.R_slice HO178.out; subst eo75; have p182 : 0 ≤ (0 : Int) := (by omega); have q182 : 0 < (t176.length : Int) := of_decide_eq_true (by first | (with_reducible assumption) | assumption); obtain ⟨ad182, e182, hx182_0⟩ := Kd.at_int (Kd.R_reads' HO178.out).2.2 0 p182 q182; cases e182; have qi182 : (0 < t176.length) = True := eq_true (by omega); (try rw [show ((0 : Int)).toNat = 0 from rfl] at hx182_0); (try rw [Addr.add_zero'] at hx182_0); replace p182 := eq_true p182; replace q182 := eq_true q182))
           go_ret
           exact ⟨eR3, bR3 HB.out⟩
         ·
          rw [if_neg c39] at H
          exact absurd H (by simp)
        ·
         rw [if_neg c38] at H
         have c38b0 : ((t176.length : Int) == 4) = false := beq_eq_false_iff_ne.mpr c38
         have c38b1 : ((t176.length : Int) != 4) = true := bne_iff_ne.mpr c38
         obtain rfl := Option.some.inj H
         obtain ⟨Ao76, co76, eo76⟩ := Kd.R_slice HO_8.out
         subst eo76
         go_wp2_with (first | ((with_reducible refine gX_ 12 51 rfl rfl ?_); refine goesY_ (some 51) Try.func12 #[] ?_; (with_reducible refine (shape_Widths.calls  t176 _ A36.out).mono ?_); rintro e w77 ⟨v177, rfl, ho0, hb⟩; refine ⟨_, rfl, ?_⟩; have HO178 := Aside0.mk (Kd.R_lower (Kd.R_new' ho0 (Kd.R_lt (by (with_reducible repeat (first | apply Kd.R_alloc | apply Kd.R_drewN | apply Kd.R_drew)); exact HO_8.out))) (bZ (bR3 HB.out))); replace HO_8 := Aside0.mk (Kd.R_elder' (by (with_reducible repeat (first | apply Kd.R_alloc | apply Kd.R_drewN | apply Kd.R_drew)); exact HO_8.out) (Kd.R_base ho0) hb); replace BK163 := Aside0.mk (bB3 BK163.out hb); replace BK170 := Aside0.mk (bB3 BK170.out hb); replace HB := Aside0.mk (bS3 HB.out hb); (try clear hb); (try clear hk); (try clear ho0)) | ((with_reducible refine gate_builtin (b := .append) (xs := #[.tmp 52, .tmp 53]) rfl ?_); (try (refine gate_guard (by rfl) ?_; dsimp only)); at_builtin; refine R_append_keep (kd := .i64) (w0 := w) w.heap.size rfl (.tmp 52) (.tmp 53) 38 3 (.int .i64 0) 8 rfl Try.underlying38 info3 rfl (by decide) (by omega) (.slice Ao76 x8_2.length co76) x8_2 (-6) [.int .i64 (-6)] (fun k_ => some k_ ≠ (v177 : Value).ownBlock) (fun _ => False) rfl rfl ?aP (fun _ hk => hk.elim) ?aF ?aO ?aB ?aS ?aL ?_; (case aP => exact rfl); (case aB => exact (bR3 HB.out)); (case aF => exact (fun k_ hk => Kd.fresh' (Kd.R_lt (by (with_reducible repeat (first | apply Kd.R_alloc | apply Kd.R_drewN | apply Kd.R_drew)); exact HO178.out)) k_ hk)); (case aO => exact (by (with_reducible repeat (first | apply Kd.R_alloc | apply Kd.R_drewN | apply Kd.R_drew)); exact Kd.R_mono HO_8.out (fun _ hk => hk.2))); (case aS => exact (bZ (bR3 HB.out))); (case aL => have := LMc37.out; omega); intro v180 w78 ho hb hg hat hkeep; rw [← Ny179.out] at ho; have n0_ := Aside0.mk (blk_grown (g := gb163) (o := .cells #[.int .i64 t157, .int .u64 t158, .int .u64 t159, .int .u64 t160, .int .i64 t161] 33 (0, 0)) (bK3 BK163.out) hg (Kd.R_ne HO_8.out BK163.out (by decide))); have n1_ := Aside0.mk (blk_grown (g := gb170) (o := .cells #[.int .i64 t164, .int .u64 t165, .int .u64 t166, .int .u64 t167, .int .i64 t168] 33 (0, 0)) (bK3 BK170.out) hg (Kd.R_ne HO_8.out BK170.out (by decide))); have n2_ := Aside0.mk (Kd.R_after (ok := (fun _ => True)) (by (with_reducible repeat (first | apply Kd.R_alloc | apply Kd.R_drewN | apply Kd.R_drew)); exact HO178.out) hg hat); have n3_ := Aside0.mk (hb); have n4_ := Aside0.mk (ho); clear BK163; clear BK170; clear HO178; clear HB; clear HO_8; have HO_8 := Aside0.mk hkeep; clear hkeep; have BK163 := n0_; have BK170 := n1_; have HO178 := n2_; have HB := n3_; have HO181 := n4_; clear n0_ n1_ n2_ n3_ n4_; clear ho hb hg hat; obtain ⟨Ao79, co79, eo79⟩ := Kd.R_slice HO178.out; subst eo79))
         go_ret
         exact ⟨eR3, bR3 HB.out⟩
       ·
        rw [if_neg c37] at H
        exact absurd H (by simp)
/-- THE ONE PURE STATEMENT of vernierlaw05_ShapeOfs: yours. -/
def vernierlaw05_ShapeOfs.Pure : Prop := ∀ (a0 : Int), (Lit.int .i64 a0).wf = true → ∃ k, vernierlaw05_ShapeOfs.f k a0 = some true
theorem vernierlaw05_ShapeOfs.walk (P : vernierlaw05_ShapeOfs.Pure) (a0 : Int) (w : World) (w0 : (Lit.int .i64 a0).wf = true) :
  Calls Try.prog 4 #[.int .i64 a0] w fun e w' => e = .returned (.bool true) ∧ Below w.heap.size w w' := by
 obtain ⟨k, h⟩ := P a0 w0
 refine (vernierlaw05_ShapeOfs.calls k a0 true w h).mono ?_
 rintro e w' ⟨rfl, hd⟩
 exact ⟨rfl, hd⟩
end Go.Proofs.Ytogldofffdiflaa.F
