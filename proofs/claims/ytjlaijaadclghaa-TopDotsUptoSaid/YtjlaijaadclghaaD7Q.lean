/- Walk of the law's code over two lists of up .. -/
import Derived.Test.YtjlaijaadclghaaA15Q
import Derived.Test.YtjlaijaadclghaaD4Q
namespace Go.Proofs.Ytjlaijaadclghaa.F
open RowKit YtjlaijaadclghaaW PrintWords PrintLast PrintMore
attribute [local go_sem high] xor_u64 xor_u32
set_option linter.all false
structure RunD (kf m L : Nat) (at_ : Nat) (da db : Nat → Int) (nar : Nat → Bool) (ka kb sa sb fa fb : Nat → Int) (na nb : Nat → Bool) (vn : Nat → Bool) (vl : Nat → List Int) (vE : Nat → Int) (p : Int) : Prop where
 m2 : 2 ≤ m
 m16 : m ≤ 16
 small : L ≤ 400
 at0 : at_ ≤ L
 d1 : ∀ i, i < L → vernierref06_Decode.f kf (4 * (m : Int)) (da i) = some (ka i, na i, sa i, fa i)
 d2 : ∀ i, i < L → vernierref06_Decode.f kf (4 * (m : Int)) (db i) = some (kb i, nb i, sb i, fb i)
 nar0 : nar 0 = false
 nars : ∀ i, i < L → nar (i + 1) = (nar i || ka i == 2 || kb i == 2)
 v0 : vn 0 = false ∧ vl 0 = [] ∧ vE 0 = 0
 vs : ∀ i, i < L → (ka i == 2 || kb i == 2) = true → vn (i + 1) = vn i ∧ vl (i + 1) = vl i ∧ vE (i + 1) = vE i
 vp : ∀ i, i < L → (ka i == 2 || kb i == 2) = false → ∃ (p1 p2 p3 : Bool) (l1 l2 l3 : List Int) (E1 E2 E3 : Int), verniertop_valOf.f kf (ka i) (na i) (sa i) (fa i) = some (p1, l1, E1) ∧ verniertop_valOf.f kf (kb i) (nb i) (sb i) (fb i) = some (p2, l2, E2) ∧ verniertop_times.f kf p1 l1 E1 p2 l2 E2 = some (p3, l3, E3) ∧ verniertop_plus.f kf (vn i) (vl i) (vE i) p3 l3 E3 = some (vn (i + 1), vl (i + 1), vE (i + 1))
 isnar : nar L = true → vernierref05_Power.f kf (wrap64 (4 * (m : Int) - 1)) = some p
 near : nar L = false → ∀ (W : World) (A : Option Addr) (c : Nat), Kd.C (Kd.int .i64) W A (vl L).length (vl L) → (vl L).length ≤ c → Calls Try.prog 12 #[.int .i64 (4 * (m : Int)), .int .u64 p, .agg #[.bool (vn L), .slice A (vl L).length c, .int .i64 (vE L)]] W fun e w' => e = .returned (.bool true) ∧ Below W.heap.size W w'
def LstW (W : World) (A : Option Addr) (L : Nat) (da : Nat → Int) : Prop := 0 < L → ∃ ba oa, A = some ⟨ba, oa, none⟩ ∧ ba < W.heap.size ∧ ∀ j, j < L → W.cell? ⟨ba, oa + j, none⟩ = some (.int .u64 (da j))
def upD (f : Nat → Int) (i : Nat) : List Value := (List.range i).map fun j => Value.int .u64 (f j)
theorem upD_succ (f : Nat → Int) (i : Nat) : upD f (i + 1) = upD f i ++ [.int .u64 (f i)] := by unfold upD; rw [List.range_succ, List.map_append]; rfl
theorem upD_len (f : Nat → Int) (i : Nat) : (upD f i).length = i := by unfold upD; simp
theorem own_lst {w : World} {B n cc : Nat} {C : Option Addr} {f : Nat → Int} (h : w.ownsRow B 23 1 (.slice C n cc) n (upD f n)) : LstW w C n f := fun h0 => by
 rcases h.2 with ⟨_, e⟩ | ⟨g, cap, cur, e, a, b, c⟩
 ·
  omega
 ·
  injection e with e1 _ _
  subst e1
  refine ⟨g, 0, rfl, (Array.getElem?_eq_some_iff.1 b).1, fun j hj => ?_⟩
  rw [Nat.zero_add, h.cellAt j (by omega)]
  unfold upD
  rw [List.getElem?_map, List.getElem?_range hj]
  rfl
theorem info_23 : ∃ i0, Try.prog.info? 23 = some i0 ∧ i0.zero = some (.int .u64 0) ∧ i0.size = 1 ∧ i0.bytes = 8 := by
 have h : (Try.prog.info? 23).map (fun i => (i.zero, i.size, i.bytes)) = some (some (.int .u64 0), 1, 8) := by kernel_rfl
 obtain ⟨i0, e, h⟩ := Option.map_eq_some_iff.1 h
 injection h with h1 h
 injection h with h2 h3
 exact ⟨i0, e, h1, h2, h3⟩
set_option maxHeartbeats 16000000 in
set_option maxRecDepth 100000 in
theorem dots_some {kf m L at_ : Nat} {da db : Nat → Int} {nar : Nat → Bool} {ka kb sa sb fa fb : Nat → Int} {na nb : Nat → Bool} {vn : Nat → Bool} {vl : Nat → List Int} {vE : Nat → Int} {p : Int}
  (R : RunD kf m L at_ da db nar ka kb sa sb fa fb na nb vn vl vE p) (his : vernierref05_Is.f (4 * (m : Int)) = some true)
  (A Bq : Option Addr) (ca cb : Nat) (from_ : Int) (hpick : verniertop_pick.f from_ (wrap64 ((L : Int) + 1)) = some (at_ : Int)) (w : World)
  (hA : LstW w A L da) (hB : LstW w Bq L db)
  (hdot : Calls Try.prog 4 #[.int .i64 (4 * (m : Int)), .slice A L ca, .slice Bq L cb] w fun e w' => e = .returned (.tuple #[.int .u64 p, errW none]) ∧ Below w.heap.size w w')
  (hdot2 : ∀ W C D cc cd, LstW W C L (fun j => db ((at_ + j) % L)) → LstW W D L (fun j => da ((at_ + j) % L)) → Calls Try.prog 4 #[.int .i64 (4 * (m : Int)), .slice C L cc, .slice D L cd] W fun e w' => e = .returned (.tuple #[.int .u64 p, errW none]) ∧ Below W.heap.size W w') :
  Calls Try.prog 3 #[.int .i64 (4 * (m : Int)), .slice A L ca, .slice Bq L cb, .int .i64 from_] w fun e w' => e = .returned (.bool true) ∧ Below w.heap.size w w' := by
 obtain ⟨i0, hi0, hz0, hz1, hz2⟩ := info_23
 have hu25 := Try.underlying25
 have hu32 := Try.underlying32
 have hu35 := Try.underlying35
 have hu22 := Try.underlying22
 have HR := Aside0.mk R
 have A3 := Aside0.mk hdot
 have A4 := Aside0.mk his
 have A5 := Aside0.mk hpick
 have A8 := Aside0.mk hdot2
 have HA := Aside0.mk hA
 have HBq := Aside0.mk hB
 have hsm := R.small
 have c0 : ((L : Int) == (L : Int)) = true := beq_self_eq_true _
 have c1 : decide ((400 : Int) < (L : Int)) = false := decide_eq_false (by omega)
 clear R hdot his hpick hdot2 hA hB hsm
 go_enter Try.func3, Try.ntmps3
 go_upto_region 2 with (first
  | (go_at_call 4; (with_reducible refine (A3.out).mono ?_); rintro e w1 ⟨rfl, hw1⟩; have HB1 := Aside0.mk hw1; clear hw1; simp only [errW_none]))
 go_upto_region 9 with (first
  | (go_at_call 5; (with_reducible refine (vernierref05_Is.calls _ true _ A4.out).mono ?_); rintro e w' ⟨rfl, ⟨nd, rfl⟩⟩))
 have HI0 : Aside0 (InvD w w1.heap.size (w1.heap.size + 1) (upD (fun j => db ((at_ + j) % L)) 0) (upD (fun j => da ((at_ + j) % L)) 0) (vn 0) (vl 0) (vE 0) (.slice none 0 0) (.slice none 0 0) (.slice none 0 0) ((w1.drewN nd).alloc (.cells #[.bool false, .slice none 0 0, .int .i64 0] 32 (0, 0)))) := ⟨by
  have hb1 := HB1.out
  refine ⟨below_alloc (pw_below_drewN hb1 nd) _, ?_, ?_, ?_, ?_, ?_, ?_⟩
  ·
   rw [HR.out.v0.1, HR.out.v0.2.2]; exact alloc_new (w1.drewN nd) _
  ·
   rw [HR.out.v0.2.1]; exact Kd.R_nil _ _ _ _ _
  ·
   exact ⟨rfl, .inl ⟨rfl, rfl⟩⟩
  ·
   exact ⟨rfl, .inl ⟨rfl, rfl⟩⟩
  ·
   intro k h; cases h
  ·
   have := hb1.size
   refine ⟨this, by omega, ?_⟩
   show w1.heap.size + 1 ≤ (w1.heap.push _).size
   rw [Array.size_push]; exact Nat.le_refl _⟩
 generalize hB : w1.heap.size + 1 = B at *
 generalize hg : w1.heap.size = g at *
 go_upto_region 14 with (first
  | (go_at_call 6; (with_reducible refine (verniertop_pick.calls from_ _ (at_ : Int) _ A5.out).mono ?_); rintro e w' ⟨rfl, ⟨nk, rfl⟩⟩))
 have HG := Aside0.mk hg
 have HGB := Aside0.mk hB
 clear hg hB
 go_wp2
 go_loopg [13, 14, 15, 17] L (fun kq v13 v14 v15 v17 W => ∃ (i : Nat) (u cv dv : Value), v13 = .bool (nar i) ∧ v14 = cv ∧ v15 = dv ∧ v17 = .int .i64 (i : Int) ∧ Aside0 (kq + i = L) ∧ Aside0 (InvD w g B (upD (fun j => db ((at_ + j) % L)) i) (upD (fun j => da ((at_ + j) % L)) i) (vn i) (vl i) (vE i) u cv dv W))
 case atStart => exact ⟨0, _, _, _, by rw [HR.out.nar0], rfl, rfl, rfl, ⟨rfl⟩, ⟨HI0.out.drewN _⟩⟩
 case round =>
  obtain ⟨i, u, cv, dv, rfl, rfl, rfl, rfl, HK, HI⟩ := hrel
  clear HI0
  have hsm := HR.out.small
  by_cases hi : i < L
  ·
   have c0 : decide (i < L) = true := decide_eq_true hi
   obtain ⟨ba, oa, hAe, hba, hla⟩ := HA.out (by omega)
   obtain ⟨bb, ob, hBe, hbb, hlb⟩ := HBq.out (by omega)
   subst hAe
   subst hBe
   obtain ⟨kk, hkk⟩ : ∃ kk, kk = (at_ + i) % L := ⟨_, rfl⟩
   have hkL : kk < L := by rw [hkk]; exact Nat.mod_lt _ (by omega)
   obtain ⟨pa, ha_⟩ : ∃ x, x = da i := ⟨_, rfl⟩
   obtain ⟨pb, hb_⟩ : ∃ x, x = db i := ⟨_, rfl⟩
   obtain ⟨qa, hak⟩ : ∃ x, x = da kk := ⟨_, rfl⟩
   obtain ⟨qb, hbk⟩ : ∃ x, x = db kk := ⟨_, rfl⟩
   obtain ⟨xs, hxs⟩ : ∃ x, x = upD (fun j => db ((at_ + j) % L)) i := ⟨_, rfl⟩
   obtain ⟨ys, hys⟩ : ∃ x, x = upD (fun j => da ((at_ + j) % L)) i := ⟨_, rfl⟩
   have hxs1 : upD (fun j => db ((at_ + j) % L)) (i + 1) = xs ++ [.int .u64 qb] := by rw [upD_succ, hxs, hbk, hkk]
   have hys1 : upD (fun j => da ((at_ + j) % L)) (i + 1) = ys ++ [.int .u64 qa] := by rw [upD_succ, hys, hak, hkk]
   have HX1 := Aside0.mk hxs1
   have HY1 := Aside0.mk hys1
   have hxl : xs.length = i := by rw [hxs]; exact upD_len _ _
   have hyl : ys.length = i := by rw [hys]; exact upD_len _ _
   have HXL := Aside0.mk hxl
   have HYL := Aside0.mk hyl
   rw [← hxs, ← hys] at HI
   have hD1 := HR.out.d1 i hi
   have hD2 := HR.out.d2 i hi
   rw [← ha_] at hD1
   rw [← hb_] at hD2
   have A6 := Aside0.mk hD1
   have A7 := Aside0.mk hD2
   have HC : Aside0 (∀ W, Below w.heap.size w W → W.cell? ⟨ba, oa + i, none⟩ = some (.int .u64 pa) ∧ W.cell? ⟨bb, ob + i, none⟩ = some (.int .u64 pb) ∧ W.cell? ⟨ba, oa + kk, none⟩ = some (.int .u64 qa) ∧ W.cell? ⟨bb, ob + kk, none⟩ = some (.int .u64 qb)) := ⟨fun W hW => by
    have hc : ∀ p : Addr, p.block < w.heap.size → W.cell? p = w.cell? p := fun p hp => hW.cell hp
    rw [ha_, hb_, hak, hbk]
    exact ⟨(hc _ hba).trans (hla i hi), (hc _ hbb).trans (hlb i hi), (hc _ hba).trans (hla kk hkL), (hc _ hbb).trans (hlb kk hkL)⟩⟩
   clear hla hlb hba hbb hxs hys hxs1 hys1 hxl hyl ha_ hb_ hak hbk hD1 hD2
   go_upto_block 1 with (fail)
   go_cut [13, 14, 15] (fun v13 v14 v15 wc => v13 = .bool (nar (i + 1)) ∧ ∃ u', Aside0 (InvD w g B (upD (fun j => db ((at_ + j) % L)) (i + 1)) (upD (fun j => da ((at_ + j) % L)) (i + 1)) (vn (i + 1)) (vl (i + 1)) (vE (i + 1)) u' v14 v15 wc))
   case rest =>
    obtain ⟨rfl, u', HI9⟩ := hcut
    go_wp2
    go_roundg (gk - 1)
    case measure => have := HK.out; omega
    case rel => exact ⟨i + 1, _, _, _, rfl, rfl, rfl, by first | rfl | (simp; done), ⟨by have := HK.out; omega⟩, HI9⟩
   case first =>
    have hat0 := HR.out.at0
    have e1 : IntKind.i64.wrap ((at_ : Int) + (i : Int)) = ((at_ + i : Nat) : Int) := by rw [wrap_small _ (by omega) (by omega)]; omega
    have e2 : Int.tmod ((at_ + i : Nat) : Int) (L : Int) = (kk : Int) := by rw [Int.tmod_eq_emod_of_nonneg (by omega), hkk]; rfl
    have e3 : ((at_ : Int) + (i : Int)) % (L : Int) = (kk : Int) := by rw [hkk]; rfl
    have HE3 := Aside0.mk e3
    clear e3 hkk
    go_upto_region 18 with (fail)
    clear e1 e2 hat0
    rw [HE3.out]
    obtain ⟨q0, q1, q2, q3⟩ := HC.out wr HI.out.below
    go_upto_region 19 with (first
     | ((with_reducible refine gate_builtin (b := .append) (xs := #[.tmp 80, .tmp 85]) rfl ?_); at_builtin; refine wpList_append_lies _ rfl (.tmp 80) (.tmp 85) 22 rfl B 23 i0 (.int .u64 0) 1 8 hu22 hi0 hz0 hz1 hz2 rfl (by decide) _ xs.length xs rfl (HI.out.step (below_alloc (Below.refl _ _) _)).rc ⟨wr.heap.size, 0, none⟩ 1 1 [.int .u64 qb] rfl rfl (World.news_of_block (alloc_new wr (.cells #[.int .u64 qb] 23 (0, 0)))) (by simp [Value.oneCell']) (by decide) (by have := HXL.out; show _ ≤ 9223372036854775807; omega) (by have := HXL.out; omega) (HI.out.step (below_alloc (Below.refl _ _) _)).lt.2.2 _ rfl ?_; intro gc cc w2 hown hgrow hat hlt; have HI2 := Aside0.mk (InvD.c (HI.out.step (below_alloc (Below.refl _ _) (.cells #[.int .u64 qb] 23 (0, 0)))) hown hgrow (hat.imp (fun e => e.symm) (fun e => by rw [e]; rfl))); clear hown hgrow hat hlt))
    clear q0 q1 q2 q3
    obtain ⟨q0, q1, q2, q3⟩ := HC.out w2 HI2.out.below
    go_upto_region 20 with (first
     | ((with_reducible refine gate_builtin (b := .append) (xs := #[.tmp 87, .tmp 92]) rfl ?_); at_builtin; refine wpList_append_lies _ rfl (.tmp 87) (.tmp 92) 22 rfl B 23 i0 (.int .u64 0) 1 8 hu22 hi0 hz0 hz1 hz2 rfl (by decide) _ ys.length ys rfl (HI2.out.step (below_alloc (Below.refl _ _) _)).rd ⟨w2.heap.size, 0, none⟩ 1 1 [.int .u64 qa] rfl rfl (World.news_of_block (alloc_new w2 (.cells #[.int .u64 qa] 23 (0, 0)))) (by simp [Value.oneCell']) (by decide) (by have := HYL.out; show _ ≤ 9223372036854775807; omega) (by have := HYL.out; omega) (HI2.out.step (below_alloc (Below.refl _ _) _)).lt.2.2 _ rfl ?_; intro gd cd w3 hown hgrow hat hlt; have HI3 := Aside0.mk (InvD.d (HI2.out.step (below_alloc (Below.refl _ _) (.cells #[.int .u64 qa] 23 (0, 0)))) hown hgrow (hat.imp (fun e => e.symm) (fun e => by rw [e]; rfl))); clear hown hgrow hat hlt))
    clear q0 q1 q2 q3 HI HI2
    obtain ⟨q0, q1, q2, q3⟩ := HC.out w3 HI3.out.below
    go_upto_region 21 with (first
     | (go_at_call 7; (with_reducible refine (vernierref06_Decode.calls kf (4 * (m : Int)) pa (ka i) (na i) (sa i) (fa i) _ A6.out).mono ?_); rintro e W5 ⟨rfl, hb5⟩; have HI5 := Aside0.mk (HI3.out.step hb5); clear hb5))
    clear q0 q1 q2 q3
    obtain ⟨gA, hgA⟩ : ∃ gA, gA = W5.heap.size := ⟨_, rfl⟩
    obtain ⟨W6, hW6⟩ : ∃ W6, W6 = W5.alloc (.cells #[.int .i64 (ka i), .bool (na i), .int .i64 (sa i), .int .u64 (fa i)] 35 (0, 0)) := ⟨_, rfl⟩
    have HBA : Aside0 (W6.heap[gA]? = some (.cells #[.int .i64 (ka i), .bool (na i), .int .i64 (sa i), .int .u64 (fa i)] 35 (0, 0))) := ⟨by rw [hW6, hgA]; exact alloc_new W5 _⟩
    have HI6 := Aside0.mk (HI5.out.step (V := W6) (by rw [hW6]; exact below_alloc (Below.refl _ _) _))
    rw [← hW6, ← hgA]
    clear hW6 hgA HI3 HI5
    obtain ⟨q0, q1, q2, q3⟩ := HC.out W6 HI6.out.below
    go_upto_region 22 with (first
     | (go_at_call 7; (with_reducible refine (vernierref06_Decode.calls kf (4 * (m : Int)) pb (kb i) (nb i) (sb i) (fb i) _ A7.out).mono ?_); rintro e W7 ⟨rfl, hb7⟩; have HI7 := Aside0.mk (HI6.out.step hb7); have HBA7 := Aside0.mk ((hb7.block gA (Array.getElem?_eq_some_iff.1 HBA.out).1).trans HBA.out); clear hb7))
    clear q0 q1 q2 q3
    obtain ⟨gB, hgB⟩ : ∃ gB, gB = W7.heap.size := ⟨_, rfl⟩
    obtain ⟨W8, hW8⟩ : ∃ W8, W8 = W7.alloc (.cells #[.int .i64 (kb i), .bool (nb i), .int .i64 (sb i), .int .u64 (fb i)] 35 (0, 0)) := ⟨_, rfl⟩
    have HBB : Aside0 (W8.heap[gB]? = some (.cells #[.int .i64 (kb i), .bool (nb i), .int .i64 (sb i), .int .u64 (fb i)] 35 (0, 0))) := ⟨by rw [hW8, hgB]; exact alloc_new W7 _⟩
    have HBA8 : Aside0 (W8.heap[gA]? = some (.cells #[.int .i64 (ka i), .bool (na i), .int .i64 (sa i), .int .u64 (fa i)] 35 (0, 0))) := ⟨by rw [hW8, alloc_old W7 _ gA (Array.getElem?_eq_some_iff.1 HBA7.out).1]; exact HBA7.out⟩
    have HI8 := Aside0.mk (HI7.out.step (V := W8) (by rw [hW8]; exact below_alloc (Below.refl _ _) _))
    rw [← hW8, ← hgB]
    clear hW8 hgB HI6 HI7 HBA HBA7
    obtain ⟨z0, z1, z2, z3, _, _, _, _⟩ := cl4 HBA8.out
    obtain ⟨y0, y1, y2, y3, _, _, _, _⟩ := cl4 HBB.out
    have HN := Aside0.mk (HR.out.nars i hi)
    have hKK : (ka i == 2 || kb i == 2) = true ∨ ((ka i == 2) = false ∧ (kb i == 2) = false) := by
     cases (ka i == 2) <;> cases (kb i == 2) <;> simp
    rcases hKK with hKK | ⟨h1, h2⟩
    ·
     have HVS := Aside0.mk (HR.out.vs i hi hKK)
     have HNR : Aside0 (nar (i + 1) = true) := ⟨by rw [HN.out, Bool.or_assoc, hKK, Bool.or_true]⟩
     have HKK := Aside0.mk hKK
     clear hKK
     cases h1 : (ka i == 2) <;> cases h2 : (kb i == 2)
     case false.false =>
      have h3 := HKK.out
      rw [h1, h2] at h3
      cases h3
     all_goals (
      go_wp2
      go_meet
      case rel =>
       obtain ⟨e1, e2, e3⟩ := HVS.out
       exact ⟨by rw [HNR.out], _, ⟨by rw [e1, e2, e3, HX1.out, HY1.out]; exact HI8.out⟩⟩)
    ·
     obtain ⟨p1, p2, p3, l1, l2, l3, E1, E2, E3, hv1, hv2, hv3, hv4⟩ := HR.out.vp i hi (by rw [h1, h2]; rfl)
     have V1 := Aside0.mk hv1
     have V2 := Aside0.mk hv2
     have V3 := Aside0.mk hv3
     have V4 := Aside0.mk hv4
     have HNR : Aside0 (nar (i + 1) = nar i) := ⟨by rw [HN.out, h1, h2, Bool.or_false, Bool.or_false]⟩
     clear hv1 hv2 hv3 hv4
     go_upto_region 24 with (fail)
     clear z0 z1 z2 z3 y0 y1 y2 y3 h1 h2
     as_aux_lemma =>
      have HY0 : HeldY gA gB (ka i) (na i) (sa i) (fa i) (kb i) (nb i) (sb i) (fb i) W8.drew := HeldY.of HBA8.out HBB.out
      have HS0 : Aside0 (Below W8.heap.size W8 W8.drew) := ⟨(Below.refl _ _).drew⟩
      have NB : Aside0 (W8.drew.heap[g]? = some (.cells #[.bool (vn i), u, .int .i64 (vE i)] 32 (0, 0))) := ⟨HI8.out.box⟩
      have HNE : Aside0 (gA ≠ g ∧ gB ≠ g) := ⟨by
       have h3 := HI8.out.box
       refine ⟨fun e => ?_, fun e => ?_⟩
       ·
        rw [← e, HBA8.out] at h3; injection h3 with h3; injection h3 with _ h3 _; exact absurd h3 (by decide)
       ·
        rw [← e, HBB.out] at h3; injection h3 with h3; injection h3 with _ h3 _; exact absurd h3 (by decide)⟩
      have HL8 := Aside0.mk HI8.out.lt
      have HNA := Aside0.mk (And.intro (row_neN (base := 0) HI8.out.row HBA8.out) (row_neN (base := 0) HI8.out.row HBB.out))
      obtain ⟨t0, t1, t2, f0, f1, f2⟩ := cl3 NB.out
      have HZ0 := Aside0.mk HY0
      refine wp_region_held_drew (S := fun W => W.cell? ⟨gA, 0, none⟩ = some (.int .i64 (ka i)) ∧ W.cell? ⟨gA, 1, none⟩ = some (.bool (na i)) ∧ W.cell? ⟨gA, 2, none⟩ = some (.int .i64 (sa i)) ∧ W.cell? ⟨gA, 3, none⟩ = some (.int .u64 (fa i)) ∧ W.cell? ⟨gB, 0, none⟩ = some (.int .i64 (kb i)) ∧ W.cell? ⟨gB, 1, none⟩ = some (.bool (nb i)) ∧ W.cell? ⟨gB, 2, none⟩ = some (.int .i64 (sb i)) ∧ W.cell? ⟨gB, 3, none⟩ = some (.int .u64 (fb i)) ∧
       Aside0 (W.heap[gA]? = some (.cells #[.int .i64 (ka i), .bool (na i), .int .i64 (sa i), .int .u64 (fa i)] 35 (0, 0)) ∧ W.heap[gB]? = some (.cells #[.int .i64 (kb i), .bool (nb i), .int .i64 (sb i), .int .u64 (fb i)] 35 (0, 0)))) (by kernel_rfl) HY0 (fun hHeld => ?_)
      refine wpAnyH_take (i := 1) (oi := _) (v := ?v1) rfl (by kernel_rfl) (by kernel_rfl) (by kernel_rfl) (fun _ _ _ h => h) (Or.inl ⟨by rfl, ?hy1⟩) (by assumption) ?rest1
      case hy1 => (intro w hSw; (try dsimp only at hSw); go_simp; (try (with_reducible rfl)))
      (try simp only [List.getElem_toArray, List.getElem_cons_succ, List.getElem_cons_zero, Act.put, List.setIfInBounds_toArray, List.set_cons_zero, List.set_cons_succ])
      refine wpAnyH_take (i := 3) (oi := _) (v := ?v3) rfl (by kernel_rfl) (by kernel_rfl) (by kernel_rfl) (fun _ _ _ h => h) (Or.inl ⟨by rfl, ?hy3⟩) (by assumption) ?rest3
      case hy3 => (intro w hSw; (try dsimp only at hSw); go_simp; (try (with_reducible rfl)))
      (try simp only [List.getElem_toArray, List.getElem_cons_succ, List.getElem_cons_zero, Act.put, List.setIfInBounds_toArray, List.set_cons_zero, List.set_cons_succ])
      iterate 6 all_goals (
       first
       | (refine wpAnyH_ready (rs := [2]) (by decide +kernel) (by simp) ?_; refine AllReadyH.cons rfl (fun K hK => ?_) AllReadyH.nil)
       | (refine wpAnyH_ready (rs := [0, 2]) (by decide +kernel) (by simp) ?_; refine AllReadyH.cons rfl (fun K hK => ?_) (AllReadyH.cons rfl (fun K hK => ?_) AllReadyH.nil))
       | (refine wpAnyH_ready (rs := [0, 4]) (by decide +kernel) (by simp) ?_; refine AllReadyH.cons rfl (fun K hK => ?_) (AllReadyH.cons rfl (fun K hK => ?_) AllReadyH.nil))
       | (refine wpAnyH_ready (rs := [0, 5]) (by decide +kernel) (by simp) ?_; refine AllReadyH.cons rfl (fun K hK => ?_) (AllReadyH.cons rfl (fun K hK => ?_) AllReadyH.nil))
       | (refine wpAnyH_ready (rs := [0]) (by decide +kernel) (by simp) ?_; refine AllReadyH.cons rfl (fun K hK => ?_) AllReadyH.nil)
       | (refine wpAnyH_ready (rs := [4]) (by decide +kernel) (by simp) ?_; refine AllReadyH.cons rfl (fun K hK => ?_) AllReadyH.nil)
       | (refine wpAnyH_ready (rs := [5]) (by decide +kernel) (by simp) ?_; refine AllReadyH.cons rfl (fun K hK => ?_) AllReadyH.nil)
       | (refine wpAnyH_ready (rs := [6]) (by decide +kernel) (by simp) ?_; refine AllReadyH.cons rfl (fun K hK => ?_) AllReadyH.nil)
       | (refine wpAnyH_ready (rs := [7]) (by decide +kernel) (by simp) ?_; refine AllReadyH.cons rfl (fun K hK => ?_) AllReadyH.nil)
       all_goals (
        (try simp only [List.getElem_toArray, List.getElem_cons_succ, List.getElem_cons_zero])
        go_simp
        try (first
          | (go_at_call 10; (with_reducible refine (verniertop_valOf.calls kf (ka i) (na i) (sa i) (fa i) p1 l1 E1 _ V1.out).mono ?_); rintro e wa ⟨v1, rfl, hRa, hba⟩; have HYa := Aside0.mk (HeldY.via hba HZ0.out); have HSa := Aside0.mk (below_step HS0.out hba); obtain ⟨A1, c1, rfl, hc1, hC1⟩ := Kd.R_reads hRa; have HC1 := Aside0.mk hC1; have HBa := Aside0.mk hba; have n8 := keepK hba NB.out; have NBa := Aside0.mk n8; clear t0 t1 t2 f0 f1 f2 hRa hC1 hba; obtain ⟨t0, t1, t2, f0, f1, f2⟩ := cl3 n8; clear n8)
          | (go_at_call 10; (with_reducible refine (verniertop_valOf.calls kf (kb i) (nb i) (sb i) (fb i) p2 l2 E2 _ V2.out).mono ?_); rintro e wb ⟨v2, rfl, hRb, hbb⟩; have HYb := Aside0.mk (HeldY.via hbb HYa.out); have HSb := Aside0.mk (below_step HSa.out hbb); obtain ⟨A2, c2, rfl, hc2, hC2⟩ := Kd.R_reads hRb; have HC2 := Aside0.mk hC2; have HC1b := Aside0.mk (Kd.C_below HC1.out hbb); have n8 := keepK hbb NBa.out; have NBb := Aside0.mk n8; clear t0 t1 t2 f0 f1 f2 hRb hC2 hbb; obtain ⟨t0, t1, t2, f0, f1, f2⟩ := cl3 n8; clear n8)
          | (go_at_call 9; (with_reducible refine (verniertop_times.calls kf p1 A1 c1 l1 E1 p2 A2 c2 l2 E2 p3 l3 E3 _ HC1b.out hc1 HC2.out hc2 V3.out).mono ?_); rintro e wm ⟨v3, rfl, hRm, hbm⟩; have HYm := Aside0.mk (HeldY.via hbm HYb.out); have HSm := Aside0.mk (below_step HSb.out hbm); obtain ⟨A3, c3, rfl, hc3, hC3⟩ := Kd.R_reads hRm; have HRm := Aside0.mk (Kd.R_lower hRm HSb.out.size); have n8 := keepK hbm NBb.out; have NBm := Aside0.mk n8; clear t0 t1 t2 f0 f1 f2 hRm hC3 hbm; obtain ⟨t0, t1, t2, f0, f1, f2⟩ := cl3 n8; clear n8)
          | (go_at_call 8; (with_reducible refine (plusK kf B W8.heap.size (vn i) p3 u (.slice A3 l3.length c3) (vl i) l3 (vl (i + 1)) (vE i) E3 (vE (i + 1)) (vn (i + 1)) _ HL8.out.2.2 HSm.out.size (row_upto HI8.out.row HSm.out) HRm.out V4.out).mono ?_); rintro e wp ⟨v4, rfl, hRp, hbp, hkp⟩; have HYp := Aside0.mk (HeldY.same HYm.out (hkp gA (Array.getElem?_eq_some_iff.1 HBA8.out).1 HNA.out.1) (hkp gB (Array.getElem?_eq_some_iff.1 HBB.out).1 HNA.out.2)); have HBp := Aside0.mk (below_then (below_lower HSm.out HL8.out.2.2) hbp); have HKp : Aside0 (∀ j, j < W8.heap.size → u.ownBlock ≠ some j → wp.heap[j]? = W8.heap[j]?) := ⟨fun j hj hn => (hkp j hj hn).trans (HSm.out.block j hj)⟩; obtain ⟨A4, c4, rfl, hc4, hC4⟩ := Kd.R_reads hRp; have HRp := Aside0.mk hRp; have n8 := (hbp.block g HL8.out.2.1).trans NBm.out; have NBp := Aside0.mk n8; clear hRp hkp hbp hC4 t0 t1 t2 f0 f1 f2; obtain ⟨t0, t1, t2, f0, f1, f2⟩ := cl3 n8; clear n8))
        refine hK.out _ _ ?_ (fun hHeld => ?_)
        focus (first | with_reducible exact HZ0.out | with_reducible exact HYa.out | with_reducible exact HYb.out | with_reducible exact HYm.out | with_reducible exact HYp.out | (with_reducible refine HeldY.set (HeldY.set (HeldY.set ?_ HNE.out) HNE.out) HNE.out; with_reducible exact HYp.out))
        clear hK K
        (try simp only [Act.put, List.setIfInBounds_toArray, List.set_cons_zero, List.set_cons_succ])))
      all_goals (
       refine wpAnyH_done (by kernel_rfl) ?_ _
       generalize hW9 : World.setCell _ _ _ = W9
       have hU9 : Upd wp W9 g (.cells #[.bool (vn (i + 1)), .slice A4 (vl (i + 1)).length c4, .int .i64 (vE (i + 1))] 32 (0, 0)) := by rw [← hW9]; exact three_set NBp.out
       have HI9 := Aside0.mk (InvD.v HI8.out HBp.out HKp.out HRp.out hU9.chg hU9.here)
       clear hW9 hU9 t0 t1 t2 f0 f1 f2 hHeld
       (try simp only [Exit.inBlock, Exit.then])
       go_step
       go_meet
       exact ⟨by rw [HNR.out], _, ⟨by rw [HX1.out, HY1.out]; exact HI9.out⟩⟩)
  ·
   have c0 : decide (i < L) = false := decide_eq_false hi
   have hiL : i = L := by have := HK.out; omega
   have HE : Aside0 (InvD w g B (upD (fun j => db ((at_ + j) % L)) L) (upD (fun j => da ((at_ + j) % L)) L) (vn L) (vl L) (vE L) u u14 u15 wr) := ⟨by rw [← hiL]; rw [hiL] at HI ⊢; exact HI.out⟩
   have HNL : Aside0 (nar i = nar L) := ⟨by rw [hiL]⟩
   clear hiL HI
   have hm2 := HR.out.m2
   have hm16 := HR.out.m16
   have h1 := HE.out.rc
   have h2 := HE.out.rd
   rw [upD_len] at h1 h2
   obtain ⟨C, cc, rfl⟩ := own_slice h1
   obtain ⟨D, cd, rfl⟩ := own_slice h2
   have HLC := Aside0.mk (own_lst h1)
   have HLD := Aside0.mk (own_lst h2)
   clear h1 h2 hsm
   go_upto_region 26 with (first
    | (go_at_call 4; (with_reducible refine (A8.out wr C D cc cd HLC.out HLD.out).mono ?_); rintro e W1 ⟨rfl, hb1⟩; have HE1 := Aside0.mk (HE.out.step hb1); clear hb1; simp only [errW_none]))
   have hpp : (p == p) = true := beq_self_eq_true p
   cases hn : nar i with
   | true =>
    have HNR : Aside0 (nar L = true) := ⟨HNL.out.symm.trans hn⟩
    clear hn
    have P1 := Aside0.mk (HR.out.isnar HNR.out)
    have P2 : Aside0 (vernierref05_Power.f kf (IntKind.i64.wrap (4 * (m : Int) - 1)) = some p) := ⟨by rw [i64_w]; exact P1.out⟩
    have P3 : Aside0 (vernierref05_Power.f kf (4 * (m : Int) - 1) = some p) := ⟨by have := P2.out; rwa [wrap_small _ (by omega) (by omega)] at this⟩
    go_wp2_with (first
     | (go_at_call 11; (with_reducible first | refine (vernierref05_Power.calls kf _ p _ P1.out).mono ?_ | refine (vernierref05_Power.calls kf _ p _ P2.out).mono ?_ | refine (vernierref05_Power.calls kf _ p _ P3.out).mono ?_); rintro e w' ⟨rfl, ⟨np, rfl⟩⟩))
    go_ret
    exact ⟨rfl, pw_below_drewN HE1.out.below _⟩
   | false =>
    have HNR : Aside0 (nar L = false) := ⟨HNL.out.symm.trans hn⟩
    clear hn
    obtain ⟨A', c, hu, hc, hC⟩ := Kd.R_reads HE1.out.row
    subst hu
    have HC4 := Aside0.mk hC
    clear hC
    obtain ⟨g0, g1, g2, h0, h1, h2⟩ := cl3 HE1.out.box
    go_wp2_with (first
     | (go_at_call 12; (with_reducible refine (HR.out.near HNR.out _ A' c HC4.out hc).mono ?_); rintro e W5 ⟨rfl, hb5⟩; have HE5 := Aside0.mk (HE1.out.step hb5); clear hb5))
    go_ret
    exact ⟨rfl, HE5.out.below⟩
end Go.Proofs.Ytjlaijaadclghaa.F
