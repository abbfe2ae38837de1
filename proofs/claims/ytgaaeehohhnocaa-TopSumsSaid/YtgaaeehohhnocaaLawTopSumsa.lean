/- The row of the law verniertop_TopSums: called with any arguments of its .. -/
import Derived.Test.YtgaaeehohhnocaaRows
import Derived.Deep.Fields
import Derived.Deep.Slices
import Derived.Carry
import Derived.Test.YtgaaeehohhnocaaB6a
import Derived.WalkKit
import Derived.ProofKit
import Derived.OpenShut
import Derived.ShutString
import Derived.ChangeOld
import Derived.Below
import Derived.SizedLaws
namespace Go.Proofs.Ytgaaeehohhnocaa.topSums
open Go.ChangeShapes Go.WideShapes Go.ChangeAt Go.RowKit
open Go.Proofs.Ytgaaeehohhnocaa.M
set_option linter.unusedVariables false
theorem own : ownKnob Try.prog.godebug = none := by kernel_rfl
theorem laidOut : laidOutB Try.prog = true := by kernel_rfl
theorem fieldsX {H : Type} {enc : TypeId × Value → H} {w : World} {base : Nat} {spare : Nat → Bool} {held : Bool} {t : TypeId} {fs : Array Field} {fuel : Nat} {l : List Value} {x : DataW H × List MemPlace} (hs : Try.prog.underlying t = some (.struct fs)) (hone : Go.Deep.oneCellFields Try.prog fs = true)
    (h : DataW.trod enc Try.prog w base spare held fuel t l = some x) : ∃ (xs : List (DataW H × List MemPlace)) (n : Nat), x = (.agg (xs.map (·.1)), xs.flatMap (·.2)) ∧ xs.length = fs.size ∧ ∀ (i : Nat) (f : Field), fs[i]? = some f → DataW.trod enc Try.prog w base spare held n f.type ((l.drop i).take 1) = xs[i]? := by
  obtain ⟨xs, n, _, hx, _, hlen, hg⟩ := DataW.trod_struct hs h
  refine ⟨xs, n, hx, hlen, fun i f hf => ?_⟩
  have g := hg i f hf
  obtain ⟨o, k⟩ := Go.Deep.hone_of hone i f hf
  rw [o, k] at g
  exact g
theorem cells36 : Try.prog.cellsOf 36 = 3 := by kernel_rfl
set_option maxRecDepth 100000 in
/-- A deposit's cells. -/
theorem open_dep {H : Type} {enc : TypeId × Value → H} {w : World} {base : Nat} {spare : Nat → Bool} {held : Bool} {n : Nat} {cs : List Value} {x : DataW H × List MemPlace} (hl : cs.length = 3) (h : DataW.trod enc Try.prog w base spare held n 36 cs = some x) :
    ∃ (a b : Nat) (m : Bool), cs = [.int .u64 (a : Int), .int .u64 (b : Int), .bool m] ∧ a < 18446744073709551616 ∧ b < 18446744073709551616 := by
  obtain ⟨xs, n, hx, hlen, hg⟩ := fieldsX Try.underlying36 (by kernel_rfl) h
  match cs, hl, xs, hlen with
  | [c0, c1, c2], _, [y0, y1, y2], _ =>
    have g0 := hg 0 _ rfl
    obtain ⟨x0, e0, f0, q0⟩ := DataW.trod_int Try.underlying34 g0
    obtain rfl : c0 = .int .u64 x0 := by simpa using e0
    have g1 := hg 1 _ rfl
    obtain ⟨x1, e1, f1, q1⟩ := DataW.trod_int Try.underlying34 g1
    obtain rfl : c1 = .int .u64 x1 := by simpa using e1
    have g2 := hg 2 _ rfl
    obtain ⟨x2, e2, f2⟩ := DataW.trod_bool Try.underlying4 g2
    obtain rfl : c2 = .bool x2 := by simpa using e2
    obtain ⟨a, rfl, ha⟩ := word q0
    obtain ⟨b, rfl, hb⟩ := word q1
    exact ⟨a, b, x2, rfl, ha, hb⟩
/-- The whole list, at every index. -/
theorem open_list {H : Type} {enc : TypeId × Value → H} {w : World} {fuel : Nat} {cs : List Value} {x : DataW H × List MemPlace} (h : DataW.trod enc Try.prog w 0 (fun _ => true) true fuel 22 cs = some x) :
    cs = [.slice none 0 0] ∨ ∃ (ad : Addr) (len cap : Nat) (da db : Nat → Nat) (dm : Nat → Bool), cs = [.slice (some ad) len cap] ∧ (len ≤ cap ∧ cap ≤ 9223372036854775807) ∧ (∀ i, da i < 18446744073709551616) ∧ (∀ i, db i < 18446744073709551616) ∧ (0 < cap → ad.block < w.heap.size) ∧
      ∀ i, i < cap → w.cell? (ad.add (i * 3)) = some (.int .u64 (da i : Int)) ∧ w.cell? ((ad.add (i * 3)).add 1) = some (.int .u64 (db i : Int)) ∧ w.cell? ((ad.add (i * 3)).add 2) = some (.bool (dm i)) := by
  rcases Go.Deep.open_slice Try.underlying22 h with ⟨h0, _⟩ | ⟨a, len, cap, m, n, D, Pl, hcs, _, hl, hm, hmm, _, hx⟩
  · exact Or.inl h0
  right
  rw [if_pos rfl] at hmm
  subst hmm
  rw [cells36] at hx
  have hE : ∀ i, ∃ t : Nat × Nat × Bool, t.1 < 18446744073709551616 ∧ t.2.1 < 18446744073709551616 ∧ (i < m → a.block < w.heap.size ∧ w.cell? (a.add (i * 3)) = some (.int .u64 (t.1 : Int)) ∧ w.cell? ((a.add (i * 3)).add 1) = some (.int .u64 (t.2.1 : Int)) ∧ w.cell? ((a.add (i * 3)).add 2) = some (.bool t.2.2)) := by
    intro i
    by_cases hi : i < m
    · obtain ⟨cs', h1, h2⟩ := hx i hi
      have hbl := World.cells?_block h1 (by decide)
      obtain ⟨_, hlen, hat⟩ := World.cells?_some h1
      obtain ⟨x, y, z, rfl, hx1, hy1⟩ := open_dep hlen h2
      refine ⟨(x, y, z), hx1, hy1, fun _ => ⟨?_, ?_, ?_, ?_⟩⟩
      · have e : (a.add (i * 3)).block = a.block := by unfold Addr.add; split <;> rfl
        rw [← e]; exact hbl
      · have := hat 0 (by decide)
        simpa [Addr.add] using this
      · have := hat 1 (by decide)
        simpa [Addr.add] using this
      · have := hat 2 (by decide)
        simpa [Addr.add] using this
    · exact ⟨(0, 0, false), by decide, by decide, fun h => absurd h hi⟩
  obtain ⟨f, hf⟩ := Classical.axiomOfChoice hE
  exact ⟨a, len, m, fun i => (f i).1, fun i => (f i).2.1, fun i => (f i).2.2, hcs, ⟨hl, hm⟩, fun i => (hf i).1, fun i => (hf i).2.1, fun h0 => ((hf 0).2.2 h0).1, fun i hi => ((hf i).2.2 hi).2⟩
theorem pick_at {c : Int} {L : Nat} (h0 : -9223372036854775808 ≤ c) (h1 : c < 9223372036854775808) (hL : L ≤ 400) : ∃ at_ : Nat, at_ ≤ L ∧ F.verniertop_pick.f c ((L : Int) + 1) = some (at_ : Int) := by
  have hne : ¬ ((L : Int) + 1 = 0) := by omega
  unfold F.verniertop_pick.f
  by_cases hc : c < 0
  · rw [if_pos hc, if_neg hne, w64 (x := c + 1) (by omega) (by omega), w64 (by omega) (by omega), Int.tmod_eq_emod_of_nonneg (by omega)]
    have a := Int.emod_nonneg (-(c + 1)) hne
    have b := Int.emod_lt_of_pos (-(c + 1)) (show (0 : Int) < (L : Int) + 1 by omega)
    exact ⟨(-(c + 1) % ((L : Int) + 1)).toNat, by omega, by rw [Int.toNat_of_nonneg a]⟩
  · rw [if_neg hc, if_neg hne, Int.tmod_eq_emod_of_nonneg (by omega)]
    have a := Int.emod_nonneg c hne
    have b := Int.emod_lt_of_pos c (show (0 : Int) < (L : Int) + 1 by omega)
    exact ⟨(c % ((L : Int) + 1)).toNat, by omega, by rw [Int.toNat_of_nonneg a]⟩
/-- The law, of any list. -/
theorem walk {H : Type} {enc : TypeId × Value → H} {w : World} {fuel : Nat} {v : Value} {x : DataW H × List MemPlace} (h : DataW.trod enc Try.prog w 0 (fun _ => true) true fuel 22 [v] = some x) (n c : Int) (back : Bool) (hc0 : -9223372036854775808 ≤ c) (hc1 : c < 9223372036854775808) :
    Calls Try.prog 3 #[.int .i64 n, v, .int .i64 c, .bool back] w fun e w' => e = .returned (.bool true) ∧ Below w.heap.size w w' := by
  rcases width_or n with ⟨k, rfl, hk⟩ | hk
  · have hk' := hk
    obtain ⟨m, hm⟩ : ∃ m, k = 4 * m := ⟨k / 4, by unfold Wd at hk; omega⟩
    have h4 : ((k : Nat) : Int) = 4 * (m : Int) := by omega
    have his := Is_w hk
    have g1 := hk.ge
    have g2 := hk.le
    rcases open_list h with hv | ⟨ad, len, cap, da, db, dm, hv, hlen, ha, hb, hbl, hcell⟩
    · obtain rfl : v = .slice none 0 0 := by simpa using hv
      obtain ⟨at_, hat, hp⟩ := pick_at (L := 0) hc0 hc1 (by decide)
      obtain ⟨kf, vv, p, v0, hd, _, hF⟩ := sums_ok (at_ := at_) (L := 0) back (da := fun _ => 0) (db := fun _ => 0) (fun _ => false) hk hm (fun _ => by decide) (fun _ => by decide) (by decide) hat
      rw [v0] at hF
      rw [h4] at his ⊢
      exact F.sums_none ⟨by omega, by omega⟩ hF _ _ _ _ hd his c at_ hp back w
    · obtain rfl : v = .slice (some ad) len cap := by simpa using hv
      have hL : min len 400 ≤ 400 := Nat.min_le_right _ _
      have hLl : min len 400 ≤ len := Nat.min_le_left _ _
      obtain ⟨at_, hat, hp⟩ := pick_at hc0 hc1 hL
      obtain ⟨kf, vv, p, v0, hd, hR, hF⟩ := sums_ok back (da := da) (db := db) dm hk hm ha hb hL hat
      rw [h4] at his ⊢
      refine F.sums_some hR hF _ _ _ _ hd his ad len cap rfl hlen c ?_ w (fun h0 => hbl (by omega)) (fun i hi => hcell i (by omega))
      rw [w64 (by omega) (by omega)]
      exact hp
  · obtain ⟨K, hK⟩ := Decode_no (p := 0) hk
    exact F.sums_bad K n _ _ _ _ v c back (hK K (Nat.le_refl _)) (Is_no hk) w
set_option maxRecDepth 100000 in
theorem lifted (os : Os) (started : os.Started) (H : Type) (enc : TypeId × Value → H) :
    ReturnsInHanded {} Try.checked os 3 .any (Rows.topSumsSpec.pre6 enc Try.prog Try.f3 Rows.topSumsRow.domain false) (Rows.topSumsSpec.post enc Try.prog Try.f3 false true false false) := by
  refine returnsInHanded_of_change_sized (C := Try.checked) own started (by kernel_rfl) Try.func3
    (ChangeSpec.witness6 (enc := enc) (C := Try.checked) false ⟨#[], #[.int .i64 0, .slice none 0 0, .int .i64 0, .bool false], []⟩ 8 (by kernel_rfl) (by kernel_rfl) (by kernel_rfl) (by kernel_rfl)) ?_
  intro W base args ds gs before hval0 hW hcnd hsz0 _
  have hval : ∀ (j : Nat) t v, Try.f3.params[j]? = some t → args[j]? = some v → Value.okWide Try.prog W .any base t v := hval0
  have hW' := hW
  obtain ⟨p, q, hA0, hV, rfl, hfz, hnd⟩ := hW
  have hA : DataW.TrodAll enc Try.prog W 0 (fun _ => true) true Try.f3.params.toList args.toList ds p := hA0
  rw [Try.params3] at hA hval
  obtain ⟨v0, vs0, d0, ds0, p0, q0, hargs, rfl, rfl, h0, r0⟩ := trodAll_cons hA
  obtain ⟨v1, vs1, d1, ds1, p1, q1, rfl, rfl, rfl, h1, r1⟩ := trodAll_cons r0
  obtain ⟨v2, vs2, d2, ds2, p2, q2, rfl, rfl, rfl, h2, r2⟩ := trodAll_cons r1
  obtain ⟨v3, vs3, d3, ds3, p3, q3, rfl, rfl, rfl, h3, r3⟩ := trodAll_cons r2
  obtain ⟨rfl, rfl, rfl⟩ := trodAll_nil r3
  obtain rfl : args = #[v0, v1, v2, v3] := by cases args; simp_all
  obtain ⟨rfl, rfl⟩ := trodVars_none hV
  obtain ⟨n, rfl, rfl, rfl, wn⟩ := open_int Try.underlying3 (hval 0 3 v0 rfl rfl) h0
  obtain ⟨a0, len, cap, rfl⟩ := okWide_slice Try.underlying22 (hval 1 22 v1 rfl rfl)
  obtain ⟨c, rfl, rfl, rfl, wc⟩ := open_int Try.underlying3 (hval 2 3 v2 rfl rfl) h2
  obtain ⟨back, rfl, rfl, rfl⟩ := open_bool Try.underlying4 (hval 3 4 v3 rfl rfl) h3
  have hlt : ∀ x ∈ p1, x.block < W.heap.size := fun x hx => hW'.lt x (by simp [hx])
  obtain ⟨fuel, hf⟩ := h1
  have hb := wf_i64 wc
  clear hA0 hval0 hsz0
  refine (walk (v := .slice a0 len cap) (by simpa [Value.cells] using hf) n c back hb.1 hb.2).mono fun e W' ⟨he, bel⟩ => ?_
  subst he
  exact ⟨_, rfl, _, _, _, [], _, [], hW', trodAll_mk1 (shut_bool Try.underlying4 _), (trodAll_cons_mk (shut_int Try.underlying3 wn) (trodAll_cons_mk (Below.trod laidOut (by kernel_rfl) (of_decide_eq_true (by kernel_rfl)) ⟨fuel, hf⟩ bel hlt) (trodAll_cons_mk (shut_int Try.underlying3 wc) (trodAll_cons_mk (shut_bool Try.underlying4 _) trodAll_mk0)))), rfl, bel.frame _, fun h => by cases h⟩
theorem over : Rows.topSumsRow.holds Try.pinned (OpenSpec.ofChange Rows.topSumsSpec) :=
  OpenClaim.holds_of_wide 3 Try.f3 rfl rfl rfl rfl rfl rfl rfl ⟨rfl, rfl, rfl, rfl, rfl⟩ rfl rfl rfl rfl rfl (by kernel_rfl) Try.func3 (by kernel_rfl)
    (of_decide_eq_true (by kernel_rfl)) (by unfold Func.isWrapper; first | (rw [if_pos (by decide +kernel)]; kernel_rfl) | (rw [if_neg (by decide +kernel)]; exact ⟨rfl, rfl⟩))
    (fun os started H enc _ => lifted os started H enc)
theorem proved : Rows.TopSumsSaid := over
#print axioms proved
end Go.Proofs.Ytgaaeehohhnocaa.topSums
namespace Go.Proofs.Ytgaaeehohhnocaa
/-- The row, under a short name, for the claim. -/
theorem topSums_holds : Rows.TopSumsSaid := topSums.proved
end Go.Proofs.Ytgaaeehohhnocaa
