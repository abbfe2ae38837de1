/- The row of the law verniertop_TopCounts: .. -/
import Derived.Test.YtgaaeehohhnocaaRows
import Derived.Deep.Fields
import Derived.Deep.Slices
import Derived.Carry
import Derived.Test.YtgaaeehohhnocaaC7b
import Derived.Test.YtgaaeehohhnocaaC5b
import Derived.WalkKit
import Derived.ProofKit
import Derived.OpenShut
import Derived.ShutString
import Derived.ChangeOld
import Derived.Below
import Derived.SizedLaws
namespace Go.Proofs.Ytgaaeehohhnocaa.topCounts
open Go.ChangeShapes Go.WideShapes Go.ChangeAt Go.RowKit
open Go.Proofs.Ytgaaeehohhnocaa.M
set_option linter.unusedVariables false
theorem own : ownKnob Try.prog.godebug = none := by kernel_rfl
theorem laidOut : laidOutB Try.prog = true := by kernel_rfl
/-- The whole script, at every index. -/
theorem open_list {H : Type} {enc : TypeId × Value → H} {w : World} {fuel : Nat} {cs : List Value} {x : DataW H × List MemPlace} (h : DataW.trod enc Try.prog w 0 (fun _ => true) true fuel 30 cs = some x) :
    ∃ (A : Option Addr) (len cap : Nat) (c : Nat → Int), cs = [.slice A len cap] ∧ (len ≤ cap ∧ cap ≤ 9223372036854775807) ∧ (∀ i, -9223372036854775808 ≤ c i ∧ c i < 9223372036854775808) ∧
      ∀ i, i < cap → ∃ ad : Addr, A = some ad ∧ ad.block < w.heap.size ∧ w.cell? (ad.add i) = some (.int .i64 (c i)) := by
  rcases Go.Deep.open_slice Try.underlying30 h with ⟨h0, _⟩ | ⟨a, len, cap, m, n, D, Pl, hcs, _, hl, hm, hmm, _, hx⟩
  · exact ⟨none, 0, 0, fun _ => 0, h0, ⟨Nat.le_refl _, by decide⟩, fun _ => (by show (-9223372036854775808 : Int) ≤ 0 ∧ (0 : Int) < 9223372036854775808; decide), fun i hi => absurd hi (by omega)⟩
  rw [if_pos rfl] at hmm
  subst hmm
  have hc1 : Try.prog.cellsOf 3 = 1 := by kernel_rfl
  rw [hc1] at hx
  have hE : ∀ i, ∃ t : Int, (-9223372036854775808 ≤ t ∧ t < 9223372036854775808) ∧ (i < m → a.block < w.heap.size ∧ w.cell? (a.add i) = some (.int .i64 t)) := by
    intro i
    by_cases hi : i < m
    · obtain ⟨cs', h1, h2⟩ := hx i hi
      rw [Nat.mul_one] at h1
      have hbl := World.cells?_block h1 (by decide)
      obtain ⟨_, hlen, hat⟩ := World.cells?_some h1
      match cs', hlen with
      | [v], _ =>
        obtain ⟨t, e0, f0, q0⟩ := DataW.trod_int Try.underlying3 h2
        obtain rfl : v = .int .i64 t := by simpa using e0
        refine ⟨t, wf_i64 q0, fun _ => ⟨?_, ?_⟩⟩
        · have e : (a.add i).block = a.block := by unfold Addr.add; split <;> rfl
          rw [← e]; exact hbl
        · have := hat 0 (by decide)
          simpa [Addr.add] using this
    · exact ⟨0, by decide, fun h => absurd h hi⟩
  obtain ⟨f, hf⟩ := Classical.axiomOfChoice hE
  exact ⟨some a, len, m, f, hcs, ⟨hl, hm⟩, fun i => (hf i).1, fun i hi => ⟨a, rfl, ((hf i).2 hi).1, ((hf i).2 hi).2⟩⟩
theorem pick_at {c : Int} (h0 : -9223372036854775808 ≤ c) (h1 : c < 9223372036854775808) : ∃ s : Int, (0 ≤ s ∧ s < 40) ∧ F.verniertop_pick.f c 40 = some s := by
  have hne : ¬ ((40 : Int) = 0) := by decide
  unfold F.verniertop_pick.f
  by_cases hc : c < 0
  · rw [if_pos hc, if_neg hne, w64 (x := c + 1) (by omega) (by omega), w64 (by omega) (by omega), Int.tmod_eq_emod_of_nonneg (by omega)]
    exact ⟨_, ⟨Int.emod_nonneg _ hne, Int.emod_lt_of_pos _ (by decide)⟩, rfl⟩
  · rw [if_neg hc, if_neg hne, Int.tmod_eq_emod_of_nonneg (by omega)]
    exact ⟨_, ⟨Int.emod_nonneg _ hne, Int.emod_lt_of_pos _ (by decide)⟩, rfl⟩
set_option maxRecDepth 100000 in
theorem bad (n short : Int) (v : Value) (p : Int) (his : F.vernierref05_Is.f n = some false) (w : World) :
    Calls Try.prog 4 #[.int .i64 n, .int .i64 short, v, .int .u64 p] w fun e w' => e = .returned (.bool true) ∧ Below w.heap.size w w' := F.counts_bad n short v p his w
/-- The law, of any script. -/
theorem walk {H : Type} {enc : TypeId × Value → H} {w : World} {fuel : Nat} {v : Value} {x : DataW H × List MemPlace} (h : DataW.trod enc Try.prog w 0 (fun _ => true) true fuel 30 [v] = some x) (n short p : Int) (hs0 : -9223372036854775808 ≤ short) (hs1 : short < 9223372036854775808) (hp : (Lit.int .u64 p).wf = true) :
    Calls Try.prog 4 #[.int .i64 n, .int .i64 short, v, .int .u64 p] w fun e w' => e = .returned (.bool true) ∧ Below w.heap.size w w' := by
  rcases width_or n with ⟨k, rfl, hk⟩ | hk
  · obtain ⟨m, hm⟩ : ∃ m, k = 4 * m := ⟨k / 4, by unfold Wd at hk; omega⟩
    have h4 : ((k : Nat) : Int) = 4 * (m : Int) := by omega
    have his := Is_w hk
    have g1 := hk.ge
    have g2 := hk.le
    have hmm : m = 2 ∨ m = 4 ∨ m = 8 ∨ m = 16 := by unfold Wd at hk; omega
    obtain ⟨a, rfl, ha⟩ := word hp
    obtain ⟨A, len, cap, c, hv, hlen, hc, hcell⟩ := open_list h
    obtain rfl : v = .slice A len cap := by simpa using hv
    obtain ⟨s, hs, hpick⟩ := pick_at hs0 hs1
    have hL : min len 400 ≤ 400 := Nat.min_le_right _ _
    have hLl : min len 400 ≤ len := Nat.min_le_left _ _
    obtain ⟨kf, vv, nw, q, hd, hdec, hR, hF⟩ := counts_ok (L := min len 400) (t0 := 2147483647 - s) hk hm ha hc (by omega) hL
    rw [h4] at his ⊢
    exact F.counts_walk hR hF hmm _ _ _ _ hd his hdec short s hpick hs rfl A len cap rfl hlen w (fun i hi => hcell i (by omega))
  · exact bad n short v p (Is_no hk) w
set_option maxRecDepth 100000 in
theorem lifted (os : Os) (started : os.Started) (H : Type) (enc : TypeId × Value → H) :
    ReturnsInHanded {} Try.checked os 4 .any (Rows.topCountsSpec.pre6 enc Try.prog Try.f4 Rows.topCountsRow.domain false) (Rows.topCountsSpec.post enc Try.prog Try.f4 false true false false) := by
  refine returnsInHanded_of_change_sized (C := Try.checked) own started (by kernel_rfl) Try.func4
    (ChangeSpec.witness6 (enc := enc) (C := Try.checked) false ⟨#[], #[.int .i64 0, .int .i64 0, .slice none 0 0, .int .u64 0], []⟩ 8 (by kernel_rfl) (by kernel_rfl) (by kernel_rfl) (by kernel_rfl)) ?_
  intro W base args ds gs before hval0 hW hcnd hsz0 _
  have hval : ∀ (j : Nat) t v, Try.f4.params[j]? = some t → args[j]? = some v → Value.okWide Try.prog W .any base t v := hval0
  have hW' := hW
  obtain ⟨p, q, hA0, hV, rfl, hfz, hnd⟩ := hW
  have hA : DataW.TrodAll enc Try.prog W 0 (fun _ => true) true Try.f4.params.toList args.toList ds p := hA0
  rw [Try.params4] at hA hval
  obtain ⟨v0, vs0, d0, ds0, p0, q0, hargs, rfl, rfl, h0, r0⟩ := trodAll_cons hA
  obtain ⟨v1, vs1, d1, ds1, p1, q1, rfl, rfl, rfl, h1, r1⟩ := trodAll_cons r0
  obtain ⟨v2, vs2, d2, ds2, p2, q2, rfl, rfl, rfl, h2, r2⟩ := trodAll_cons r1
  obtain ⟨v3, vs3, d3, ds3, p3, q3, rfl, rfl, rfl, h3, r3⟩ := trodAll_cons r2
  obtain ⟨rfl, rfl, rfl⟩ := trodAll_nil r3
  obtain rfl : args = #[v0, v1, v2, v3] := by cases args; simp_all
  obtain ⟨rfl, rfl⟩ := trodVars_none hV
  obtain ⟨n, rfl, rfl, rfl, wn⟩ := open_int Try.underlying3 (hval 0 3 v0 rfl rfl) h0
  obtain ⟨sh, rfl, rfl, rfl, ws⟩ := open_int Try.underlying3 (hval 1 3 v1 rfl rfl) h1
  obtain ⟨a0, len, cap, rfl⟩ := okWide_slice Try.underlying30 (hval 2 30 v2 rfl rfl)
  obtain ⟨pa, rfl, rfl, rfl, wp⟩ := open_int Try.underlying34 (hval 3 34 v3 rfl rfl) h3
  have hlt : ∀ x ∈ p2, x.block < W.heap.size := fun x hx => hW'.lt x (by simp [hx])
  obtain ⟨fuel, hf⟩ := h2
  have hb := wf_i64 ws
  clear hA0 hval0 hsz0
  refine (walk (v := .slice a0 len cap) (by simpa [Value.cells] using hf) n sh pa hb.1 hb.2 wp).mono fun e W' ⟨he, bel⟩ => ?_
  subst he
  exact ⟨_, rfl, _, _, _, [], _, [], hW', trodAll_mk1 (shut_bool Try.underlying4 _), (trodAll_cons_mk (shut_int Try.underlying3 wn) (trodAll_cons_mk (shut_int Try.underlying3 ws) (trodAll_cons_mk (Below.trod laidOut (by kernel_rfl) (of_decide_eq_true (by kernel_rfl)) ⟨fuel, hf⟩ bel hlt) (trodAll_cons_mk (shut_int Try.underlying34 wp) trodAll_mk0)))), rfl, bel.frame _, fun h => by cases h⟩
theorem over : Rows.topCountsRow.holds Try.pinned (OpenSpec.ofChange Rows.topCountsSpec) :=
  OpenClaim.holds_of_wide 4 Try.f4 rfl rfl rfl rfl rfl rfl rfl ⟨rfl, rfl, rfl, rfl, rfl⟩ rfl rfl rfl rfl rfl (by kernel_rfl) Try.func4 (by kernel_rfl)
    (of_decide_eq_true (by kernel_rfl)) (by unfold Func.isWrapper; first | (rw [if_pos (by decide +kernel)]; kernel_rfl) | (rw [if_neg (by decide +kernel)]; exact ⟨rfl, rfl⟩))
    (fun os started H enc _ => lifted os started H enc)
theorem proved : Rows.TopCountsSaid := over
#print axioms proved
end Go.Proofs.Ytgaaeehohhnocaa.topCounts
namespace Go.Proofs.Ytgaaeehohhnocaa
/-- The row, under a short name, for the claim. -/
theorem topCounts_holds : Rows.TopCountsSaid := topCounts.proved
end Go.Proofs.Ytgaaeehohhnocaa
