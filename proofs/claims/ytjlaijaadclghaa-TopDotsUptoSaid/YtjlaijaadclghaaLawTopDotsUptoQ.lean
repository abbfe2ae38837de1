/- The row of the law verniertop_TopDots: called .. -/
import Derived.Test.YtjlaijaadclghaaRows
import Derived.Deep.Fields
import Derived.Deep.Slices
import Derived.Carry
import Derived.Test.YtjlaijaadclghaaD8Q
import Derived.WalkKit
import Derived.ProofKit
import Derived.OpenShut
import Derived.ShutString
import Derived.ChangeOld
import Derived.Below
import Derived.SizedLaws
import Derived.JoinedCond
namespace Go.Proofs.Ytjlaijaadclghaa.topDots
open Go.ChangeShapes Go.WideShapes Go.ChangeAt Go.RowKit
open Go.Proofs.Ytjlaijaadclghaa.M
set_option linter.unusedVariables false
theorem own : ownKnob Try.prog.godebug = none := by kernel_rfl
theorem laidOut : laidOutB Try.prog = true := by kernel_rfl
theorem cells23 : Try.prog.cellsOf 23 = 1 := by kernel_rfl
theorem bulk_one {H : Type} (d : DataW H) : 1 ≤ Rows.uptoBulk d := by
  cases d with
  | lit l => cases l <;> simp [Rows.uptoBulk]
  | _ => simp [Rows.uptoBulk]
theorem bulk_len {H : Type} : ∀ l : List (DataW H), l.length ≤ Rows.uptoBulkAll l
  | [] => Nat.zero_le _
  | d :: r => by
    have h1 := bulk_one d
    have h2 := bulk_len r
    simp only [Rows.uptoBulkAll, List.length_cons]
    omega
theorem bulk_slice {H : Type} (a b : List (DataW H)) : a.length ≤ Rows.uptoBulk (.slice a b) := by
  have := bulk_len a
  simp only [Rows.uptoBulk]
  omega
/-- A list of patterns, at every index. -/
theorem open_list {H : Type} {enc : TypeId × Value → H} {w : World} {fuel : Nat} {cs : List Value} {x : DataW H × List MemPlace} (h : DataW.trod enc Try.prog w 0 (fun _ => true) true fuel 22 cs = some x) :
    ∃ (A : Option Addr) (L cap : Nat) (da : Nat → Nat), cs = [.slice A L cap] ∧ (∀ i, da i < 18446744073709551616) ∧ F.LstW w A L (fun i => (da i : Int)) ∧ L ≤ Rows.uptoBulk x.1 := by
  rcases Go.Deep.open_slice1 Try.underlying22 cells23 h with ⟨h0, _⟩ | ⟨a, len, cap, m, n, V, D, Pl, hcs, _, hl, hm, hmm, hx, hV⟩
  · exact ⟨none, 0, 0, fun _ => 0, h0, fun _ => by show (0 : Nat) < 18446744073709551616; decide, fun h => absurd h (by decide), Nat.zero_le _⟩
  rw [if_pos rfl] at hmm
  subst hmm
  have hE : ∀ i, ∃ t : Nat, t < 18446744073709551616 ∧ (i < m → w.cell? (a.add i) = some (.int .u64 (t : Int))) := by
    intro i
    by_cases hi : i < m
    · obtain ⟨h1, h2⟩ := hV i hi
      obtain ⟨x0, e0, f0, q0⟩ := DataW.trod_int Try.underlying23 h2
      have e1 : V i = .int .u64 x0 := by simpa using e0
      obtain ⟨t, rfl, ht⟩ := word q0
      exact ⟨t, ht, fun _ => by rw [h1, e1]⟩
    · exact ⟨0, by decide, fun h => absurd h hi⟩
  obtain ⟨f, hf⟩ := Classical.axiomOfChoice hE
  refine ⟨some a, len, m, f, hcs, fun i => (hf i).1, fun h0 => ?_, ?_⟩
  · have h1 := (hf 0).2 (by omega)
    have h2 : a.add 0 = a := by unfold Addr.add; rw [if_pos rfl]
    rw [h2] at h1
    obtain ⟨ba, oa, sp⟩ := a
    have hsp : sp = none ∧ ba < w.heap.size := by
      unfold World.cell? at h1
      split at h1
      · rename_i c e fr hg
        refine ⟨?_, (Array.getElem?_eq_some_iff.1 hg).1⟩
        cases sp with
        | none => rfl
        | some s => simp at h1
      · cases h1
    obtain ⟨rfl, hlt⟩ := hsp
    refine ⟨ba, oa, rfl, hlt, fun j hj => ?_⟩
    have h3 := (hf j).2 (by omega)
    rw [← h3]
    congr 1
    unfold Addr.add
    split
    · rename_i z; rw [z]; rfl
    · rfl
  · rw [hx]
    have := bulk_slice ((List.range len).map D) ((List.range (m - len)).map fun j => D (len + j))
    rw [List.length_map, List.length_range] at this
    exact this
theorem pick_at {c : Int} {L : Nat} (h0 : -9223372036854775808 ≤ c) (h1 : c < 9223372036854775808) (hL : L ≤ 400) : ∃ at_ : Nat, at_ ≤ L ∧ F.verniertop_pick.f c ((L : Int) + 1) = some (at_ : Int) := by
  have hne : ¬ ((L : Int) + 1 = 0) := by omega
  unfold F.verniertop_pick.f
  by_cases hc : c < 0
  · rw [if_pos hc, if_neg hne, w64 (x := c + 1) (by omega) (by omega), w64 (by omega) (by omega), Int.tmod_eq_emod_of_nonneg (by omega)]
    have a := Int.emod_nonneg (-(c + 1)) hne
    have b := Int.emod_lt_of_pos (-(c + 1)) (show (0 : Int) < (L : Int) + 1 by omega)
    exact ⟨(-(c + 1) % ((L : Int) + 1)).toNat, by omega, by rw [Int.toNat_of_nonneg a]⟩
  · rw [if_neg hc, if_neg hne, Int.tmod_eq_emod_of_nonneg (by omega)]
    have a := Int.emod_nonneg c hne
    have b := Int.emod_lt_of_pos c (show (0 : Int) < (L : Int) + 1 by omega)
    exact ⟨(c % ((L : Int) + 1)).toNat, by omega, by rw [Int.toNat_of_nonneg a]⟩
/-- The law, of any two lists. -/
theorem walk {H : Type} {enc : TypeId × Value → H} {w : World} {f1 f2 : Nat} {va vb : Value} {x y : DataW H × List MemPlace} (h1 : DataW.trod enc Try.prog w 0 (fun _ => true) true f1 22 [va] = some x) (h2 : DataW.trod enc Try.prog w 0 (fun _ => true) true f2 22 [vb] = some y) (hbulk : Rows.uptoBulk x.1 ≤ 1048576) (n c : Int) (hc0 : -9223372036854775808 ≤ c) (hc1 : c < 9223372036854775808) :
    Calls Try.prog 3 #[.int .i64 n, va, vb, .int .i64 c] w fun e w' => e = .returned (.bool true) ∧ Below w.heap.size w w' := by
  rcases width_or n with ⟨k, rfl, hk⟩ | hk
  · have hk' := hk
    obtain ⟨m, hm⟩ : ∃ m, k = 4 * m := ⟨k / 4, by unfold Wd at hk; omega⟩
    have h4 : ((k : Nat) : Int) = 4 * (m : Int) := by omega
    have his := Is_w hk
    obtain ⟨A, L, ca, da, hva, ha, hA, hLb⟩ := open_list h1
    obtain ⟨B, L2, cb, db, hvb, hb, hB, _⟩ := open_list h2
    obtain rfl : va = .slice A L ca := by simpa using hva
    obtain rfl : vb = .slice B L2 cb := by simpa using hvb
    have hL : L ≤ 1048576 := by omega
    rw [h4] at his ⊢
    by_cases hl : L = L2
    · subst hl
      have hdot := dot_done hk hm ha hb hL A B ca cb w hA hB
      by_cases h400 : 400 < L
      · exact F.dots_long m A B L ca cb h400 c _ his w hdot
      · obtain ⟨at_, hat, hp⟩ := pick_at (L := L) hc0 hc1 (by omega)
        obtain ⟨kf, v, hR⟩ := dots_ok hk hm ha hb (show L ≤ 400 by omega) hat
        refine F.dots_some hR his A B ca cb c ?_ w hA hB hdot (fun W C D cc cd hC hD => ?_)
        · rw [w64 (by omega) (by omega)]
          exact hp
        · rw [← p_turn da db hat]
          exact dot_done hk hm (fun i => hb _) (fun i => ha _) hL C D cc cd W hC hD
    · obtain ⟨K, hK⟩ := Decode_ev hk (p := 0) (by decide)
      have hd := hK K (Nat.le_refl _)
      rw [means_eq, h4] at hd
      exact F.dots_len K m _ _ _ _ A B L L2 ca cb hl c hd his w
  · obtain ⟨K, hK⟩ := Decode_no (p := 0) hk
    exact F.dots_bad K n _ _ _ _ va vb c (hK K (Nat.le_refl _)) (Is_no hk) w
set_option maxRecDepth 100000 in
theorem contract (H : Type) (enc : TypeId × Value → H) (W : World) (base : Nat) (args : Array Value) (ds gs : List (DataW H)) (before : List MemPlace)
    (hval : ∀ (j : Nat) t v, Try.f3.params[j]? = some t → args[j]? = some v → Value.okWide Try.prog W .any base t v)
    (hW : DataW.Whole enc Try.prog Try.f3.params.toList Rows.topDotsSpec.vars false W args.toList ds gs before) (hk : Rows.uptoSmall H (ds ++ gs) = true) :
    Calls Try.prog 3 args W fun e W' => ∃ v, e = .returned v ∧ Rows.topDotsSpec.post enc Try.prog Try.f3 false true false false W args v W' := by
  have hW' := hW
  obtain ⟨p, q, hA0, hV, rfl, hfz, hnd⟩ := hW
  have hA : DataW.TrodAll enc Try.prog W 0 (fun _ => true) true Try.f3.params.toList args.toList ds p := hA0
  rw [Try.params3] at hA hval
  obtain ⟨v0, vs0, d0, ds0, p0, q0, hargs, rfl, rfl, h0, r0⟩ := trodAll_cons hA
  obtain ⟨v1, vs1, d1, ds1, p1, q1, rfl, rfl, rfl, h1, r1⟩ := trodAll_cons r0
  obtain ⟨v2, vs2, d2, ds2, p2, q2, rfl, rfl, rfl, h2, r2⟩ := trodAll_cons r1
  obtain ⟨v3, vs3, d3, ds3, p3, q3, rfl, rfl, rfl, h3, r3⟩ := trodAll_cons r2
  obtain ⟨rfl, rfl, rfl⟩ := trodAll_nil r3
  obtain rfl : args = #[v0, v1, v2, v3] := by cases args; simp_all
  obtain ⟨rfl, rfl⟩ := trodVars_none hV
  have hbulk : Rows.uptoBulk d1 ≤ 1048576 := by
    have h : Rows.uptoBulkAll ([d0, d1, d2, d3] ++ []) ≤ 1048576 := of_decide_eq_true hk
    simp only [List.append_nil, Rows.uptoBulkAll] at h
    omega
  obtain ⟨n, rfl, rfl, rfl, wn⟩ := open_int Try.underlying3 (hval 0 3 v0 rfl rfl) h0
  obtain ⟨a0, len, cap, rfl⟩ := okWide_slice Try.underlying22 (hval 1 22 v1 rfl rfl)
  obtain ⟨b0, blen, bcap, rfl⟩ := okWide_slice Try.underlying22 (hval 2 22 v2 rfl rfl)
  obtain ⟨c, rfl, rfl, rfl, wc⟩ := open_int Try.underlying3 (hval 3 3 v3 rfl rfl) h3
  have hlt1 : ∀ x ∈ p1, x.block < W.heap.size := fun x hx => hW'.lt x (by simp [hx])
  have hlt2 : ∀ x ∈ p2, x.block < W.heap.size := fun x hx => hW'.lt x (by simp [hx])
  obtain ⟨fuel1, hf1⟩ := h1
  obtain ⟨fuel2, hf2⟩ := h2
  have hb := wf_i64 wc
  clear hA0
  refine (walk (va := .slice a0 len cap) (vb := .slice b0 blen bcap) (by simpa [Value.cells] using hf1) (by simpa [Value.cells] using hf2) hbulk n c hb.1 hb.2).mono fun e W' ⟨he, bel⟩ => ?_
  subst he
  exact ⟨_, rfl, _, _, _, [], _, [], hW', trodAll_mk1 (shut_bool Try.underlying4 _), (trodAll_cons_mk (shut_int Try.underlying3 wn) (trodAll_cons_mk (Below.trod laidOut (by kernel_rfl) (of_decide_eq_true (by kernel_rfl)) ⟨fuel1, hf1⟩ bel hlt1) (trodAll_cons_mk (Below.trod laidOut (by kernel_rfl) (of_decide_eq_true (by kernel_rfl)) ⟨fuel2, hf2⟩ bel hlt2) (trodAll_cons_mk (shut_int Try.underlying3 wc) trodAll_mk0)))), rfl, bel.frame _, fun h => by cases h⟩
set_option maxRecDepth 100000 in
theorem lifted (os : Os) (started : os.Started) (H : Type) (enc : TypeId × Value → H) (F : Stop.Interp) :
    ReturnsInHanded {} Try.checked os 3 .any ((Rows.OpenSpec.upto Rows.topDotsSpec).pre6 enc Try.prog Try.f3 Rows.topDotsUptoRow.domain false) (((Rows.OpenSpec.upto Rows.topDotsSpec).at F).post enc Try.prog Try.f3 false true false false) := by
  refine returnsInHanded_of_cond (C := Try.checked) (s := Rows.OpenSpec.upto Rows.topDotsSpec) (k := Rows.uptoSmall) rfl own started (by kernel_rfl) Try.func3
    (OpenSpec.witness (enc := enc) (C := Try.checked) (s := Rows.OpenSpec.upto Rows.topDotsSpec) (k := Rows.uptoSmall) rfl false ⟨#[], #[.int .i64 0, .slice none 0 0, .slice none 0 0, .int .i64 0], []⟩ 8 (by kernel_rfl) (by kernel_rfl) (by kernel_rfl)
      (x := ([.lit (.int .i64 0), .nil, .nil, .lit (.int .i64 0)], [], [])) (by kernel_rfl) rfl (by kernel_rfl)) ?_
  intro W base args ds gs before hval hW _ hk _
  exact contract H enc W base args ds gs before hval hW hk
theorem over : Rows.topDotsUptoRow.holds Try.pinned (Rows.OpenSpec.upto Rows.topDotsSpec) :=
  OpenClaim.holds_of_cond 3 Try.f3 rfl rfl rfl rfl rfl rfl rfl ⟨rfl, rfl, rfl, rfl, rfl⟩ rfl rfl rfl rfl rfl (by kernel_rfl) Try.func3 (by kernel_rfl)
    (of_decide_eq_true (by kernel_rfl)) (by unfold Func.isWrapper; first | (rw [if_pos (by decide +kernel)]; kernel_rfl) | (rw [if_neg (by decide +kernel)]; exact ⟨rfl, rfl⟩))
    (fun os started H enc _ F => lifted os started H enc F)
theorem proved : Rows.TopDotsUptoSaid := over
#print axioms proved
end Go.Proofs.Ytjlaijaadclghaa.topDots
namespace Go.Proofs.Ytjlaijaadclghaa
/-- The row, under a short name, for the claim. -/
theorem topDotsUpto_holds : Rows.TopDotsUptoSaid := topDots.proved
end Go.Proofs.Ytjlaijaadclghaa
