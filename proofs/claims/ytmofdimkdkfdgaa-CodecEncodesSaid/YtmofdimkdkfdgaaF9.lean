/- Functions of the given program as plain Lean functions, and for each a proof that the program's call comes to just these answers; no further conditions. (Written by a program of this repo out of the translation.) -/
import Derived.Test.YtmofdimkdkfdgaaF0
import Derived.Test.YtmofdimkdkfdgaaF2
import Derived.Test.YtmofdimkdkfdgaaF6
import Derived.Test.YtmofdimkdkfdgaaF8
namespace Go.Proofs.Ytmofdimkdkfdgaa.F
open Go.RowKit Go.Proofs.YtmofdimkdkfdgaaW.PrintWords Go.Proofs.YtmofdimkdkfdgaaW.PrintLast Go.Proofs.YtmofdimkdkfdgaaW.PrintMore
attribute [local go_sem high] xor_u64 xor_u32 eqErr27 neErr27 eqErrL27 neErrL27
attribute [local go_sem] max2_int min2_int max_two min_two max_three min_three max_four min_four   -- for this text's walks alone
set_option linter.unusedVariables false
set_option linter.unusedSimpArgs false

attribute [local go_sem high] eqA40
/-! ### vernierlaw06_up: function 10 -/
def vernierlaw06_up.f (k : Nat)  : Option (Bool) := (codec_Decode.f k 8 68).bind fun bt206 => ((codec_Encode.f k 8 1 false 18 9223372036854775808).bind fun bt212 => (if bt206.2.2.2.2.isNone = true then (if bt212.2.isNone = true then (if (bt206.1 == 1 && (!bt206.2.1 && (bt206.2.2.1 == 0 && (bt206.2.2.2.1 == 13835058055282163712)))) = true then (some (bt212.1 == 125)) else (some false)) else (some false)) else (some false)))
theorem vernierlaw06_up.mono : ∀ k, LeO (vernierlaw06_up.f k ) (vernierlaw06_up.f (k + 1) ) := by
  intro  k
  unfold vernierlaw06_up.f
  repeat' first
      | (with_reducible exact codec_Decode.mono _ _ _)
      | (with_reducible exact codec_Encode.mono _ _ _ _ _ _)
      | (with_reducible exact LeO.refl _)
      | (with_reducible exact LeO.none _)
      | (with_reducible refine LeO.ite ?_ ?_)
      | (with_reducible refine LeO.bind ?_ (fun _ => ?_))
      | exact codec_Decode.mono _ _ _
      | exact codec_Encode.mono _ _ _ _ _ _
      | exact LeO.none _
      | refine LeO.ite ?_ ?_
      | refine LeO.bind ?_ (fun _ => ?_)
set_option maxHeartbeats 8000000 in
set_option maxRecDepth 100000 in
theorem vernierlaw06_up.calls (k : Nat)  (r : Bool) (w : World) (h : vernierlaw06_up.f k  = some r) :
    Calls Try.prog 10 #[] w fun e w' => e = .returned (.bool r) ∧ Below w.heap.size w w' := by
  have hu40 := Try.underlying40
  have hu27 := Try.underlying27
  have hu49 := Try.underlying49
  have HB := Aside0.mk (Below.refl w.heap.size w)
  have H : ((codec_Decode.f k 8 68).bind fun bt206 => ((codec_Encode.f k 8 1 false 18 9223372036854775808).bind fun bt212 => (if bt206.2.2.2.2.isNone = true then (if bt212.2.isNone = true then (if (bt206.1 == 1 && (!bt206.2.1 && (bt206.2.2.1 == 0 && (bt206.2.2.2.1 == 13835058055282163712)))) = true then (some (bt212.1 == 125)) else (some false)) else (some false)) else (some false)))) = some r := h
  clear h
  replace H := Option.bind_eq_some_iff.mp H
  obtain ⟨⟨t206, t207, t208, t209, t210⟩, A10, H⟩ := H
  replace H : ((codec_Encode.f k 8 1 false 18 9223372036854775808).bind fun bt212 => (if t210.isNone = true then (if bt212.2.isNone = true then (if (t206 == 1 && (!t207 && (t208 == 0 && (t209 == 13835058055282163712)))) = true then (some (bt212.1 == 125)) else (some false)) else (some false)) else (some false))) = some r := H
  have A1 := Aside0.mk A10
  clear A10
  replace H := Option.bind_eq_some_iff.mp H
  obtain ⟨⟨t212, t213⟩, A20, H⟩ := H
  replace H : (if t210.isNone = true then (if t213.isNone = true then (if (t206 == 1 && (!t207 && (t208 == 0 && (t209 == 13835058055282163712)))) = true then (some (t212 == 125)) else (some false)) else (some false)) else (some false)) = some r := H
  have A2 := Aside0.mk A20
  clear A20
  rcases t210 with _ | q214
  · have H1 : (if t213.isNone = true then (if (t206 == 1 && (!t207 && (t208 == 0 && (t209 == 13835058055282163712)))) = true then (some (t212 == 125)) else (some false)) else (some false)) = some r := by rw [if_pos (show (none : Option Int).isNone = true by rfl)] at H; exact H
    clear H
    have H := H1
    clear H1
    try simp only [errW_none, errW_some]
    rcases t213 with _ | q215
    · have H1 : (if (t206 == 1 && (!t207 && (t208 == 0 && (t209 == 13835058055282163712)))) = true then (some (t212 == 125)) else (some false)) = some r := by rw [if_pos (show (none : Option Int).isNone = true by rfl)] at H; exact H
      clear H
      have H := H1
      clear H1
      try simp only [errW_none, errW_some]
      by_cases c3 : (t206 == 1 && (!t207 && (t208 == 0 && (t209 == 13835058055282163712)))) = true
      · rw [if_pos c3] at H
        have c3b0 : (t206 == 1 && (!t207 && (t208 == 0 && (t209 == 13835058055282163712)))) = true := c3
        (try (have c3b1 : decide (t206 = 1 && (!t207 && (t208 == 0 && (t209 == 13835058055282163712)))) = true := by simpa using c3))
        (try (have c3b2 : (t206 == 1 && (!t207 && (t208 == 0 && (t209 == 13835058055282163712)))) = true := by simpa using c3))
        clear c3
        obtain rfl := Option.some.inj H
        go_enter Try.func10, Try.ntmps10
        go_wp2_with (first | ((with_reducible refine gC (f := 16) rfl ?_); (with_reducible refine gD (N := 6) rfl ?_); refine goesY_ (some 6) Try.func16 #[.int .i64 8, .int .u64 68] ?_; (with_reducible refine (codec_Decode.calls k 8 68 t206 t207 t208 t209 none _ A1.out).mono ?_); rintro e w4 ⟨rfl, hb⟩; refine ⟨_, rfl, ?_⟩; have n0_ := Aside0.mk (bS3 HB.out hb); clear HB; have HB := n0_; clear n0_; (try clear hb); (try clear hb2); (try clear hk); (try clear hi); (try simp only [errW_none, errW_some])) | ((with_reducible refine gD (N := 1) rfl ?_); refine bE3 1 #[.int .i64 0, .bool false, .int .i64 0, .int .u64 0] 40 ?hr ?_; (case hr => first | (go_simp; done) | (go_simp; rfl)); intro gb211 hg w5 hbox hb; have n0_ := Aside0.mk (bS3 HB.out hb); have n1_ := Aside0.mk (hbox); have n2_ := Aside0.mk ((bZ3 hg HB.out)); have n3_ := Aside0.mk ((bZ3 hg HB.out)); clear HB; have HB := n0_; have BK211 := n1_; have GW211 := n2_; have GE211 := n3_; clear n0_ n1_ n2_ n3_; clear hb hbox hg; have hcz6_0 : w5.cell? ⟨gb211, 0, none⟩ = some (.int .i64 0) := (blk_cell BK211.out 0).trans rfl; have hcz6_1 : w5.cell? ⟨gb211, 1, none⟩ = some (.bool false) := (blk_cell BK211.out 1).trans rfl; have hcz6_2 : w5.cell? ⟨gb211, 2, none⟩ = some (.int .i64 0) := (blk_cell BK211.out 2).trans rfl; have hcz6_3 : w5.cell? ⟨gb211, 3, none⟩ = some (.int .u64 0) := (blk_cell BK211.out 3).trans rfl; have hfz6_0 := blk_frozen BK211.out 0; have hfz6_1 := blk_frozen BK211.out 1; have hfz6_2 := blk_frozen BK211.out 2; have hfz6_3 := blk_frozen BK211.out 3) | ((with_reducible refine gC (f := 18) rfl ?_); (with_reducible refine gD (N := 11) rfl ?_); refine goesY_ (some 11) Try.func18 #[.int .i64 8, .agg #[.int .i64 1, .bool false, .int .i64 18, .int .u64 9223372036854775808]] ?_; (with_reducible refine (codec_Encode.calls k 8 1 false 18 9223372036854775808 t212 none _ A2.out).mono ?_); rintro e w7 ⟨rfl, hb⟩; refine ⟨_, rfl, ?_⟩; have n0_ := Aside0.mk (bB (g := gb211) (o := .cells #[.int .i64 t206, .bool t207, .int .i64 t208, .int .u64 t209] 40 (0, 0)) (by (with_reducible repeat (first | refine bN ?_ _ | refine bD ?_ | refine bA ?_ _)); refine blk_put (cs := #[.int .i64 t206, .bool t207, .int .i64 t208, .int .u64 0]) ?_ 3 _ rfl; (with_reducible repeat (first | refine bN ?_ _ | refine bD ?_ | refine bA ?_ _)); refine blk_put (cs := #[.int .i64 t206, .bool t207, .int .i64 0, .int .u64 0]) ?_ 2 _ rfl; (with_reducible repeat (first | refine bN ?_ _ | refine bD ?_ | refine bA ?_ _)); refine blk_put (cs := #[.int .i64 t206, .bool false, .int .i64 0, .int .u64 0]) ?_ 1 _ rfl; (with_reducible repeat (first | refine bN ?_ _ | refine bD ?_ | refine bA ?_ _)); refine blk_put (cs := #[.int .i64 0, .bool false, .int .i64 0, .int .u64 0]) ?_ 0 _ rfl; (with_reducible repeat (first | refine bN ?_ _ | refine bD ?_ | refine bA ?_ _)); exact BK211.out) hb); have n1_ := Aside0.mk (bS3 HB.out hb); clear BK211; clear HB; have BK211 := n0_; have HB := n1_; clear n0_ n1_; (try clear hb); (try clear hb2); (try clear hk); (try clear hi); (try simp only [errW_none, errW_some]); have hcz8_0 : w7.cell? ⟨gb211, 0, none⟩ = some (.int .i64 t206) := (blk_cell BK211.out 0).trans rfl; have hcz8_1 : w7.cell? ⟨gb211, 1, none⟩ = some (.bool t207) := (blk_cell BK211.out 1).trans rfl; have hcz8_2 : w7.cell? ⟨gb211, 2, none⟩ = some (.int .i64 t208) := (blk_cell BK211.out 2).trans rfl; have hcz8_3 : w7.cell? ⟨gb211, 3, none⟩ = some (.int .u64 t209) := (blk_cell BK211.out 3).trans rfl; have hfz8_0 := blk_frozen BK211.out 0; have hfz8_1 := blk_frozen BK211.out 1; have hfz8_2 := blk_frozen BK211.out 2; have hfz8_3 := blk_frozen BK211.out 3))
        go_ret
        exact ⟨by first | rfl | (simp [errW_none, errW_some] <;> rfl) | (simp [*, errW_none, errW_some] <;> rfl), by repeat (first | (with_reducible first | exact HB.out | apply pA | apply pN | apply p1 | refine pS ?_ GE211.out) | exact HB.out)⟩
      · rw [if_neg c3] at H
        have c3b0 : (t206 == 1 && (!t207 && (t208 == 0 && (t209 == 13835058055282163712)))) = false := by simpa using c3
        (try (have c3b1 : decide (t206 = 1 && (!t207 && (t208 == 0 && (t209 == 13835058055282163712)))) = false := by simpa using c3))
        (try (have c3b2 : (t206 == 1 && (!t207 && (t208 == 0 && (t209 == 13835058055282163712)))) = false := by simpa using c3))
        (try (have c3b3 : ¬ (t206 = 1 && (!t207 && (t208 == 0 && (t209 == 13835058055282163712)))) := by simpa using c3))
        clear c3
        obtain rfl := Option.some.inj H
        go_enter Try.func10, Try.ntmps10
        go_wp2_with (first | ((with_reducible refine gC (f := 16) rfl ?_); (with_reducible refine gD (N := 6) rfl ?_); refine goesY_ (some 6) Try.func16 #[.int .i64 8, .int .u64 68] ?_; (with_reducible refine (codec_Decode.calls k 8 68 t206 t207 t208 t209 none _ A1.out).mono ?_); rintro e w9 ⟨rfl, hb⟩; refine ⟨_, rfl, ?_⟩; have n0_ := Aside0.mk (bS3 HB.out hb); clear HB; have HB := n0_; clear n0_; (try clear hb); (try clear hb2); (try clear hk); (try clear hi); (try simp only [errW_none, errW_some])) | ((with_reducible refine gD (N := 1) rfl ?_); refine bE3 1 #[.int .i64 0, .bool false, .int .i64 0, .int .u64 0] 40 ?hr ?_; (case hr => first | (go_simp; done) | (go_simp; rfl)); intro gb211 hg w10 hbox hb; have n0_ := Aside0.mk (bS3 HB.out hb); have n1_ := Aside0.mk (hbox); have n2_ := Aside0.mk ((bZ3 hg HB.out)); have n3_ := Aside0.mk ((bZ3 hg HB.out)); clear HB; have HB := n0_; have BK211 := n1_; have GW211 := n2_; have GE211 := n3_; clear n0_ n1_ n2_ n3_; clear hb hbox hg; have hcz11_0 : w10.cell? ⟨gb211, 0, none⟩ = some (.int .i64 0) := (blk_cell BK211.out 0).trans rfl; have hcz11_1 : w10.cell? ⟨gb211, 1, none⟩ = some (.bool false) := (blk_cell BK211.out 1).trans rfl; have hcz11_2 : w10.cell? ⟨gb211, 2, none⟩ = some (.int .i64 0) := (blk_cell BK211.out 2).trans rfl; have hcz11_3 : w10.cell? ⟨gb211, 3, none⟩ = some (.int .u64 0) := (blk_cell BK211.out 3).trans rfl; have hfz11_0 := blk_frozen BK211.out 0; have hfz11_1 := blk_frozen BK211.out 1; have hfz11_2 := blk_frozen BK211.out 2; have hfz11_3 := blk_frozen BK211.out 3) | ((with_reducible refine gC (f := 18) rfl ?_); (with_reducible refine gD (N := 11) rfl ?_); refine goesY_ (some 11) Try.func18 #[.int .i64 8, .agg #[.int .i64 1, .bool false, .int .i64 18, .int .u64 9223372036854775808]] ?_; (with_reducible refine (codec_Encode.calls k 8 1 false 18 9223372036854775808 t212 none _ A2.out).mono ?_); rintro e w12 ⟨rfl, hb⟩; refine ⟨_, rfl, ?_⟩; have n0_ := Aside0.mk (bB (g := gb211) (o := .cells #[.int .i64 t206, .bool t207, .int .i64 t208, .int .u64 t209] 40 (0, 0)) (by (with_reducible repeat (first | refine bN ?_ _ | refine bD ?_ | refine bA ?_ _)); refine blk_put (cs := #[.int .i64 t206, .bool t207, .int .i64 t208, .int .u64 0]) ?_ 3 _ rfl; (with_reducible repeat (first | refine bN ?_ _ | refine bD ?_ | refine bA ?_ _)); refine blk_put (cs := #[.int .i64 t206, .bool t207, .int .i64 0, .int .u64 0]) ?_ 2 _ rfl; (with_reducible repeat (first | refine bN ?_ _ | refine bD ?_ | refine bA ?_ _)); refine blk_put (cs := #[.int .i64 t206, .bool false, .int .i64 0, .int .u64 0]) ?_ 1 _ rfl; (with_reducible repeat (first | refine bN ?_ _ | refine bD ?_ | refine bA ?_ _)); refine blk_put (cs := #[.int .i64 0, .bool false, .int .i64 0, .int .u64 0]) ?_ 0 _ rfl; (with_reducible repeat (first | refine bN ?_ _ | refine bD ?_ | refine bA ?_ _)); exact BK211.out) hb); have n1_ := Aside0.mk (bS3 HB.out hb); clear BK211; clear HB; have BK211 := n0_; have HB := n1_; clear n0_ n1_; (try clear hb); (try clear hb2); (try clear hk); (try clear hi); (try simp only [errW_none, errW_some]); have hcz13_0 : w12.cell? ⟨gb211, 0, none⟩ = some (.int .i64 t206) := (blk_cell BK211.out 0).trans rfl; have hcz13_1 : w12.cell? ⟨gb211, 1, none⟩ = some (.bool t207) := (blk_cell BK211.out 1).trans rfl; have hcz13_2 : w12.cell? ⟨gb211, 2, none⟩ = some (.int .i64 t208) := (blk_cell BK211.out 2).trans rfl; have hcz13_3 : w12.cell? ⟨gb211, 3, none⟩ = some (.int .u64 t209) := (blk_cell BK211.out 3).trans rfl; have hfz13_0 := blk_frozen BK211.out 0; have hfz13_1 := blk_frozen BK211.out 1; have hfz13_2 := blk_frozen BK211.out 2; have hfz13_3 := blk_frozen BK211.out 3))
        go_ret
        exact ⟨by first | rfl | (simp [errW_none, errW_some] <;> rfl) | (simp [*, errW_none, errW_some] <;> rfl), by repeat (first | (with_reducible first | exact HB.out | apply pA | apply pN | apply p1 | refine pS ?_ GE211.out) | exact HB.out)⟩
    · have H1 : (some false) = some r := by rw [if_neg (show ¬ (some q215).isNone = true by simp)] at H; exact H
      clear H
      have H := H1
      clear H1
      try simp only [errW_none, errW_some]
      obtain rfl := Option.some.inj H
      go_enter Try.func10, Try.ntmps10
      go_wp2_with (first | ((with_reducible refine gC (f := 16) rfl ?_); (with_reducible refine gD (N := 6) rfl ?_); refine goesY_ (some 6) Try.func16 #[.int .i64 8, .int .u64 68] ?_; (with_reducible refine (codec_Decode.calls k 8 68 t206 t207 t208 t209 none _ A1.out).mono ?_); rintro e w14 ⟨rfl, hb⟩; refine ⟨_, rfl, ?_⟩; have n0_ := Aside0.mk (bS3 HB.out hb); clear HB; have HB := n0_; clear n0_; (try clear hb); (try clear hb2); (try clear hk); (try clear hi); (try simp only [errW_none, errW_some])) | ((with_reducible refine gD (N := 1) rfl ?_); refine bE3 1 #[.int .i64 0, .bool false, .int .i64 0, .int .u64 0] 40 ?hr ?_; (case hr => first | (go_simp; done) | (go_simp; rfl)); intro gb211 hg w15 hbox hb; have n0_ := Aside0.mk (bS3 HB.out hb); have n1_ := Aside0.mk (hbox); have n2_ := Aside0.mk ((bZ3 hg HB.out)); have n3_ := Aside0.mk ((bZ3 hg HB.out)); clear HB; have HB := n0_; have BK211 := n1_; have GW211 := n2_; have GE211 := n3_; clear n0_ n1_ n2_ n3_; clear hb hbox hg; have hcz16_0 : w15.cell? ⟨gb211, 0, none⟩ = some (.int .i64 0) := (blk_cell BK211.out 0).trans rfl; have hcz16_1 : w15.cell? ⟨gb211, 1, none⟩ = some (.bool false) := (blk_cell BK211.out 1).trans rfl; have hcz16_2 : w15.cell? ⟨gb211, 2, none⟩ = some (.int .i64 0) := (blk_cell BK211.out 2).trans rfl; have hcz16_3 : w15.cell? ⟨gb211, 3, none⟩ = some (.int .u64 0) := (blk_cell BK211.out 3).trans rfl; have hfz16_0 := blk_frozen BK211.out 0; have hfz16_1 := blk_frozen BK211.out 1; have hfz16_2 := blk_frozen BK211.out 2; have hfz16_3 := blk_frozen BK211.out 3) | ((with_reducible refine gC (f := 18) rfl ?_); (with_reducible refine gD (N := 11) rfl ?_); refine goesY_ (some 11) Try.func18 #[.int .i64 8, .agg #[.int .i64 1, .bool false, .int .i64 18, .int .u64 9223372036854775808]] ?_; (with_reducible refine (codec_Encode.calls k 8 1 false 18 9223372036854775808 t212 (some q215) _ A2.out).mono ?_); rintro e w17 ⟨rfl, hb⟩; refine ⟨_, rfl, ?_⟩; have n0_ := Aside0.mk (bB (g := gb211) (o := .cells #[.int .i64 t206, .bool t207, .int .i64 t208, .int .u64 t209] 40 (0, 0)) (by (with_reducible repeat (first | refine bN ?_ _ | refine bD ?_ | refine bA ?_ _)); refine blk_put (cs := #[.int .i64 t206, .bool t207, .int .i64 t208, .int .u64 0]) ?_ 3 _ rfl; (with_reducible repeat (first | refine bN ?_ _ | refine bD ?_ | refine bA ?_ _)); refine blk_put (cs := #[.int .i64 t206, .bool t207, .int .i64 0, .int .u64 0]) ?_ 2 _ rfl; (with_reducible repeat (first | refine bN ?_ _ | refine bD ?_ | refine bA ?_ _)); refine blk_put (cs := #[.int .i64 t206, .bool false, .int .i64 0, .int .u64 0]) ?_ 1 _ rfl; (with_reducible repeat (first | refine bN ?_ _ | refine bD ?_ | refine bA ?_ _)); refine blk_put (cs := #[.int .i64 0, .bool false, .int .i64 0, .int .u64 0]) ?_ 0 _ rfl; (with_reducible repeat (first | refine bN ?_ _ | refine bD ?_ | refine bA ?_ _)); exact BK211.out) hb); have n1_ := Aside0.mk (bS3 HB.out hb); clear BK211; clear HB; have BK211 := n0_; have HB := n1_; clear n0_ n1_; (try clear hb); (try clear hb2); (try clear hk); (try clear hi); (try simp only [errW_none, errW_some])))
      go_ret
      exact ⟨by first | rfl | (simp [errW_none, errW_some] <;> rfl) | (simp [*, errW_none, errW_some] <;> rfl), by repeat (first | (with_reducible first | exact HB.out | apply pA | apply pN | apply p1 | refine pS ?_ GE211.out) | exact HB.out)⟩
  · have H1 : (some false) = some r := by rw [if_neg (show ¬ (some q214).isNone = true by simp)] at H; exact H
    clear H
    have H := H1
    clear H1
    try simp only [errW_none, errW_some]
    obtain rfl := Option.some.inj H
    go_enter Try.func10, Try.ntmps10
    go_wp2_with (first | ((with_reducible refine gC (f := 16) rfl ?_); (with_reducible refine gD (N := 6) rfl ?_); refine goesY_ (some 6) Try.func16 #[.int .i64 8, .int .u64 68] ?_; (with_reducible refine (codec_Decode.calls k 8 68 t206 t207 t208 t209 (some q214) _ A1.out).mono ?_); rintro e w18 ⟨rfl, hb⟩; refine ⟨_, rfl, ?_⟩; have n0_ := Aside0.mk (bS3 HB.out hb); clear HB; have HB := n0_; clear n0_; (try clear hb); (try clear hb2); (try clear hk); (try clear hi); (try simp only [errW_none, errW_some])) | ((with_reducible refine gD (N := 1) rfl ?_); refine bE3 1 #[.int .i64 0, .bool false, .int .i64 0, .int .u64 0] 40 ?hr ?_; (case hr => first | (go_simp; done) | (go_simp; rfl)); intro gb211 hg w19 hbox hb; have n0_ := Aside0.mk (bS3 HB.out hb); have n1_ := Aside0.mk (hbox); have n2_ := Aside0.mk ((bZ3 hg HB.out)); have n3_ := Aside0.mk ((bZ3 hg HB.out)); clear HB; have HB := n0_; have BK211 := n1_; have GW211 := n2_; have GE211 := n3_; clear n0_ n1_ n2_ n3_; clear hb hbox hg; have hcz20_0 : w19.cell? ⟨gb211, 0, none⟩ = some (.int .i64 0) := (blk_cell BK211.out 0).trans rfl; have hcz20_1 : w19.cell? ⟨gb211, 1, none⟩ = some (.bool false) := (blk_cell BK211.out 1).trans rfl; have hcz20_2 : w19.cell? ⟨gb211, 2, none⟩ = some (.int .i64 0) := (blk_cell BK211.out 2).trans rfl; have hcz20_3 : w19.cell? ⟨gb211, 3, none⟩ = some (.int .u64 0) := (blk_cell BK211.out 3).trans rfl; have hfz20_0 := blk_frozen BK211.out 0; have hfz20_1 := blk_frozen BK211.out 1; have hfz20_2 := blk_frozen BK211.out 2; have hfz20_3 := blk_frozen BK211.out 3) | ((with_reducible refine gC (f := 18) rfl ?_); (with_reducible refine gD (N := 11) rfl ?_); refine goesY_ (some 11) Try.func18 #[.int .i64 8, .agg #[.int .i64 1, .bool false, .int .i64 18, .int .u64 9223372036854775808]] ?_; (with_reducible refine (codec_Encode.calls k 8 1 false 18 9223372036854775808 t212 t213 _ A2.out).mono ?_); rintro e w21 ⟨rfl, hb⟩; refine ⟨_, rfl, ?_⟩; have n0_ := Aside0.mk (bB (g := gb211) (o := .cells #[.int .i64 t206, .bool t207, .int .i64 t208, .int .u64 t209] 40 (0, 0)) (by (with_reducible repeat (first | refine bN ?_ _ | refine bD ?_ | refine bA ?_ _)); refine blk_put (cs := #[.int .i64 t206, .bool t207, .int .i64 t208, .int .u64 0]) ?_ 3 _ rfl; (with_reducible repeat (first | refine bN ?_ _ | refine bD ?_ | refine bA ?_ _)); refine blk_put (cs := #[.int .i64 t206, .bool t207, .int .i64 0, .int .u64 0]) ?_ 2 _ rfl; (with_reducible repeat (first | refine bN ?_ _ | refine bD ?_ | refine bA ?_ _)); refine blk_put (cs := #[.int .i64 t206, .bool false, .int .i64 0, .int .u64 0]) ?_ 1 _ rfl; (with_reducible repeat (first | refine bN ?_ _ | refine bD ?_ | refine bA ?_ _)); refine blk_put (cs := #[.int .i64 0, .bool false, .int .i64 0, .int .u64 0]) ?_ 0 _ rfl; (with_reducible repeat (first | refine bN ?_ _ | refine bD ?_ | refine bA ?_ _)); exact BK211.out) hb); have n1_ := Aside0.mk (bS3 HB.out hb); clear BK211; clear HB; have BK211 := n0_; have HB := n1_; clear n0_ n1_; (try clear hb); (try clear hb2); (try clear hk); (try clear hi); (try simp only [errW_none, errW_some])))
    go_ret
    exact ⟨by first | rfl | (simp [errW_none, errW_some] <;> rfl) | (simp [*, errW_none, errW_some] <;> rfl), by repeat (first | (with_reducible first | exact HB.out | apply pA | apply pN | apply p1 | refine pS ?_ GE211.out) | exact HB.out)⟩

end Go.Proofs.Ytmofdimkdkfdgaa.F
