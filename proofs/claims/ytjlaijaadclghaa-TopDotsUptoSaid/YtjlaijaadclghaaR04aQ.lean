/- What the reference's naturals compute: each .. -/
import Derived.Test.YtjlaijaadclghaaF16Q
import Derived.Test.YtjlaijaadclghaaBaseQ
namespace Go.Proofs.Ytjlaijaadclghaa.M
open RowKit YtjlaijaadclghaaW PrintWords PrintLast PrintMore F
set_option linter.all false
theorem take_snoc {l : List Int} {n : Nat} (h : n < l.length) : l.take (n + 1) = l.take n ++ [l.getD n 0] := by
 rw [List.take_succ_eq_append_getElem h, List.getD_eq_getElem?_getD, List.getElem?_eq_getElem h]; rfl
theorem Cut_l0 {l : List Int} (hd : Dg l) (hs : l.length < 4611686018427387904) : ∀ n : Nat, n ≤ l.length → Ev (fun k => vernierref04_Cut.l0 k l (n : Int)) (digs (nv (l.take n))) := by
 intro n
 induction n with
 | zero =>
  intro _
  refine Ev.step (f := fun _ => some []) (fun k => ?_) (Ev.now _)
  simp only [vernierref04_Cut.l0]
  rw [if_neg (by omega), if_pos (by omega), if_pos (by omega)]
  simp
 | succ n ih =>
  intro hn
  have e : wrap64 (((n + 1 : Nat) : Int) - 1) = (n : Int) := by rw [w64] <;> omega
  by_cases hz : l.getD n 0 = 0
  ·
   refine Ev.step (f := fun k => vernierref04_Cut.l0 k l (n : Int)) (fun k => ?_) ?_
   ·
    simp only [vernierref04_Cut.l0, e]
    rw [if_pos (by omega), if_pos (by omega), if_pos (by omega), rd_nat, if_pos hz]
   ·
    rw [take_snoc (by omega), nv_snoc, hz]; simpa using ih (by omega)
  ·
   have hg := hd.getD n
   have hv : nv (l.take (n + 1)) = nv (l.take n) + 16777216 ^ n * (l.getD n 0).toNat := by
    rw [take_snoc (by omega), nv_snoc, List.length_take, Nat.min_eq_left (by omega)]
   have hc : l.take (n + 1) = digs (nv (l.take (n + 1))) := by
    refine eq_digs (hd.take _) (Or.inr ?_)
    rw [List.length_take, Nat.min_eq_left hn, Nat.add_sub_cancel, hv]
    have : 16777216 ^ n * 1 ≤ 16777216 ^ n * (l.getD n 0).toNat := Nat.mul_le_mul_left _ (by omega)
    omega
   refine Ev.step (f := fun _ => some (l.take (n + 1))) (fun k => ?_) ?_
   ·
    simp only [vernierref04_Cut.l0, e]
    rw [if_pos (by omega), if_pos (by omega), if_pos (by omega), rd_nat, if_neg hz, if_pos (by omega), if_pos (by omega)]
    simp
   ·
    rw [← hc]; exact Ev.now _
theorem Cut_ev {l : List Int} (hd : Dg l) (hs : l.length < 4611686018427387904) : Ev (fun k => vernierref04_Cut.f k l) (digs (nv l)) := by
 have := Cut_l0 hd hs l.length (Nat.le_refl _)
 rw [List.take_length] at this
 exact this
theorem digit_ev (x i : Nat) : vernierref04_digit.f (digs x) (i : Int) = some ((x / 16777216 ^ i % 16777216 : Nat) : Int) := by
 unfold vernierref04_digit.f
 by_cases h : i < (digs x).length
 ·
  rw [if_pos (by omega), if_pos (by omega), rd_nat, digs_getD]
 ·
  rw [if_neg (by omega)]
  have h1 := digs_lt x
  have h2 : 16777216 ^ (digs x).length ≤ 16777216 ^ i := Nat.pow_le_pow_right (by decide) (by omega)
  rw [Nat.div_eq_of_lt (by omega)]
  rfl
theorem Of_l0 : ∀ (v : Nat) (out : List Int), v < 18446744073709551616 → out.length + (digs v).length < 17592186044416 → Ev (fun k => vernierref04_Of.l0 k (v : Int) out) (out ++ digs v) := by
 intro v
 induction v using Nat.strongRecOn with
 | _ v ih =>
  intro out hv hl
  by_cases h : v = 0
  ·
   subst h
   refine Ev.step (f := fun _ => some out) (fun k => ?_) ?_
   ·
    simp only [vernierref04_Of.l0]; rw [if_neg (by omega)]
   ·
    rw [digs_zero, List.append_nil]; exact Ev.now _
  ·
   rw [digs_pos v (by omega)] at hl ⊢
   rw [List.length_cons] at hl
   refine Ev.step (f := fun k => vernierref04_Of.l0 k ((v / 16777216 : Nat) : Int) (out ++ [((v % 16777216 : Nat) : Int)])) (fun k => ?_) ?_
   ·
    simp only [vernierref04_Of.l0]
    rw [if_pos (by omega), if_pos (by omega), tdiv_nn (by omega), tmod_nn (by omega), u64s (by omega) (by omega), w64 (by omega) (by omega)]
    rfl
   ·
    have := ih (v / 16777216) (by omega) (out ++ [((v % 16777216 : Nat) : Int)]) (by omega) (by simp; omega)
    rw [List.append_assoc] at this
    exact this
theorem Of_ev {v : Nat} (hv : v < 18446744073709551616) : Ev (fun k => vernierref04_Of.f k (v : Int)) (digs v) := by
 have h3 : (digs v).length ≤ 3 := digs_length_le (by omega)
 exact Of_l0 v [] hv (by simp; omega)
def cmp (x y : Nat) : Int := if x < y then -1 else if x = y then 0 else 1
theorem lt_of_div {x y p : Nat} (h : x / p < y / p) : x < y := by
 rcases Nat.lt_or_ge x y with h1 | h1
 ·
  exact h1
 ·
  have := Nat.div_le_div_right (c := p) h1; omega
theorem Cmp_l0 {x y : Nat} (hl : (digs x).length = (digs y).length) (hs : (digs x).length < 4611686018427387904) : ∀ n : Nat, n ≤ (digs x).length → x / 16777216 ^ n = y / 16777216 ^ n →
  Ev (fun k => vernierref04_Cmp.l0 k (digs x) (digs y) ((n : Int) - 1)) (cmp x y) := by
 intro n
 induction n with
 | zero =>
  intro _ h
  have hxy : x = y := by simpa using h
  subst hxy
  refine Ev.step (f := fun _ => some 0) (fun k => ?_) ?_
  ·
   simp only [vernierref04_Cmp.l0]; rw [if_neg (by omega)]
  ·
   simp only [cmp, Nat.lt_irrefl, if_false, if_true]; exact Ev.now _
 | succ n ih =>
  intro hn h
  have e0 : (((n + 1 : Nat) : Int) - 1) = (n : Int) := by omega
  rw [div_succ, div_succ] at h
  have hx := Nat.div_add_mod (x / 16777216 ^ n) 16777216
  have hy := Nat.div_add_mod (y / 16777216 ^ n) 16777216
  simp only [e0]
  by_cases h1 : x / 16777216 ^ n % 16777216 < y / 16777216 ^ n % 16777216
  ·
   have hlt : x < y := lt_of_div (p := 16777216 ^ n) (by omega)
   refine Ev.step (f := fun _ => some (-1)) (fun k => ?_) ?_
   ·
    simp only [vernierref04_Cmp.l0, rd_nat, digs_getD]
    rw [if_pos (by omega), if_pos (by omega), if_pos (by omega), if_pos (by omega), if_pos (by omega)]
   ·
    simp only [cmp, hlt, if_true]; exact Ev.now _
  ·
   by_cases h2 : y / 16777216 ^ n % 16777216 < x / 16777216 ^ n % 16777216
   ·
    have hlt : y < x := lt_of_div (p := 16777216 ^ n) (by omega)
    refine Ev.step (f := fun _ => some 1) (fun k => ?_) ?_
    ·
     simp only [vernierref04_Cmp.l0, rd_nat, digs_getD]
     rw [if_pos (by omega), if_pos (by omega), if_pos (by omega), if_pos (by omega), if_neg (by omega), if_pos (by omega)]
    ·
     unfold cmp; rw [if_neg (by omega), if_neg (by omega)]; exact Ev.now _
   ·
    refine Ev.step (f := fun k => vernierref04_Cmp.l0 k (digs x) (digs y) ((n : Int) - 1)) (fun k => ?_) (ih (by omega) (by omega))
    simp only [vernierref04_Cmp.l0, rd_nat, digs_getD]
    rw [if_pos (by omega), if_pos (by omega), if_pos (by omega), if_pos (by omega), if_neg (by omega), if_neg (by omega), w64 (by omega) (by omega)]
theorem Cmp_ev {x y : Nat} (hx : (digs x).length < 4611686018427387904) (hy : (digs y).length < 4611686018427387904) : Ev (fun k => vernierref04_Cmp.f k (digs x) (digs y)) (cmp x y) := by
 unfold vernierref04_Cmp.f
 have h1 := digs_lt x
 have h2 := digs_lt y
 by_cases h : (digs x).length = (digs y).length
 ·
  have h3 : x / 16777216 ^ (digs x).length = y / 16777216 ^ (digs x).length := by rw [Nat.div_eq_of_lt h1, h, Nat.div_eq_of_lt h2]
  refine Ev.congr (fun k => ?_) (Cmp_l0 h hx _ (Nat.le_refl _) h3)
  rw [if_pos (by omega), w64 (by omega) (by omega)]
 ·
  by_cases hlt : (digs x).length < (digs y).length
  ·
   have h3 := digs_length_iff.mp hlt
   refine Ev.congr (f := fun _ => some (-1)) (fun k => ?_) ?_
   ·
    rw [if_neg (by omega), if_pos (by omega)]
   ·
    unfold cmp; rw [if_pos (by omega)]; exact Ev.now _
  ·
   have h3 := digs_length_iff.mp (show (digs y).length < (digs x).length by omega)
   refine Ev.congr (f := fun _ => some 1) (fun k => ?_) ?_
   ·
    rw [if_neg (by omega), if_neg (by omega)]
   ·
    unfold cmp; rw [if_neg (by omega), if_neg (by omega)]; exact Ev.now _
theorem lt_pow_of_len {x i : Nat} (h : (digs x).length ≤ i) : x < 16777216 ^ i :=
 Nat.lt_of_lt_of_le (digs_lt x) (Nat.pow_le_pow_right (by decide) h)
theorem Add_l0 {x y : Nat} (hx : (digs x).length < 1000000000) (hy : (digs y).length < 1000000000) : ∀ (d i c : Nat) (out : List Int),
  2 * ((digs x).length - i) + 2 * ((digs y).length - i) + c ≤ d → i ≤ 1000000000 → c ≤ 1 → out.length = i → Dg out → (i = 0 ∨ 16777216 ^ (i - 1) ≤ x + y) →
  nv out + 16777216 ^ i * c = x % 16777216 ^ i + y % 16777216 ^ i → Ev (fun k => vernierref04_Add.l0 k (digs x) (digs y) out (c : Int) (i : Int)) (digs (x + y)) := by
 intro d
 induction d with
 | zero =>
  intro i c out hd hi hc hlen hdg htop hv
  obtain rfl : c = 0 := by omega
  have h1 := lt_pow_of_len (x := x) (i := i) (by omega)
  have h2 := lt_pow_of_len (x := y) (i := i) (by omega)
  rw [Nat.mod_eq_of_lt h1, Nat.mod_eq_of_lt h2, Nat.mul_zero, Nat.add_zero] at hv
  refine Ev.step (f := fun k => vernierref04_Add.j1 k (digs x) (digs y) out ((0 : Nat) : Int) (i : Int) false) (fun k => ?_) (Ev.step (f := fun _ => some out) (fun k => ?_) ?_)
  ·
   simp only [vernierref04_Add.l0]; rw [if_neg (by omega), if_neg (by omega)]; simp
  ·
   simp [vernierref04_Add.j1]
  ·
   have e := eq_digs' hdg hv (by
    rcases htop with h | h
    ·
     left; exact List.length_eq_zero_iff.mp (by omega)
    ·
     right; rw [hlen]; exact h)
   rw [← e]; exact Ev.now _
 | succ d ih =>
  intro i c out hd hi hc hlen hdg htop hv
  by_cases hgo : i < (digs x).length ∨ i < (digs y).length ∨ 0 < c
  ·
   have hp := pw_pos i
   have hmx := mod_succ x i
   have hmy := mod_succ y i
   have ba : x / 16777216 ^ i % 16777216 < 16777216 := Nat.mod_lt _ (by decide)
   have bb : y / 16777216 ^ i % 16777216 < 16777216 := Nat.mod_lt _ (by decide)
   have htop' : 16777216 ^ i ≤ x + y := by
    rcases hgo with h | h | h
    ·
     have := digs_length_iff.mp h; omega
    ·
     have := digs_length_iff.mp h; omega
    ·
     have h1 := Nat.mod_le x (16777216 ^ i)
     have h2 := Nat.mod_le y (16777216 ^ i)
     have h3 : 16777216 ^ i * 1 ≤ 16777216 ^ i * c := Nat.mul_le_mul_left _ h
     omega
   have hdx := digit_ev x i
   have hdy := digit_ev y i
   have ha0 : (digs x).length ≤ i → x / 16777216 ^ i % 16777216 = 0 := fun h => by rw [Nat.div_eq_of_lt (lt_pow_of_len h)]
   have hb0 : (digs y).length ≤ i → y / 16777216 ^ i % 16777216 = 0 := fun h => by rw [Nat.div_eq_of_lt (lt_pow_of_len h)]
   generalize x / 16777216 ^ i % 16777216 = a at *
   generalize y / 16777216 ^ i % 16777216 = b at *
   have hlt : i < 1000000000 := by
    rcases hgo with h | h | h
    ·
     omega
    ·
     omega
    ·
     rcases Nat.lt_or_ge i 1000000000 with h4 | h4
     ·
      exact h4
     ·
      exfalso
      have h1 := lt_pow_of_len (x := x) (i := i - 1) (by omega)
      have h2 := lt_pow_of_len (x := y) (i := i - 1) (by omega)
      have h5 : 16777216 ^ i = 16777216 ^ (i - 1) * 16777216 := by rw [← Nat.pow_succ]; congr 1; omega
      omega
   refine Ev.step (f := fun k => vernierref04_Add.j1 k (digs x) (digs y) out (c : Int) (i : Int) true) (fun k => ?_) (Ev.step (f := fun k => vernierref04_Add.l0 k (digs x) (digs y) (out ++ [(((a + b + c) % 16777216 : Nat) : Int)]) (((a + b + c) / 16777216 : Nat) : Int) ((i + 1 : Nat) : Int)) (fun k => ?_) ?_)
   ·
    simp only [vernierref04_Add.l0]
    by_cases g1 : i < (digs x).length
    ·
     rw [if_pos (by omega)]
    ·
     rw [if_neg (by omega)]
     by_cases g2 : i < (digs y).length
     ·
      rw [if_pos (by omega)]
     ·
      rw [if_neg (by omega)]
      have : decide ((c : Int) > 0) = true := decide_eq_true (by omega)
      rw [this]
   ·
    simp only [vernierref04_Add.j1]
    rw [if_pos trivial, hdx]
    simp only [Option.bind_some]
    rw [hdy]
    simp only [Option.bind_some]
    rw [if_pos (by omega), w64 (x := (a : Int) + b) (by omega) (by omega), w64 (x := (a : Int) + b + c) (by omega) (by omega), tmod_nn (by omega), tdiv_nn (by omega), w64 (x := ((a : Int) + b + c) / 16777216) (by omega) (by omega), w64 (by omega) (by omega)]
    rfl
   ·
    have hm : 2 * ((digs x).length - (i + 1)) + 2 * ((digs y).length - (i + 1)) + (a + b + c) / 16777216 ≤ d := by
     by_cases g1 : i < (digs x).length
     ·
      omega
     ·
      by_cases g2 : i < (digs y).length
      ·
       omega
      ·
       have := ha0 (by omega)
       have := hb0 (by omega)
       omega
    refine ih (i + 1) ((a + b + c) / 16777216) _ hm (by omega) (by omega) (by simp; omega) (hdg.snoc (by omega)) (Or.inr (by simpa using htop')) ?_
    rw [nv_snoc, hlen, hmx, hmy, Nat.pow_succ]
    rw [Int.toNat_natCast]
    have e2 : 16777216 ^ i * ((a + b + c) % 16777216) + 16777216 ^ i * 16777216 * ((a + b + c) / 16777216) = 16777216 ^ i * (a + b + c) := by
     rw [Nat.mul_assoc, ← Nat.mul_add, Nat.mod_add_div]
    grind
  ·
   exact (ih i c out (by omega) hi hc hlen hdg htop hv)
theorem Add_ev {x y : Nat} (hx : (digs x).length < 1000000000) (hy : (digs y).length < 1000000000) : Ev (fun k => vernierref04_Add.f k (digs x) (digs y)) (digs (x + y)) :=
 Add_l0 hx hy _ 0 0 [] (Nat.le_refl _) (by omega) (by omega) rfl Dg.nil (Or.inl rfl) (by simp [nv, Nat.mod_one])
theorem Sub_l0 {x y : Nat} (hyx : y ≤ x) (hx : (digs x).length < 1000000000) : ∀ (d i b : Nat) (out : List Int),
  (digs x).length - i ≤ d → i ≤ (digs x).length → b ≤ 1 → out.length = i → Dg out →
  nv out + y % 16777216 ^ i = x % 16777216 ^ i + 16777216 ^ i * b → Ev (fun k => vernierref04_Sub.l0 k (digs x) (digs y) out (b : Int) (i : Int)) (digs (x - y)) := by
 intro d
 induction d with
 | zero =>
  intro i b out hd hi hb hlen hdg hv
  have h1 := lt_pow_of_len (x := x) (i := i) (by omega)
  have h2 : y < 16777216 ^ i := by omega
  rw [Nat.mod_eq_of_lt h1, Nat.mod_eq_of_lt h2] at hv
  have h3 := nv_lt hdg
  rw [hlen] at h3
  have hb0 : b = 0 := by
   rcases Nat.eq_zero_or_pos b with h | h
   ·
    exact h
   ·
    have : 16777216 ^ i * 1 ≤ 16777216 ^ i * b := Nat.mul_le_mul_left _ h
    omega
  subst hb0
  refine Ev.step (f := fun k => (vernierref04_Cut.f k out).bind fun t => some t) (fun k => ?_) ?_
  ·
   simp only [vernierref04_Sub.l0]; rw [if_neg (by omega)]
  ·
   have e : x - y = nv out := by omega
   rw [e]
   exact Ev.bind (Cut_ev hdg (by omega)) (Ev.now _)
 | succ d ih =>
  intro i b out hd hi hb hlen hdg hv
  by_cases hgo : i < (digs x).length
  ·
   have hp := pw_pos i
   have hmx := mod_succ x i
   have hmy := mod_succ y i
   have hdy := digit_ev y i
   have hdx := digs_getD i x
   have ba : x / 16777216 ^ i % 16777216 < 16777216 := Nat.mod_lt _ (by decide)
   have bb : y / 16777216 ^ i % 16777216 < 16777216 := Nat.mod_lt _ (by decide)
   generalize x / 16777216 ^ i % 16777216 = a at *
   generalize y / 16777216 ^ i % 16777216 = e at *
   by_cases hn : (a : Int) - e - b < 0
   ·
    refine Ev.step (f := fun k => vernierref04_Sub.l0 k (digs x) (digs y) (out ++ [((a + 16777216 - e - b : Nat) : Int)]) ((1 : Nat) : Int) ((i + 1 : Nat) : Int)) (fun k => ?_) ?_
    ·
     simp only [vernierref04_Sub.l0]
     rw [if_pos (by omega), if_pos (by omega), hdy]
     simp only [Option.bind_some, rd_nat, hdx]
     rw [w64 (x := (a : Int) - e) (by omega) (by omega), w64 (x := (a : Int) - e - b) (by omega) (by omega), if_pos hn, if_pos (by omega), w64 (by omega) (by omega), w64 (by omega) (by omega)]
     congr 2
     simp; omega
    ·
     refine ih (i + 1) 1 _ (by omega) (by omega) (by omega) (by simp; omega) (hdg.snoc (by omega)) ?_
     rw [nv_snoc, hlen, hmx, hmy, Nat.pow_succ]
     rw [Int.toNat_natCast]
     obtain ⟨t, ht⟩ : ∃ t, t = a + 16777216 - e - b := ⟨_, rfl⟩
     have ht2 : t + e + b = a + 16777216 := by omega
     rw [← ht]
     grind
   ·
    refine Ev.step (f := fun k => vernierref04_Sub.l0 k (digs x) (digs y) (out ++ [((a - e - b : Nat) : Int)]) ((0 : Nat) : Int) ((i + 1 : Nat) : Int)) (fun k => ?_) ?_
    ·
     simp only [vernierref04_Sub.l0]
     rw [if_pos (by omega), if_pos (by omega), hdy]
     simp only [Option.bind_some, rd_nat, hdx]
     rw [w64 (x := (a : Int) - e) (by omega) (by omega), w64 (x := (a : Int) - e - b) (by omega) (by omega), if_neg hn, if_pos (by omega), w64 (by omega) (by omega)]
     congr 2
     simp; omega
    ·
     refine ih (i + 1) 0 _ (by omega) (by omega) (by omega) (by simp; omega) (hdg.snoc (by omega)) ?_
     rw [nv_snoc, hlen, hmx, hmy, Nat.pow_succ]
     rw [Int.toNat_natCast]
     obtain ⟨t, ht⟩ : ∃ t, t = a - e - b := ⟨_, rfl⟩
     have ht2 : t + e + b = a := by omega
     rw [← ht]
     grind
  ·
   exact ih i b out (by omega) hi hb hlen hdg hv
theorem Sub_ev {x y : Nat} (hyx : y ≤ x) (hx : (digs x).length < 1000000000) : Ev (fun k => vernierref04_Sub.f k (digs x) (digs y)) (digs (x - y)) :=
 Sub_l0 hyx hx _ 0 0 [] (Nat.le_refl _) (by omega) (by omega) rfl Dg.nil (by simp [nv, Nat.mod_one])
theorem two_l0 (n : Nat) (hn : n ≤ 62) : ∀ (d i : Nat), n - i ≤ d → i ≤ n → Ev (fun k => vernierref04_two.l0 k (n : Int) ((2 ^ i : Nat) : Int) (i : Int)) ((2 ^ n : Nat) : Int) := by
 intro d
 induction d with
 | zero =>
  intro i hd hi
  obtain rfl : i = n := by omega
  refine Ev.step (f := fun _ => some _) (fun k => ?_) (Ev.now _)
  simp only [vernierref04_two.l0]; rw [if_neg (by omega)]
 | succ d ih =>
  intro i hd hi
  by_cases h : i < n
  ·
   have hb : 2 ^ i ≤ 2305843009213693952 := Nat.le_trans (Nat.pow_le_pow_right (by decide) (show i ≤ 61 by omega)) (by decide)
   have hp : 2 ^ (i + 1) = 2 ^ i * 2 := Nat.pow_succ ..
   refine Ev.step (f := fun k => vernierref04_two.l0 k (n : Int) ((2 ^ (i + 1) : Nat) : Int) ((i + 1 : Nat) : Int)) (fun k => ?_) (ih (i + 1) (by omega) (by omega))
   simp only [vernierref04_two.l0]
   rw [if_pos (by omega), hp]
   generalize 2 ^ i = p at *
   rw [w64 (by omega) (by omega), w64 (by omega) (by omega)]
   congr 1
   omega
  ·
   exact ih i (by omega) hi
theorem two_ev {n : Nat} (hn : n ≤ 62) : Ev (fun k => vernierref04_two.f k (n : Int)) ((2 ^ n : Nat) : Int) := two_l0 n hn n 0 (by omega) (by omega)
theorem times_l0 {x q : Nat} (hq0 : 0 < q) (hq : q < 16777216) (hx : (digs x).length < 1000000000) : ∀ (d i c : Nat) (out : List Int),
  2 * ((digs x).length - i) + (if c = 0 then 0 else 1) ≤ d → i ≤ (digs x).length + 1 → c < 16777216 → ((digs x).length < i → c = 0) → out.length = i → Dg out → (i = 0 ∨ 16777216 ^ (i - 1) ≤ x * q) →
  nv out + 16777216 ^ i * c = (x % 16777216 ^ i) * q → Ev (fun k => vernierref04_times.l0 k (digs x) (q : Int) out (c : Int) (i : Int)) (digs (x * q)) := by
 intro d
 induction d with
 | zero =>
  intro i c out hd hi hc hc2 hlen hdg htop hv
  obtain rfl : c = 0 := by
   rcases Nat.eq_zero_or_pos c with h | h
   ·
    exact h
   ·
    rw [if_neg (by omega)] at hd; omega
  have h1 := lt_pow_of_len (x := x) (i := i) (by omega)
  rw [Nat.mod_eq_of_lt h1, Nat.mul_zero, Nat.add_zero] at hv
  refine Ev.step (f := fun _ => some out) (fun k => ?_) ?_
  ·
   simp only [vernierref04_times.l0]; rw [if_neg (by omega), if_neg (by omega)]
  ·
   have e := eq_digs' hdg hv (by
    rcases htop with h | h
    ·
     left; exact List.length_eq_zero_iff.mp (by omega)
    ·
     right; rw [hlen]; exact h)
   rw [← e]; exact Ev.now _
 | succ d ih =>
  intro i c out hd hi hc hc2 hlen hdg htop hv
  by_cases hgo : i < (digs x).length ∨ 0 < c
  ·
   have hp := pw_pos i
   have hmx := mod_succ x i
   have hxq : x ≤ x * q := Nat.le_mul_of_pos_right _ hq0
   have htop' : 16777216 ^ i ≤ x * q := by
    rcases hgo with h | h
    ·
     have := digs_length_iff.mp h; omega
    ·
     have h1 : (x % 16777216 ^ i) * q ≤ x * q := Nat.mul_le_mul_right _ (Nat.mod_le x _)
     have h3 : 16777216 ^ i * 1 ≤ 16777216 ^ i * c := Nat.mul_le_mul_left _ h
     omega
   have hdx := digit_ev x i
   have ba : x / 16777216 ^ i % 16777216 < 16777216 := Nat.mod_lt _ (by decide)
   have ha0 : (digs x).length ≤ i → x / 16777216 ^ i % 16777216 = 0 := fun h => by rw [Nat.div_eq_of_lt (lt_pow_of_len h)]
   generalize x / 16777216 ^ i % 16777216 = a at *
   have hle : i ≤ (digs x).length := by
    rcases Nat.lt_or_ge (digs x).length i with h | h
    ·
     have := hc2 h; omega
    ·
     exact h
   have haq : a * q ≤ 16777215 * 16777215 := Nat.mul_le_mul (by omega) (by omega)
   have key : vernierref04_digit.f (digs x) (i : Int) = some (a : Int) := hdx
   refine Ev.step (f := fun k => vernierref04_times.l0 k (digs x) (q : Int) (out ++ [(((a * q + c) % 16777216 : Nat) : Int)]) (((a * q + c) / 16777216 : Nat) : Int) ((i + 1 : Nat) : Int)) (fun k => ?_) ?_
   ·
    have tail : ∀ g : List Int → Int → Int → Option (List Int), ((vernierref04_digit.f (digs x) (i : Int)).bind fun t => (if out.length < 17592186044416 then (g (out ++ [Int.tmod (wrap64 ((wrap64 (t * (q : Int))) + (c : Int))) 16777216]) (wrap64 (Int.tdiv (wrap64 ((wrap64 (t * (q : Int))) + (c : Int))) 16777216)) (wrap64 ((i : Int) + 1))) else none)) = g (out ++ [(((a * q + c) % 16777216 : Nat) : Int)]) (((a * q + c) / 16777216 : Nat) : Int) ((i + 1 : Nat) : Int) := by
     intro g
     rw [key]
     simp only [Option.bind_some]
     have em : (a : Int) * (q : Int) = ((a * q : Nat) : Int) := by simp
     rw [if_pos (by omega), em, w64 (x := ((a * q : Nat) : Int)) (by omega) (by omega), w64 (x := ((a * q : Nat) : Int) + (c : Int)) (by omega) (by omega), tmod_nn (by omega), tdiv_nn (by omega), w64 (by omega) (by omega), w64 (by omega) (by omega)]
     rfl
    simp only [vernierref04_times.l0]
    by_cases g1 : i < (digs x).length
    ·
     rw [if_pos (by omega), if_pos (by omega)]; exact tail _
    ·
     rw [if_neg (by omega), if_pos (by omega)]; exact tail _
   ·
    have hm : 2 * ((digs x).length - (i + 1)) + (if (a * q + c) / 16777216 = 0 then 0 else 1) ≤ d := by
     by_cases g1 : i < (digs x).length
     ·
      split <;> omega
     ·
      have a0 := ha0 (by omega)
      have : (a * q + c) / 16777216 = 0 := by rw [a0, Nat.zero_mul]; omega
      rw [if_pos this]
      have : c ≠ 0 := by omega
      rw [if_neg this] at hd
      omega
    refine ih (i + 1) ((a * q + c) / 16777216) _ hm (by omega) (by omega) (fun h => ?_) (by simp; omega) (hdg.snoc (by omega)) (Or.inr (by simpa using htop')) ?_
    ·
     rw [ha0 (by omega), Nat.zero_mul]; omega
    ·
     rw [nv_snoc, hlen, hmx, Nat.pow_succ]
     rw [Int.toNat_natCast]
     have e2 : 16777216 ^ i * ((a * q + c) % 16777216) + 16777216 ^ i * 16777216 * ((a * q + c) / 16777216) = 16777216 ^ i * (a * q + c) := by
      rw [Nat.mul_assoc, ← Nat.mul_add, Nat.mod_add_div]
     grind
  ·
   refine ih i c out ?_ hi hc hc2 hlen hdg htop hv
   rw [if_pos (by omega)] at hd ⊢
   omega
theorem times_ev {x q : Nat} (hq : q < 16777216) (hx : (digs x).length < 1000000000) : Ev (fun k => vernierref04_times.f k (digs x) (q : Int)) (digs (x * q)) := by
 rcases Nat.eq_zero_or_pos q with h | h
 ·
  subst h
  refine Ev.step (f := fun _ => some []) (fun k => ?_) (Ev.now _)
  simp only [vernierref04_times.f, vernierref04_times.l0]
  by_cases g1 : 0 < (digs x).length
  ·
   rw [if_pos (by omega), if_neg (by omega), if_neg (by omega)]
  ·
   rw [if_neg (by omega), if_neg (by omega)]
 ·
  exact times_l0 h hq hx _ 0 0 [] (Nat.le_refl _) (by omega) (by omega) (fun h => by omega) rfl Dg.nil (Or.inl rfl) (by simp [nv, Nat.mod_one])
end Go.Proofs.Ytjlaijaadclghaa.M
