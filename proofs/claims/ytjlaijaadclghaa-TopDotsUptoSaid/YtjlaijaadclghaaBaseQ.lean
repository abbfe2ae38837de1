/- Natural numbers as lists of digits of 24 .. -/
import Derived.Test.YtjlaijaadclghaaVQ
namespace Go.Proofs.Ytjlaijaadclghaa.M
set_option linter.all false
def nv : List Int → Nat
 | [] => 0
 | d :: l => d.toNat + 16777216 * nv l
def Dg (l : List Int) : Prop := ∀ d ∈ l, 0 ≤ d ∧ d < 16777216
def dgs : Nat → Nat → List Int
 | 0, _ => []
 | f + 1, v => if v = 0 then [] else ((v % 16777216 : Nat) : Int) :: dgs f (v / 16777216)
def digs (v : Nat) : List Int := dgs (v + 1) v
theorem dgs_more : ∀ f g v, v < f → v < g → dgs f v = dgs g v := by
 intro f
 induction f with
 | zero => intro g v h; omega
 | succ f ih =>
  intro g v h1 h2
  obtain ⟨g, rfl⟩ : ∃ m, g = m + 1 := ⟨g - 1, by omega⟩
  simp only [dgs]
  split
  ·
   rfl
  ·
   rw [ih g (v / 16777216) (by omega) (by omega)]
theorem digs_zero : digs 0 = [] := rfl
theorem digs_pos (v : Nat) (h : 0 < v) : digs v = ((v % 16777216 : Nat) : Int) :: digs (v / 16777216) := by
 unfold digs
 rw [show dgs (v + 1) v = if v = 0 then [] else ((v % 16777216 : Nat) : Int) :: dgs v (v / 16777216) from rfl, if_neg (by omega)]
 rw [dgs_more v (v / 16777216 + 1) (v / 16777216) (by omega) (by omega)]
theorem Dg.nil : Dg [] := by intro d h; simp at h
theorem Dg.cons {d : Int} {l : List Int} (h : 0 ≤ d ∧ d < 16777216) (hl : Dg l) : Dg (d :: l) := by
 intro x hx
 rcases List.mem_cons.mp hx with rfl | hx
 ·
  exact h
 ·
  exact hl _ hx
theorem Dg.head {d : Int} {l : List Int} (h : Dg (d :: l)) : 0 ≤ d ∧ d < 16777216 := h d (by simp)
theorem Dg.tail {d : Int} {l : List Int} (h : Dg (d :: l)) : Dg l := fun x hx => h x (by simp [hx])
theorem Dg.append {l m : List Int} (h : Dg l) (k : Dg m) : Dg (l ++ m) := by
 intro x hx
 rcases List.mem_append.mp hx with hx | hx
 ·
  exact h _ hx
 ·
  exact k _ hx
theorem Dg.snoc {l : List Int} {d : Int} (h : Dg l) (k : 0 ≤ d ∧ d < 16777216) : Dg (l ++ [d]) := h.append (Dg.cons k Dg.nil)
theorem Dg.take {l : List Int} (h : Dg l) (n : Nat) : Dg (l.take n) := fun x hx => h x (List.mem_of_mem_take hx)
theorem Dg.drop {l : List Int} (h : Dg l) (n : Nat) : Dg (l.drop n) := fun x hx => h x (List.mem_of_mem_drop hx)
theorem Dg.replicate (n : Nat) : Dg (List.replicate n 0) := by
 intro x hx
 obtain ⟨_, rfl⟩ := List.mem_replicate.mp hx
 omega
theorem Dg.getD {l : List Int} (h : Dg l) (i : Nat) : 0 ≤ l.getD i 0 ∧ l.getD i 0 < 16777216 := by
 rw [List.getD_eq_getElem?_getD]
 by_cases hi : i < l.length
 ·
  rw [List.getElem?_eq_getElem hi]; exact h _ (List.getElem_mem hi)
 ·
  rw [List.getElem?_eq_none (by omega)]; decide
theorem Dg.set {l : List Int} (h : Dg l) (i : Nat) {d : Int} (k : 0 ≤ d ∧ d < 16777216) : Dg (l.set i d) := by
 intro x hx
 rcases List.mem_or_eq_of_mem_set hx with hx | rfl
 ·
  exact h _ hx
 ·
  exact k
theorem nv_append (l m : List Int) : nv (l ++ m) = nv l + 16777216 ^ l.length * nv m := by
 induction l with
 | nil => simp [nv]
 | cons d l ih => simp only [List.cons_append, nv, ih, List.length_cons]; grind
theorem nv_snoc (l : List Int) (d : Int) : nv (l ++ [d]) = nv l + 16777216 ^ l.length * d.toNat := by rw [nv_append]; simp [nv]
theorem nv_replicate (n : Nat) : nv (List.replicate n 0) = 0 := by
 induction n with
 | zero => rfl
 | succ n ih => rw [List.replicate_succ]; simp [nv, ih]
theorem nv_lt {l : List Int} (h : Dg l) : nv l < 16777216 ^ l.length := by
 induction l with
 | nil => simp [nv]
 | cons d l ih =>
  have h1 := ih h.tail
  have h2 := h.head
  simp only [nv, List.length_cons, Nat.pow_succ]
  omega
theorem digs_dg : ∀ v, Dg (digs v) := by
 intro v
 induction v using Nat.strongRecOn with
 | _ v ih =>
  by_cases h : v = 0
  ·
   subst h; exact Dg.nil
  ·
   rw [digs_pos v (by omega)]
   exact Dg.cons (by omega) (ih _ (by omega))
theorem nv_digs : ∀ v, nv (digs v) = v := by
 intro v
 induction v using Nat.strongRecOn with
 | _ v ih =>
  by_cases h : v = 0
  ·
   subst h; rfl
  ·
   rw [digs_pos v (by omega)]
   simp only [nv]
   rw [ih _ (by omega)]
   omega
theorem eq_digs : ∀ {l : List Int}, Dg l → (l = [] ∨ 16777216 ^ (l.length - 1) ≤ nv l) → l = digs (nv l) := by
 intro l
 induction l with
 | nil => intro _ _; rfl
 | cons d l ih =>
  intro h hc
  have h2 := h.head
  have hpos : 0 < nv (d :: l) := by
   rcases hc with hc | hc
   ·
    cases hc
   ·
    exact Nat.lt_of_lt_of_le (Nat.pow_pos (by decide)) hc
  rw [digs_pos _ hpos]
  have e1 : ((nv (d :: l) % 16777216 : Nat) : Int) = d := by simp only [nv]; omega
  have e2 : nv (d :: l) / 16777216 = nv l := by simp only [nv]; omega
  rw [e1, e2, ← ih h.tail]
  cases l with
  | nil => left; rfl
  | cons e m =>
   right
   rcases hc with hc | hc
   ·
    cases hc
   ·
    simp only [List.length_cons, Nat.add_sub_cancel] at hc ⊢
    have e3 : nv (d :: e :: m) = d.toNat + 16777216 * nv (e :: m) := rfl
    rw [e3, Nat.pow_succ] at hc
    omega
theorem eq_digs' {l : List Int} {v : Nat} (h : Dg l) (hv : nv l = v) (hc : l = [] ∨ 16777216 ^ (l.length - 1) ≤ v) : l = digs v := by
 subst hv; exact eq_digs h hc
theorem digs_canon : ∀ v, digs v = [] ∨ 16777216 ^ ((digs v).length - 1) ≤ v := by
 intro v
 induction v using Nat.strongRecOn with
 | _ v ih =>
  by_cases h : v = 0
  ·
   subst h; left; rfl
  ·
   right
   rw [digs_pos v (by omega)]
   rcases ih (v / 16777216) (by omega) with h1 | h1
   ·
    rw [h1]; simp; omega
   ·
    rw [List.length_cons, Nat.add_sub_cancel]
    by_cases h2 : digs (v / 16777216) = []
    ·
     rw [h2]; simp; omega
    ·
     have : 0 < (digs (v / 16777216)).length := List.length_pos_iff.mpr h2
     obtain ⟨m, hm⟩ : ∃ m, (digs (v / 16777216)).length = m + 1 := ⟨_, (Nat.succ_pred_eq_of_pos this).symm⟩
     rw [hm] at h1 ⊢
     simp only [Nat.add_sub_cancel] at h1
     rw [Nat.pow_succ]; omega
theorem digs_lt (v : Nat) : v < 16777216 ^ (digs v).length := by
 have := nv_lt (digs_dg v); rwa [nv_digs] at this
theorem digs_length_le {v n : Nat} (h : v < 16777216 ^ n) : (digs v).length ≤ n := by
 rcases digs_canon v with h1 | h1
 ·
  rw [h1]; simp
 ·
  rcases Nat.lt_or_ge n (digs v).length with h2 | h2
  ·
   exfalso
   have : 16777216 ^ n ≤ 16777216 ^ ((digs v).length - 1) := Nat.pow_le_pow_right (by decide) (by omega)
   omega
  ·
   exact h2
theorem digs_length_gt {v n : Nat} (h : 16777216 ^ n ≤ v) : n < (digs v).length := by
 have := digs_lt v
 rcases Nat.lt_or_ge n (digs v).length with h2 | h2
 ·
  exact h2
 ·
  exfalso
  have : 16777216 ^ (digs v).length ≤ 16777216 ^ n := Nat.pow_le_pow_right (by decide) h2
  omega
theorem digs_length_iff {v n : Nat} : n < (digs v).length ↔ 16777216 ^ n ≤ v := by
 refine ⟨fun h => ?_, digs_length_gt⟩
 rcases Nat.lt_or_ge v (16777216 ^ n) with h2 | h2
 ·
  have := digs_length_le h2; omega
 ·
  exact h2
theorem digs_length_pos {v : Nat} : 0 < (digs v).length ↔ 0 < v := by
 rw [digs_length_iff]; simp; omega
theorem digs_getD : ∀ (i v : Nat), (digs v).getD i 0 = ((v / 16777216 ^ i % 16777216 : Nat) : Int) := by
 intro i
 induction i with
 | zero =>
  intro v
  by_cases h : v = 0
  ·
   subst h; rfl
  ·
   rw [digs_pos v (by omega)]; simp
 | succ i ih =>
  intro v
  by_cases h : v = 0
  ·
   subst h; simp [digs_zero]
  ·
   rw [digs_pos v (by omega), List.getD_cons_succ, ih, Nat.div_div_eq_div_mul]
   congr 3
   rw [Nat.pow_succ, Nat.mul_comm]
theorem nv_getD {l : List Int} (h : Dg l) : ∀ i : Nat, l.getD i 0 = ((nv l / 16777216 ^ i % 16777216 : Nat) : Int) := by
 induction l with
 | nil => intro i; simp [nv]
 | cons d l ih =>
  intro i
  have h2 := h.head
  cases i with
  | zero => simp [nv]; omega
  | succ i =>
   rw [List.getD_cons_succ, ih h.tail i, Nat.pow_succ, Nat.mul_comm, ← Nat.div_div_eq_div_mul]
   congr 3
   simp only [nv]; omega
theorem mod_succ (x i : Nat) : x % 16777216 ^ (i + 1) = x % 16777216 ^ i + 16777216 ^ i * (x / 16777216 ^ i % 16777216) := by
 rw [Nat.pow_succ, Nat.mod_mul]
theorem div_succ (x i : Nat) : x / 16777216 ^ (i + 1) = x / 16777216 ^ i / 16777216 := by
 rw [Nat.pow_succ, Nat.div_div_eq_div_mul]
theorem pw_pos (i : Nat) : 0 < 16777216 ^ i := Nat.pow_pos (by decide)
theorem nv_set {l : List Int} (h : Dg l) {i : Nat} (hi : i < l.length) {d : Int} (hd : 0 ≤ d ∧ d < 16777216) :
  nv (l.set i d) + 16777216 ^ i * (l.getD i 0).toNat = nv l + 16777216 ^ i * d.toNat := by
 induction l generalizing i with
 | nil => simp at hi
 | cons e l ih =>
  cases i with
  | zero => simp [nv]; omega
  | succ i =>
   have := ih h.tail (i := i) (by simpa using hi)
   simp only [List.set_cons_succ, nv, List.getD_cons_succ, Nat.pow_succ]
   grind
end Go.Proofs.Ytjlaijaadclghaa.M

namespace Go.Proofs.Ytjlaijaadclghaa.M
open RowKit YtjlaijaadclghaaW PrintWords PrintLast PrintMore
set_option linter.all false
theorem w64 {x : Int} (h0 : -9223372036854775808 ≤ x) (h1 : x < 9223372036854775808) : wrap64 x = x := by unfold wrap64; omega
theorem u64w (x : Int) : IntKind.u64.wrap x = x % 18446744073709551616 := by simp [IntKind.wrap, IntKind.bits, IntKind.signed]
theorem u64s {x : Int} (h0 : 0 ≤ x) (h1 : x < 18446744073709551616) : IntKind.u64.wrap x = x := by rw [u64w]; omega
theorem tmod_nn {x : Int} (h : 0 ≤ x) (y : Int) : Int.tmod x y = x % y := Int.tmod_eq_emod_of_nonneg h
theorem tdiv_nn {x : Int} (h : 0 ≤ x) (y : Int) : Int.tdiv x y = x / y := Int.tdiv_eq_ediv_of_nonneg h
theorem rd_nat (l : List Int) (i : Nat) : rd l (i : Int) = l.getD i 0 := by simp [rd]
theorem wf_u64 {x : Int} (h : (Lit.int .u64 x).wf = true) : 0 ≤ x ∧ x < 18446744073709551616 := by
 simp [Lit.wf, IntKind.min, IntKind.max, IntKind.bits, IntKind.signed] at h; omega
theorem wf_i64 {x : Int} (h : (Lit.int .i64 x).wf = true) : -9223372036854775808 ≤ x ∧ x < 9223372036854775808 := by
 simp [Lit.wf, IntKind.min, IntKind.max, IntKind.bits, IntKind.signed] at h; omega
theorem word {a : Int} (h : (Lit.int .u64 a).wf = true) : ∃ n : Nat, a = (n : Int) ∧ n < 18446744073709551616 := by
 have := wf_u64 h
 exact ⟨a.toNat, by omega, by omega⟩
theorem Ev.pure {α : Type} {x : Option α} {r : α} (h : x = some r) : Ev (fun _ => x) r := ⟨0, fun _ _ => h⟩
theorem Ev.bindp {α β : Type} {x : Option α} {f : Nat → α → Option β} {a : α} {r : β} (h : x = some a) (k : Ev (fun n => f n a) r) : Ev (fun n => x.bind (f n)) r := by subst h; exact k
end Go.Proofs.Ytjlaijaadclghaa.M
