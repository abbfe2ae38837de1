/- Natural numbers as lists of digits of 24 bits, the lowest first, without noughts at the end: the one list of a number, and how to know it. -/
import Derived.Test.YtpdpggndhmnggaaVg
namespace Go.Proofs.Ytpdpggndhmnggaa.M
set_option linter.unusedVariables false
set_option linter.unusedSimpArgs false
/-- Its digits are digits. -/
def Dg (l : List Int) : Prop := ∀ d ∈ l, 0 ≤ d ∧ d < 16777216
theorem Dg.nil : Dg [] := by intro d h; simp at h
theorem Dg.cons {d : Int} {l : List Int} (h : 0 ≤ d ∧ d < 16777216) (hl : Dg l) : Dg (d :: l) := by
  intro x hx
  rcases List.mem_cons.mp hx with rfl | hx
  · exact h
  · exact hl _ hx
theorem Dg.head {d : Int} {l : List Int} (h : Dg (d :: l)) : 0 ≤ d ∧ d < 16777216 := h d (by simp)
theorem Dg.append {l m : List Int} (h : Dg l) (k : Dg m) : Dg (l ++ m) := by
  intro x hx
  rcases List.mem_append.mp hx with hx | hx
  · exact h _ hx
  · exact k _ hx
theorem Dg.snoc {l : List Int} {d : Int} (h : Dg l) (k : 0 ≤ d ∧ d < 16777216) : Dg (l ++ [d]) := h.append (Dg.cons k Dg.nil)
theorem Dg.take {l : List Int} (h : Dg l) (n : Nat) : Dg (l.take n) := fun x hx => h x (List.mem_of_mem_take hx)
theorem Dg.drop {l : List Int} (h : Dg l) (n : Nat) : Dg (l.drop n) := fun x hx => h x (List.mem_of_mem_drop hx)
theorem Dg.replicate (n : Nat) : Dg (List.replicate n 0) := by
  intro x hx
  obtain ⟨_, rfl⟩ := List.mem_replicate.mp hx
  omega
theorem Dg.getD {l : List Int} (h : Dg l) (i : Nat) : 0 ≤ l.getD i 0 ∧ l.getD i 0 < 16777216 := by
  rw [List.getD_eq_getElem?_getD]
  by_cases hi : i < l.length
  · rw [List.getElem?_eq_getElem hi]; exact h _ (List.getElem_mem hi)
  · rw [List.getElem?_eq_none (by omega)]; decide
theorem Dg.set {l : List Int} (h : Dg l) (i : Nat) {d : Int} (k : 0 ≤ d ∧ d < 16777216) : Dg (l.set i d) := by
  intro x hx
  rcases List.mem_or_eq_of_mem_set hx with hx | rfl
  · exact h _ hx
  · exact k
end Go.Proofs.Ytpdpggndhmnggaa.M

namespace Go.Proofs.Ytpdpggndhmnggaa.M
open Go.RowKit Go.Proofs.YtpdpggndhmnggaaW.PrintWords Go.Proofs.YtpdpggndhmnggaaW.PrintLast Go.Proofs.YtpdpggndhmnggaaW.PrintMore
set_option linter.unusedVariables false
set_option linter.unusedSimpArgs false
theorem w64 {x : Int} (h0 : -9223372036854775808 ≤ x) (h1 : x < 9223372036854775808) : wrap64 x = x := by unfold wrap64; omega
theorem u64w (x : Int) : IntKind.u64.wrap x = x % 18446744073709551616 := by simp [IntKind.wrap, IntKind.bits, IntKind.signed]
theorem u64s {x : Int} (h0 : 0 ≤ x) (h1 : x < 18446744073709551616) : IntKind.u64.wrap x = x := by rw [u64w]; omega
theorem tmod_nn {x : Int} (h : 0 ≤ x) (y : Int) : Int.tmod x y = x % y := Int.tmod_eq_emod_of_nonneg h
theorem wf_u64 {x : Int} (h : (Lit.int .u64 x).wf = true) : 0 ≤ x ∧ x < 18446744073709551616 := by
  simp [Lit.wf, IntKind.min, IntKind.max, IntKind.bits, IntKind.signed] at h; omega
theorem wf_i64 {x : Int} (h : (Lit.int .i64 x).wf = true) : -9223372036854775808 ≤ x ∧ x < 9223372036854775808 := by
  simp [Lit.wf, IntKind.min, IntKind.max, IntKind.bits, IntKind.signed] at h; omega
theorem word {a : Int} (h : (Lit.int .u64 a).wf = true) : ∃ n : Nat, a = (n : Int) ∧ n < 18446744073709551616 := by
  have := wf_u64 h
  exact ⟨a.toNat, by omega, by omega⟩
theorem Ev.pure {α : Type} {x : Option α} {r : α} (h : x = some r) : Ev (fun _ => x) r := ⟨0, fun _ _ => h⟩
theorem Ev.bindp {α β : Type} {x : Option α} {f : Nat → α → Option β} {a : α} {r : β} (h : x = some a) (k : Ev (fun n => f n a) r) : Ev (fun n => x.bind (f n)) r := by subst h; exact k
end Go.Proofs.Ytpdpggndhmnggaa.M

namespace Go.Proofs.Ytpdpggndhmnggaa.M
set_option linter.unusedVariables false
set_option linter.unusedSimpArgs false
/-- How many bits a number has. -/
def blen (x : Nat) : Nat := if x = 0 then 0 else x.log2 + 1
theorem lt_blen (x : Nat) : x < 2 ^ blen x := by
  unfold blen
  split
  · rename_i h; subst h; decide
  · exact Nat.lt_log2_self
theorem blen_le {x : Nat} (h : 0 < x) : 2 ^ (blen x - 1) ≤ x := by
  unfold blen
  rw [if_neg (by omega), Nat.add_sub_cancel]
  exact Nat.log2_self_le (by omega)
theorem blen_pos {x : Nat} (h : 0 < x) : 0 < blen x := by unfold blen; rw [if_neg (by omega)]; omega
theorem blen_unique {x n : Nat} (h1 : x < 2 ^ n) (h2 : n = 0 ∨ 2 ^ (n - 1) ≤ x) : blen x = n := by
  rcases Nat.eq_zero_or_pos x with h | h
  · subst h
    rcases h2 with rfl | h2
    · rfl
    · have : 0 < 2 ^ (n - 1) := Nat.pow_pos (by decide)
      omega
  · have h3 := blen_le h
    have h4 := lt_blen x
    have h5 := blen_pos h
    rcases h2 with rfl | h2
    · simp at h1; omega
    · rcases Nat.lt_trichotomy (blen x) n with h6 | h6 | h6
      · have : 2 ^ blen x ≤ 2 ^ (n - 1) := Nat.pow_le_pow_right (by decide) (by omega)
        omega
      · exact h6
      · have : 2 ^ n ≤ 2 ^ (blen x - 1) := Nat.pow_le_pow_right (by decide) (by omega)
        omega
end Go.Proofs.Ytpdpggndhmnggaa.M
