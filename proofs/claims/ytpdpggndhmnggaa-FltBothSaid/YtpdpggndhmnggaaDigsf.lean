/- Natural numbers as lists of digits of 24 bits, the lowest first, without noughts at the end: the one list of a number, and how to know it. -/
namespace Go.Proofs.Ytpdpggndhmnggaa.M
set_option linter.unusedVariables false
set_option linter.unusedSimpArgs false
/-- Its digits are digits. -/
def Dg (l : List Int) : Prop := ∀ d ∈ l, 0 ≤ d ∧ d < 16777216
theorem Dg.nil : Dg [] := by intro d h; simp at h
theorem Dg.cons {d : Int} {l : List Int} (h : 0 ≤ d ∧ d < 16777216) (hl : Dg l) : Dg (d :: l) := by
  intro x hx
  rcases List.mem_cons.mp hx with rfl | hx
  · exact h
  · exact hl _ hx
theorem Dg.head {d : Int} {l : List Int} (h : Dg (d :: l)) : 0 ≤ d ∧ d < 16777216 := h d (by simp)
theorem Dg.append {l m : List Int} (h : Dg l) (k : Dg m) : Dg (l ++ m) := by
  intro x hx
  rcases List.mem_append.mp hx with hx | hx
  · exact h _ hx
  · exact k _ hx
theorem Dg.snoc {l : List Int} {d : Int} (h : Dg l) (k : 0 ≤ d ∧ d < 16777216) : Dg (l ++ [d]) := h.append (Dg.cons k Dg.nil)
theorem Dg.take {l : List Int} (h : Dg l) (n : Nat) : Dg (l.take n) := fun x hx => h x (List.mem_of_mem_take hx)
theorem Dg.drop {l : List Int} (h : Dg l) (n : Nat) : Dg (l.drop n) := fun x hx => h x (List.mem_of_mem_drop hx)
theorem Dg.replicate (n : Nat) : Dg (List.replicate n 0) := by
  intro x hx
  obtain ⟨_, rfl⟩ := List.mem_replicate.mp hx
  omega
theorem Dg.getD {l : List Int} (h : Dg l) (i : Nat) : 0 ≤ l.getD i 0 ∧ l.getD i 0 < 16777216 := by
  rw [List.getD_eq_getElem?_getD]
  by_cases hi : i < l.length
  · rw [List.getElem?_eq_getElem hi]; exact h _ (List.getElem_mem hi)
  · rw [List.getElem?_eq_none (by omega)]; decide
theorem Dg.set {l : List Int} (h : Dg l) (i : Nat) {d : Int} (k : 0 ≤ d ∧ d < 16777216) : Dg (l.set i d) := by
  intro x hx
  rcases List.mem_or_eq_of_mem_set hx with hx | rfl
  · exact h _ hx
  · exact k
end Go.Proofs.Ytpdpggndhmnggaa.M
