/- How many bits a natural number has. -/
namespace Go.Proofs.Ytpdpggndhmnggaa.M
set_option linter.unusedVariables false
set_option linter.unusedSimpArgs false
/-- How many bits a number has. -/
def blen (x : Nat) : Nat := if x = 0 then 0 else x.log2 + 1
theorem lt_blen (x : Nat) : x < 2 ^ blen x := by
  unfold blen
  split
  · rename_i h; subst h; decide
  · exact Nat.lt_log2_self
theorem blen_le {x : Nat} (h : 0 < x) : 2 ^ (blen x - 1) ≤ x := by
  unfold blen
  rw [if_neg (by omega), Nat.add_sub_cancel]
  exact Nat.log2_self_le (by omega)
theorem blen_pos {x : Nat} (h : 0 < x) : 0 < blen x := by unfold blen; rw [if_neg (by omega)]; omega
theorem blen_unique {x n : Nat} (h1 : x < 2 ^ n) (h2 : n = 0 ∨ 2 ^ (n - 1) ≤ x) : blen x = n := by
  rcases Nat.eq_zero_or_pos x with h | h
  · subst h
    rcases h2 with rfl | h2
    · rfl
    · have : 0 < 2 ^ (n - 1) := Nat.pow_pos (by decide)
      omega
  · have h3 := blen_le h
    have h4 := lt_blen x
    have h5 := blen_pos h
    rcases h2 with rfl | h2
    · simp at h1; omega
    · rcases Nat.lt_trichotomy (blen x) n with h6 | h6 | h6
      · have : 2 ^ blen x ≤ 2 ^ (n - 1) := Nat.pow_le_pow_right (by decide) (by omega)
        omega
      · exact h6
      · have : 2 ^ n ≤ 2 ^ (blen x - 1) := Nat.pow_le_pow_right (by decide) (by omega)
        omega
end Go.Proofs.Ytpdpggndhmnggaa.M
