/- Natural numbers as lists of digits of 24 bits, the lowest first, without noughts at the end: the one list of a number, and how to know it. -/
namespace Go.Proofs.Ytpdpggndhmnggaa.M
set_option linter.unusedVariables false
set_option linter.unusedSimpArgs false
/-- What a list of digits is worth. -/
def nv : List Int → Nat
  | [] => 0
  | d :: l => d.toNat + 16777216 * nv l
/-- Its digits are digits. -/
def Dg (l : List Int) : Prop := ∀ d ∈ l, 0 ≤ d ∧ d < 16777216
/-- The digits of a number, at most f of them. -/
def dgs : Nat → Nat → List Int
  | 0, _ => []
  | f + 1, v => if v = 0 then [] else ((v % 16777216 : Nat) : Int) :: dgs f (v / 16777216)
/-- The digits of a number. -/
def digs (v : Nat) : List Int := dgs (v + 1) v
theorem dgs_more : ∀ f g v, v < f → v < g → dgs f v = dgs g v := by
  intro f
  induction f with
  | zero => intro g v h; omega
  | succ f ih =>
    intro g v h1 h2
    obtain ⟨g, rfl⟩ : ∃ m, g = m + 1 := ⟨g - 1, by omega⟩
    simp only [dgs]
    split
    · rfl
    · rw [ih g (v / 16777216) (by omega) (by omega)]
theorem digs_zero : digs 0 = [] := rfl
theorem digs_pos (v : Nat) (h : 0 < v) : digs v = ((v % 16777216 : Nat) : Int) :: digs (v / 16777216) := by
  unfold digs
  rw [show dgs (v + 1) v = if v = 0 then [] else ((v % 16777216 : Nat) : Int) :: dgs v (v / 16777216) from rfl, if_neg (by omega)]
  rw [dgs_more v (v / 16777216 + 1) (v / 16777216) (by omega) (by omega)]
theorem Dg.nil : Dg [] := by intro d h; simp at h
theorem Dg.cons {d : Int} {l : List Int} (h : 0 ≤ d ∧ d < 16777216) (hl : Dg l) : Dg (d :: l) := by
  intro x hx
  rcases List.mem_cons.mp hx with rfl | hx
  · exact h
  · exact hl _ hx
theorem Dg.head {d : Int} {l : List Int} (h : Dg (d :: l)) : 0 ≤ d ∧ d < 16777216 := h d (by simp)
theorem Dg.tail {d : Int} {l : List Int} (h : Dg (d :: l)) : Dg l := fun x hx => h x (by simp [hx])
theorem Dg.append {l m : List Int} (h : Dg l) (k : Dg m) : Dg (l ++ m) := by
  intro x hx
  rcases List.mem_append.mp hx with hx | hx
  · exact h _ hx
  · exact k _ hx
theorem Dg.snoc {l : List Int} {d : Int} (h : Dg l) (k : 0 ≤ d ∧ d < 16777216) : Dg (l ++ [d]) := h.append (Dg.cons k Dg.nil)
theorem Dg.take {l : List Int} (h : Dg l) (n : Nat) : Dg (l.take n) := fun x hx => h x (List.mem_of_mem_take hx)
theorem Dg.drop {l : List Int} (h : Dg l) (n : Nat) : Dg (l.drop n) := fun x hx => h x (List.mem_of_mem_drop hx)
theorem Dg.replicate (n : Nat) : Dg (List.replicate n 0) := by
  intro x hx
  obtain ⟨_, rfl⟩ := List.mem_replicate.mp hx
  omega
theorem Dg.getD {l : List Int} (h : Dg l) (i : Nat) : 0 ≤ l.getD i 0 ∧ l.getD i 0 < 16777216 := by
  rw [List.getD_eq_getElem?_getD]
  by_cases hi : i < l.length
  · rw [List.getElem?_eq_getElem hi]; exact h _ (List.getElem_mem hi)
  · rw [List.getElem?_eq_none (by omega)]; decide
theorem Dg.set {l : List Int} (h : Dg l) (i : Nat) {d : Int} (k : 0 ≤ d ∧ d < 16777216) : Dg (l.set i d) := by
  intro x hx
  rcases List.mem_or_eq_of_mem_set hx with hx | rfl
  · exact h _ hx
  · exact k
theorem nv_append (l m : List Int) : nv (l ++ m) = nv l + 16777216 ^ l.length * nv m := by
  induction l with
  | nil => simp [nv]
  | cons d l ih => simp only [List.cons_append, nv, ih, List.length_cons]; grind
theorem nv_snoc (l : List Int) (d : Int) : nv (l ++ [d]) = nv l + 16777216 ^ l.length * d.toNat := by rw [nv_append]; simp [nv]
theorem nv_replicate (n : Nat) : nv (List.replicate n 0) = 0 := by
  induction n with
  | zero => rfl
  | succ n ih => rw [List.replicate_succ]; simp [nv, ih]
theorem nv_lt {l : List Int} (h : Dg l) : nv l < 16777216 ^ l.length := by
  induction l with
  | nil => simp [nv]
  | cons d l ih =>
    have h1 := ih h.tail
    have h2 := h.head
    simp only [nv, List.length_cons, Nat.pow_succ]
    omega
theorem digs_dg : ∀ v, Dg (digs v) := by
  intro v
  induction v using Nat.strongRecOn with
  | _ v ih =>
    by_cases h : v = 0
    · subst h; exact Dg.nil
    · rw [digs_pos v (by omega)]
      exact Dg.cons (by omega) (ih _ (by omega))
theorem nv_digs : ∀ v, nv (digs v) = v := by
  intro v
  induction v using Nat.strongRecOn with
  | _ v ih =>
    by_cases h : v = 0
    · subst h; rfl
    · rw [digs_pos v (by omega)]
      simp only [nv]
      rw [ih _ (by omega)]
      omega
/-- A list of digits whose last is none of noughts is the list of what it is worth. -/
theorem eq_digs : ∀ {l : List Int}, Dg l → (l = [] ∨ 16777216 ^ (l.length - 1) ≤ nv l) → l = digs (nv l) := by
  intro l
  induction l with
  | nil => intro _ _; rfl
  | cons d l ih =>
    intro h hc
    have h2 := h.head
    have hpos : 0 < nv (d :: l) := by
      rcases hc with hc | hc
      · cases hc
      · exact Nat.lt_of_lt_of_le (Nat.pow_pos (by decide)) hc
    rw [digs_pos _ hpos]
    have e1 : ((nv (d :: l) % 16777216 : Nat) : Int) = d := by simp only [nv]; omega
    have e2 : nv (d :: l) / 16777216 = nv l := by simp only [nv]; omega
    rw [e1, e2, ← ih h.tail]
    cases l with
    | nil => left; rfl
    | cons e m =>
      right
      rcases hc with hc | hc
      · cases hc
      · simp only [List.length_cons, Nat.add_sub_cancel] at hc ⊢
        have e3 : nv (d :: e :: m) = d.toNat + 16777216 * nv (e :: m) := rfl
        rw [e3, Nat.pow_succ] at hc
        omega
theorem eq_digs' {l : List Int} {v : Nat} (h : Dg l) (hv : nv l = v) (hc : l = [] ∨ 16777216 ^ (l.length - 1) ≤ v) : l = digs v := by
  subst hv; exact eq_digs h hc
theorem digs_canon : ∀ v, digs v = [] ∨ 16777216 ^ ((digs v).length - 1) ≤ v := by
  intro v
  induction v using Nat.strongRecOn with
  | _ v ih =>
    by_cases h : v = 0
    · subst h; left; rfl
    · right
      rw [digs_pos v (by omega)]
      rcases ih (v / 16777216) (by omega) with h1 | h1
      · rw [h1]; simp; omega
      · rw [List.length_cons, Nat.add_sub_cancel]
        by_cases h2 : digs (v / 16777216) = []
        · rw [h2]; simp; omega
        · have : 0 < (digs (v / 16777216)).length := List.length_pos_iff.mpr h2
          obtain ⟨m, hm⟩ : ∃ m, (digs (v / 16777216)).length = m + 1 := ⟨_, (Nat.succ_pred_eq_of_pos this).symm⟩
          rw [hm] at h1 ⊢
          simp only [Nat.add_sub_cancel] at h1
          rw [Nat.pow_succ]; omega
theorem digs_lt (v : Nat) : v < 16777216 ^ (digs v).length := by
  have := nv_lt (digs_dg v); rwa [nv_digs] at this
theorem digs_length_le {v n : Nat} (h : v < 16777216 ^ n) : (digs v).length ≤ n := by
  rcases digs_canon v with h1 | h1
  · rw [h1]; simp
  · rcases Nat.lt_or_ge n (digs v).length with h2 | h2
    · exfalso
      have : 16777216 ^ n ≤ 16777216 ^ ((digs v).length - 1) := Nat.pow_le_pow_right (by decide) (by omega)
      omega
    · exact h2
theorem digs_length_gt {v n : Nat} (h : 16777216 ^ n ≤ v) : n < (digs v).length := by
  have := digs_lt v
  rcases Nat.lt_or_ge n (digs v).length with h2 | h2
  · exact h2
  · exfalso
    have : 16777216 ^ (digs v).length ≤ 16777216 ^ n := Nat.pow_le_pow_right (by decide) h2
    omega
theorem digs_length_iff {v n : Nat} : n < (digs v).length ↔ 16777216 ^ n ≤ v := by
  refine ⟨fun h => ?_, digs_length_gt⟩
  rcases Nat.lt_or_ge v (16777216 ^ n) with h2 | h2
  · have := digs_length_le h2; omega
  · exact h2
theorem digs_length_pos {v : Nat} : 0 < (digs v).length ↔ 0 < v := by
  rw [digs_length_iff]; simp; omega
theorem digs_getD : ∀ (i v : Nat), (digs v).getD i 0 = ((v / 16777216 ^ i % 16777216 : Nat) : Int) := by
  intro i
  induction i with
  | zero =>
    intro v
    by_cases h : v = 0
    · subst h; rfl
    · rw [digs_pos v (by omega)]; simp
  | succ i ih =>
    intro v
    by_cases h : v = 0
    · subst h; simp [digs_zero]
    · rw [digs_pos v (by omega), List.getD_cons_succ, ih, Nat.div_div_eq_div_mul]
      congr 3
      rw [Nat.pow_succ, Nat.mul_comm]
theorem mod_succ (x i : Nat) : x % 16777216 ^ (i + 1) = x % 16777216 ^ i + 16777216 ^ i * (x / 16777216 ^ i % 16777216) := by
  rw [Nat.pow_succ, Nat.mod_mul]
theorem div_succ (x i : Nat) : x / 16777216 ^ (i + 1) = x / 16777216 ^ i / 16777216 := by
  rw [Nat.pow_succ, Nat.div_div_eq_div_mul]
theorem pw_pos (i : Nat) : 0 < 16777216 ^ i := Nat.pow_pos (by decide)
end Go.Proofs.Ytpdpggndhmnggaa.M
