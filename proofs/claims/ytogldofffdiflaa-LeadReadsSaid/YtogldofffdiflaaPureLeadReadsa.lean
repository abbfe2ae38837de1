/- For any text: the number that its digits tell, and the error, as the reference has them. No conditions. -/
import Derived.Test.YtogldofffdiflaaF7a
import Derived.Test.YtogldofffdiflaaLead2a
namespace Go.Proofs.Ytogldofffdiflaa.Pure
open Go.RowKit Go.Proofs.YtogldofffdiflaaW.PrintWords Go.Proofs.YtogldofffdiflaaW.PrintLast Go.Proofs.YtogldofffdiflaaW.PrintMore Go.Proofs.Ytogldofffdiflaa.F Go.Proofs.Ytogldofffdiflaa.M
set_option linter.unusedVariables false
set_option linter.unusedSimpArgs false
/-- A digit: nought or one. -/
def okB (s : ByteArray) (i : Nat) : Prop := bt s (i : Int) = 48 ∨ bt s (i : Int) = 49
/-- The number of the first digits, in a word. -/
def num (s : ByteArray) : Nat → Nat
  | 0 => 0
  | i + 1 => num s i * 2 % 18446744073709551616 + (if bt s (i : Int) = 49 then 1 else 0)
theorem num_lt (s : ByteArray) (i : Nat) : num s i < 18446744073709551616 := by
  cases i with
  | zero => simp [num]
  | succ i => unfold num; split <;> omega
theorem num_or {s : ByteArray} {i : Nat} (h : okB s i) : Go.bits .or .u64 (IntKind.u64.wrap ((num s i : Int) * 2)) ((bt s (i : Int) - 48) % 256) = ((num s (i + 1) : Nat) : Int) := by
  have e1 : IntKind.u64.wrap ((num s i : Int) * 2) = ((num s i * 2 % 18446744073709551616 : Nat) : Int) := by rw [u64w]; omega
  have e2 : ∃ b : Nat, (bt s (i : Int) - 48) % 256 = (b : Int) ∧ b < 2 ^ 1 ∧ num s (i + 1) = num s i * 2 % 18446744073709551616 + b := by
    rcases h with h | h
    · exact ⟨0, by rw [h]; rfl, by decide, by rw [num, h]; rfl⟩
    · exact ⟨1, by rw [h]; rfl, by decide, by rw [num, h]; rfl⟩
  obtain ⟨b, hb, hb2, hn⟩ := e2
  rw [e1, hb, hn]
  exact or_add (n := 1) (by omega) (by decide) (by omega) hb2
theorem num_add {s : ByteArray} {i : Nat} (h : okB s i) : IntKind.u64.wrap (IntKind.u64.wrap (2 * (num s i : Int)) + (bt s (i : Int) - 48) % 256) = ((num s (i + 1) : Nat) : Int) := by
  have hl := num_lt s (i + 1)
  have e2 : ∃ b : Nat, (bt s (i : Int) - 48) % 256 = (b : Int) ∧ b < 2 ∧ num s (i + 1) = num s i * 2 % 18446744073709551616 + b := by
    rcases h with h | h
    · exact ⟨0, by rw [h]; rfl, by decide, by rw [num, h]; rfl⟩
    · exact ⟨1, by rw [h]; rfl, by decide, by rw [num, h]; rfl⟩
  obtain ⟨b, hb, hb2, hn⟩ := e2
  rw [u64w, u64w, hb]
  omega
theorem Read_good {s : ByteArray} (hs : s.size ≤ 64) : ∀ d i : Nat, s.size - i ≤ d → i ≤ s.size → (∀ j, i ≤ j → j < s.size → okB s j) → Ev (fun k => lead_Read.l0 k (num s i : Int) s (s.size : Int) (i : Int)) ((num s s.size : Nat), none) := by
  intro d
  induction d with
  | zero =>
    intro i hd hi hg
    obtain rfl : i = s.size := by omega
    refine Ev.step (f := fun k => some ((num s s.size : Int), none)) (fun k => ?_) (Ev.now _)
    simp only [lead_Read.l0]
    rw [if_neg (by omega)]
  | succ d ih =>
    intro i hd hi hg
    by_cases hgo : i < s.size
    · have hk := hg i (Nat.le_refl _) hgo
      have ho := num_or hk
      refine Ev.step (f := fun k => lead_Read.l0 k (num s (i + 1) : Int) s (s.size : Int) ((i + 1 : Nat) : Int)) (fun k => ?_) (ih (i + 1) (by omega) (by omega) (fun j h1 h2 => hg j (by omega) h2))
      simp only [lead_Read.l0, ho]
      rw [if_pos (by omega), if_pos (by omega), if_pos (by omega), w64 (x := (i : Int) + 1) (by omega) (by omega)]
      rcases hk with hk | hk
      · rw [if_pos hk]; rfl
      · rw [if_neg (by omega), if_pos hk]; rfl
    · exact ih i (by omega) hi hg
theorem Read_bad {s : ByteArray} (hs : s.size ≤ 64) {m : Nat} (hm : m < s.size) (hb : ¬ okB s m) : ∀ d i : Nat, m - i ≤ d → i ≤ m → (∀ j, i ≤ j → j < m → okB s j) → ∀ x : Int, Ev (fun k => lead_Read.l0 k x s (s.size : Int) (i : Int)) (0, some 7) := by
  intro d
  induction d with
  | zero =>
    intro i hd hi hg x
    obtain rfl : i = m := by omega
    refine Ev.step (f := fun k => some (0, some 7)) (fun k => ?_) (Ev.now _)
    simp only [lead_Read.l0]
    rw [if_pos (by omega), if_pos (by omega), if_pos (by omega), if_neg (fun h => hb (.inl h)), if_neg (fun h => hb (.inr h))]
  | succ d ih =>
    intro i hd hi hg x
    by_cases hgo : i < m
    · have hk := hg i (Nat.le_refl _) hgo
      refine Ev.step (f := fun k => lead_Read.l0 k (Go.bits .or .u64 (IntKind.u64.wrap (x * 2)) ((bt s (i : Int) - 48) % 256)) s (s.size : Int) ((i + 1 : Nat) : Int)) (fun k => ?_) (ih (i + 1) (by omega) (by omega) (fun j h1 h2 => hg j (by omega) h2) _)
      simp only [lead_Read.l0]
      rw [if_pos (by omega), if_pos (by omega), if_pos (by omega), w64 (x := (i : Int) + 1) (by omega) (by omega)]
      rcases hk with hk | hk
      · rw [if_pos hk]; rfl
      · rw [if_neg (by omega), if_pos hk]; rfl
    · exact ih i (by omega) hi hg x
theorem Number01 {s : ByteArray} (hs : s.size ≤ 64) : ∀ d i : Nat, s.size - i ≤ d → i ≤ s.size → (∀ j, i ≤ j → j < s.size → okB s j) → Ev (fun k => vernierref01_Number.l0 k s (num s i : Int) (i : Int)) ((num s s.size : Nat) : Int) := by
  intro d
  induction d with
  | zero =>
    intro i hd hi hg
    obtain rfl : i = s.size := by omega
    refine Ev.step (f := fun k => some ((num s s.size : Int))) (fun k => ?_) (Ev.now _)
    simp only [vernierref01_Number.l0]
    rw [if_neg (by omega)]
  | succ d ih =>
    intro i hd hi hg
    by_cases hgo : i < s.size
    · have ho := num_add (hg i (Nat.le_refl _) hgo)
      refine Ev.step (f := fun k => vernierref01_Number.l0 k s (num s (i + 1) : Int) ((i + 1 : Nat) : Int)) (fun k => ?_) (ih (i + 1) (by omega) (by omega) (fun j h1 h2 => hg j (by omega) h2))
      simp only [vernierref01_Number.l0, ho]
      rw [if_pos (by omega), if_pos (by omega), w64 (x := (i : Int) + 1) (by omega) (by omega)]
      rfl
    · exact ih i (by omega) hi hg
theorem Read01_good {s : ByteArray} (hs : s.size ≤ 64) (hall : ∀ j, j < s.size → okB s j) : ∀ d i : Nat, s.size - i ≤ d → i ≤ s.size → Ev (fun k => vernierref01_Read.l0 k s (i : Int)) (((num s s.size : Nat) : Int), 0) := by
  intro d
  induction d with
  | zero =>
    intro i hd hi
    obtain rfl : i = s.size := by omega
    refine Ev.step (f := fun k => (vernierref01_Number.f k s).bind fun t => some (t, 0)) (fun k => ?_) (Ev.bind (?_ : Ev (fun k => vernierref01_Number.f k s) ((num s s.size : Nat) : Int)) (Ev.now _))
    · simp only [vernierref01_Read.l0]
      rw [if_neg (by omega)]
    · unfold vernierref01_Number.f
      exact Number01 hs _ 0 (Nat.le_refl _) (by omega) (fun j _ h => hall j h)
  | succ d ih =>
    intro i hd hi
    by_cases hgo : i < s.size
    · have hk := hall i hgo
      refine Ev.step (f := fun k => vernierref01_Read.l0 k s ((i + 1 : Nat) : Int)) (fun k => ?_) (ih (i + 1) (by omega) (by omega))
      simp only [vernierref01_Read.l0]
      rw [if_pos (by omega), if_pos (by omega), w64 (x := (i : Int) + 1) (by omega) (by omega)]
      rcases hk with hk | hk
      · rw [if_pos hk]; rfl
      · rw [if_neg (by omega), if_pos hk]; rfl
    · exact ih i (by omega) hi
theorem Read01_bad {s : ByteArray} (hs : s.size ≤ 64) {m : Nat} (hm : m < s.size) (hb : ¬ okB s m) : ∀ d i : Nat, m - i ≤ d → i ≤ m → (∀ j, i ≤ j → j < m → okB s j) → Ev (fun k => vernierref01_Read.l0 k s (i : Int)) (0, 7) := by
  intro d
  induction d with
  | zero =>
    intro i hd hi hg
    obtain rfl : i = m := by omega
    refine Ev.step (f := fun k => some (0, 7)) (fun k => ?_) (Ev.now _)
    simp only [vernierref01_Read.l0]
    rw [if_pos (by omega), if_pos (by omega), if_neg (fun h => hb (.inl h)), if_neg (fun h => hb (.inr h))]
  | succ d ih =>
    intro i hd hi hg
    by_cases hgo : i < m
    · have hk := hg i (Nat.le_refl _) hgo
      refine Ev.step (f := fun k => vernierref01_Read.l0 k s ((i + 1 : Nat) : Int)) (fun k => ?_) (ih (i + 1) (by omega) (by omega) (fun j h1 h2 => hg j (by omega) h2))
      simp only [vernierref01_Read.l0]
      rw [if_pos (by omega), if_pos (by omega), w64 (x := (i : Int) + 1) (by omega) (by omega)]
      rcases hk with hk | hk
      · rw [if_pos hk]; rfl
      · rw [if_neg (by omega), if_pos hk]; rfl
    · exact ih i (by omega) hi hg
/-- The first that is no digit, if there is one. -/
theorem first_bad (s : ByteArray) : ∀ n : Nat, (∀ j, j < n → okB s j) ∨ ∃ m, m < n ∧ ¬ okB s m ∧ ∀ j, j < m → okB s j := by
  intro n
  induction n with
  | zero => exact .inl (fun j h => by omega)
  | succ n ih =>
    rcases ih with h | ⟨m, h1, h2, h3⟩
    · by_cases c : okB s n
      · exact .inl (fun j hj => if e : j = n then e ▸ c else h j (by omega))
      · exact .inr ⟨n, by omega, c, h⟩
    · exact .inr ⟨m, by omega, h2, h3⟩
theorem LeadReads : vernierlaw01_LeadReads.Pure := by
  intro s hsz
  have key : ∃ (x : Int) (e : Option Int) (c : Int), Ev (fun k => lead_Read.f k s) (x, e) ∧ Ev (fun k => vernierref01_Read.f k s) (x, c) ∧ vernierlaw00_Code.f e = some c := by
    by_cases h : 64 < s.size
    · refine ⟨0, some 3, 3, ?_, ?_, code_nat 3 (by decide) (by decide)⟩
      · unfold lead_Read.f
        refine Ev.congr (f := fun _ => some (0, some 3)) (fun k => ?_) (Ev.now _)
        rw [if_pos (by omega)]
      · unfold vernierref01_Read.f
        refine Ev.congr (f := fun _ => some (0, 3)) (fun k => ?_) (Ev.now _)
        rw [if_pos (by omega)]
    · have hs : s.size ≤ 64 := by omega
      have u1 : ∀ k, lead_Read.f k s = lead_Read.l0 k 0 s (s.size : Int) 0 := fun k => by unfold lead_Read.f; rw [if_neg (by omega), if_pos (by decide)]
      have u2 : ∀ k, vernierref01_Read.f k s = vernierref01_Read.l0 k s 0 := fun k => by unfold vernierref01_Read.f; rw [if_neg (by omega)]
      rcases first_bad s s.size with hall | ⟨m, hm, hb, hg⟩
      · exact ⟨_, none, 0, Ev.congr u1 (Read_good hs _ 0 (Nat.le_refl _) (by omega) (fun j _ h => hall j h)), Ev.congr u2 (Read01_good hs hall _ 0 (Nat.le_refl _) (by omega)), code0⟩
      · exact ⟨0, some 7, 7, Ev.congr u1 (Read_bad hs hm hb _ 0 (Nat.le_refl _) (by omega) (fun j _ h => hg j h) 0), Ev.congr u2 (Read01_bad hs hm hb _ 0 (Nat.le_refl _) (by omega) (fun j _ h => hg j h)), code_nat 7 (by decide) (by decide)⟩
  obtain ⟨x, e, c, hL, hR, hc⟩ := key
  refine Ev.rounds ?_
  unfold vernierlaw01_LeadReads.f
  refine Ev.bind up01 (Ev.bind hL (Ev.bind hR ?_))
  simp only [↓reduceIte, hc, Option.bind_some, beq_self_eq_true]
  exact Ev.now _
end Go.Proofs.Ytogldofffdiflaa.Pure
