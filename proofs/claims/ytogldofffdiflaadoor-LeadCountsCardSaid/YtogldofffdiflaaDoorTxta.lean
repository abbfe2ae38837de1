/- Bits as text: the reference's texts of bits, what they hold, what is cut out of them and put together, and the number that they show. -/
import Derived.Test.YtogldofffdiflaaDoorF4a
import Derived.Test.YtogldofffdiflaaDoorWordsa
namespace Go.Proofs.YtogldofffdiflaaDoor.M
open Go.RowKit Go.Proofs.YtogldofffdiflaaDoorW.PrintWords Go.Proofs.YtogldofffdiflaaDoorW.PrintLast Go.Proofs.YtogldofffdiflaaDoorW.PrintMore Go.Proofs.YtogldofffdiflaaDoor.F
set_option linter.unusedVariables false
set_option linter.unusedSimpArgs false
/-- The lowest n bits of x as signs, the highest first. -/
def tx (x : Nat) : Nat → List Int
  | 0 => []
  | n + 1 => ((48 + x / 2 ^ n % 2 : Nat) : Int) :: tx x n
def txt (x n : Nat) : ByteArray := strOfNums (tx x n)
theorem tx_length (x n : Nat) : (tx x n).length = n := by
  induction n with
  | zero => rfl
  | succ n ih => simp [tx, ih]
theorem txt_size (x n : Nat) : (txt x n).size = n := by unfold txt; rw [strOfNums_size, tx_length]
theorem tx_getD (x : Nat) : ∀ n j : Nat, j < n → (tx x n).getD j 0 = ((48 + x / 2 ^ (n - 1 - j) % 2 : Nat) : Int) := by
  intro n
  induction n with
  | zero => intro j h; omega
  | succ n ih =>
    intro j h
    cases j with
    | zero => simp [tx]
    | succ j =>
      rw [tx, List.getD_cons_succ, ih j (by omega)]
      congr 5
      omega
theorem bt_str (xs : List Int) (j : Nat) (h : j < xs.length) : bt (strOfNums xs) (j : Int) = (xs.getD j 0).toNat % 256 := by
  unfold bt
  rw [dif_pos (by rw [strOfNums_size]; simpa using h)]
  have e : (strOfNums xs)[((j : Int)).toNat]'(by rw [strOfNums_size]; simpa using h) = UInt8.ofNat (xs.getD j 0).toNat := by
    show (strOfNums xs).data[((j : Int)).toNat]'_ = _
    simp [strOfNums, List.getD_eq_getElem?_getD, List.getElem?_eq_getElem h]
  rw [e]
  simp
theorem txt_bt {x n j : Nat} (h : j < n) : bt (txt x n) (j : Int) = ((48 + x / 2 ^ (n - 1 - j) % 2 : Nat) : Int) := by
  unfold txt
  rw [bt_str _ _ (by rw [tx_length]; exact h), tx_getD x n j h, Int.toNat_natCast]
  have : 48 + x / 2 ^ (n - 1 - j) % 2 < 256 := by omega
  omega
theorem Text_l0 {x : Nat} (hx : x < 18446744073709551616) : ∀ (n : Nat) (out : List Int), out.length + n ≤ 1000 → Ev (fun k => vernierref01_Text.l0 k (x : Int) out ((n : Int) - 1)) (strOfNums (out ++ tx x n)) := by
  intro n
  induction n with
  | zero =>
    intro out h
    refine Ev.step (f := fun _ => some (strOfNums out)) (fun k => ?_) ?_
    · simp only [vernierref01_Text.l0]; rw [if_neg (by omega)]
    · rw [tx, List.append_nil]; exact Ev.now _
  | succ n ih =>
    intro out h
    have e0 : (((n + 1 : Nat) : Int) - 1) = (n : Int) := by omega
    simp only [e0]
    refine Ev.step (f := fun k => vernierref01_Text.l0 k (x : Int) (out ++ [((48 + x / 2 ^ n % 2 : Nat) : Int)]) ((n : Int) - 1)) (fun k => ?_) ?_
    · simp only [vernierref01_Text.l0]
      have e1 : (48 + Int.tmod ((x / 2 ^ n : Nat) : Int) 2) % 256 = ((48 + x / 2 ^ n % 2 : Nat) : Int) := by rw [tmod_nn (Int.natCast_nonneg _)]; omega
      rw [if_pos (by omega), if_pos (by omega), if_pos (by omega), shr_nat hx, e1, w64 (by omega) (by omega)]
    · have := ih (out ++ [((48 + x / 2 ^ n % 2 : Nat) : Int)]) (by simp; omega)
      rw [List.append_assoc] at this
      exact this
theorem Text_ev {x n : Nat} (hx : x < 18446744073709551616) (hn : n ≤ 64) : Ev (fun k => vernierref01_Text.f k (x : Int) (n : Int)) (txt x n) := by
  unfold vernierref01_Text.f
  rw [w64 (by omega) (by omega)]
  exact Text_l0 hx n [] (by simp; omega)
end Go.Proofs.YtogldofffdiflaaDoor.M
