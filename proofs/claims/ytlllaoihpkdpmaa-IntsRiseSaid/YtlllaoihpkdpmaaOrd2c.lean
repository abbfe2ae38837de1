/- Greater patterns mean greater numbers: the regime, then what stands behind it, rise with the string. (For OrderValues.) -/
import Derived.Test.YtlllaoihpkdpmaaF8c
import Derived.Test.YtlllaoihpkdpmaaCodc
namespace Go.Proofs.Ytlllaoihpkdpmaa.M
set_option linter.unusedVariables false
set_option linter.unusedSimpArgs false
theorem blen_mono {a b : Nat} (h : a ≤ b) : blen a ≤ blen b := blen_le_of (Nat.lt_of_le_of_lt h (lt_blen b))
end Go.Proofs.Ytlllaoihpkdpmaa.M
