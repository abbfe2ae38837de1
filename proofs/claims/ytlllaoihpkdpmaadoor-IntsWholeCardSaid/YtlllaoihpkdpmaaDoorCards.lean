/-
  DERIVED. GIVEN WITH THE SEED: THE CARDS: each row of YtlllaoihpkdpmaaDoorRows.lean that lists a variable, with what it lists TIED to the program's text (the seventh form; the later family's looks); each row that meets fmt, with fmt's text TOLD by the authors' own Lean function (tested against real Go, not proved from fmt's source: count such statements apart). THE CARD IS WHAT COUNTS. Prove the row's statement (the work); the ties are given (YtlllaoihpkdpmaaDoorTie.lean); close each card by the builder's one call (the guide's Derived/Test/ToyasCard.lean, 'card_holds'). Laid BY PROGRAM, IN A SANDBOX (cutbox-door.mjs). By AI agents, Wed Nov 11 2026. No macro, syntax, notation, axiom, sorry.
-/
import Derived.Test.YtlllaoihpkdpmaaDoorRows
import GoSem.ClaimSeven
namespace Go.Proofs.YtlllaoihpkdpmaaDoor
namespace Rows

/-- THE TIED CARD OF 'vernierlaw16.IntsWhole'. -/
def intsWholeCard : Claim7 := { stood := { row := intsWholeRow, standIns := [], harness := (true, "d70e697423f2f4833c847bcd74c57b763d06e2ac476a40d5d7afd088b81da5c7"), looks := true }, kinds := [], alts := [], laidByText := true, laidKinds := [.data], laidTests := true, laidLooks := .later }
def IntsWholeCardSaid : Prop := Claim7.holds Tryd.pinned (.plain (OpenSpec.ofChange intsWholeSpec)) intsWholeCard

/-- THE TIED CARD OF 'vernierlaw16.IntsModes'. -/
def intsModesCard : Claim7 := { stood := { row := intsModesRow, standIns := [], harness := (true, "d70e697423f2f4833c847bcd74c57b763d06e2ac476a40d5d7afd088b81da5c7"), looks := true }, kinds := [], alts := [], laidByText := true, laidKinds := [.data], laidTests := true, laidLooks := .later }
def IntsModesCardSaid : Prop := Claim7.holds Tryd.pinned (.plain (OpenSpec.ofChange intsModesSpec)) intsModesCard

/-- THE SECOND FORM's CARD OF 'vernierlaw16.IntsWhole'. -/
def intsWholeUptoCard : Claim7 := { stood := { row := intsWholeUptoRow, standIns := [], harness := (true, "d70e697423f2f4833c847bcd74c57b763d06e2ac476a40d5d7afd088b81da5c7"), looks := true }, kinds := [], alts := [], laidByText := true, laidKinds := [.data], laidTests := true, laidLooks := .later }
def IntsWholeUptoCardSaid : Prop := Claim7.holds Tryd.pinned (.plain (OpenSpec.upto intsWholeSpec)) intsWholeUptoCard

/-- THE SECOND FORM's CARD OF 'vernierlaw16.IntsModes'. -/
def intsModesUptoCard : Claim7 := { stood := { row := intsModesUptoRow, standIns := [], harness := (true, "d70e697423f2f4833c847bcd74c57b763d06e2ac476a40d5d7afd088b81da5c7"), looks := true }, kinds := [], alts := [], laidByText := true, laidKinds := [.data], laidTests := true, laidLooks := .later }
def IntsModesUptoCardSaid : Prop := Claim7.holds Tryd.pinned (.plain (OpenSpec.upto intsModesSpec)) intsModesUptoCard
end Rows
end Go.Proofs.YtlllaoihpkdpmaaDoor
