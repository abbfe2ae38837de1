/-
  DERIVED. GIVEN WITH THE SEED: THE CARDS: each row of YtogldofffdiflaaDoorRows.lean that lists a variable, with what it lists TIED to the program's text (the seventh form; the later family's looks); each row that meets fmt, with fmt's text TOLD by the authors' own Lean function (tested against real Go, not proved from fmt's source: count such statements apart). THE CARD IS WHAT COUNTS. Prove the row's statement (the work); the ties are given (YtogldofffdiflaaDoorTie.lean); close each card by the builder's one call (the guide's Derived/Test/ToyasCard.lean, 'card_holds'). Laid BY PROGRAM, IN A SANDBOX (cutbox-door.mjs). By AI agents, Wed Nov 11 2026. No macro, syntax, notation, axiom, sorry.
-/
import Derived.Test.YtogldofffdiflaaDoorRows
import GoSem.ClaimSeven
namespace Go.Proofs.YtogldofffdiflaaDoor
namespace Rows

/-- THE TIED CARD OF 'vernierlaw01.LeadCounts'. -/
def leadCountsCard : Claim7 := { stood := { row := leadCountsRow, standIns := [], harness := (true, "3837780bbf8ad66d9df5e84a31a7a78a6b05c564a9340e8c54891ee37a1fd877"), looks := false }, kinds := [], alts := [], laidByText := true, laidKinds := [.data], laidTests := true, laidLooks := .later }
def LeadCountsCardSaid : Prop := Claim7.holds Tryd.pinned (.plain (OpenSpec.ofChange leadCountsSpec)) leadCountsCard

/-- THE SECOND FORM's CARD OF 'vernierlaw01.LeadCounts'. -/
def leadCountsUptoCard : Claim7 := { stood := { row := leadCountsUptoRow, standIns := [], harness := (true, "3837780bbf8ad66d9df5e84a31a7a78a6b05c564a9340e8c54891ee37a1fd877"), looks := false }, kinds := [], alts := [], laidByText := true, laidKinds := [.data], laidTests := true, laidLooks := .later }
def LeadCountsUptoCardSaid : Prop := Claim7.holds Tryd.pinned (.plain (OpenSpec.upto leadCountsSpec)) leadCountsUptoCard
end Rows
end Go.Proofs.YtogldofffdiflaaDoor
