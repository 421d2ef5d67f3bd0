/-
  DERIVED. GIVEN WITH THE SEED: THE CARDS: each row of YtogkkfdkeefjnaaGreatDoorRows.lean that lists a variable, with what it lists TIED to the program's text (the seventh form; the later family's looks); each row that meets fmt, with fmt's text TOLD by the authors' own Lean function (tested against real Go, not proved from fmt's source: count such statements apart). THE CARD IS WHAT COUNTS. Prove the row's statement (the work); the ties are given (YtogkkfdkeefjnaaGreatDoorTie.lean); close each card by the builder's one call (the guide's Derived/Test/ToyasCard.lean, 'card_holds'). Laid BY PROGRAM, IN A SANDBOX (cutbox-door.mjs). By AI agents, Wed Nov 11 2026. No macro, syntax, notation, axiom, sorry.
-/
import Derived.Test.YtogkkfdkeefjnaaGreatDoorRows
import GoSem.ClaimSeven
namespace Go.Proofs.YtogkkfdkeefjnaaGreatDoor
namespace Rows

/-- THE TIED CARD OF 'conclavelaw17.MemberGroups'. -/
def memberGroupsCard : Claim7 := { stood := { row := memberGroupsRow, standIns := [], harness := (true, "3eae1f01491637b9cf06640e62f5e8b4b3108477d925646485e6ad8c095a8d9e"), looks := false }, kinds := [], alts := [], laidByText := true, laidKinds := [.data, .data, .data], laidTests := true, laidLooks := .later }
def MemberGroupsCardSaid : Prop := Claim7.holds Tryz.pinned (.plain (OpenSpec.ofChange memberGroupsSpec)) memberGroupsCard

/-- THE SECOND FORM's CARD OF 'conclavelaw17.MemberGroups'. -/
def memberGroupsUptoCard : Claim7 := { stood := { row := memberGroupsUptoRow, standIns := [], harness := (true, "3eae1f01491637b9cf06640e62f5e8b4b3108477d925646485e6ad8c095a8d9e"), looks := false }, kinds := [], alts := [], laidByText := true, laidKinds := [.data, .data, .data], laidTests := true, laidLooks := .later }
def MemberGroupsUptoCardSaid : Prop := Claim7.holds Tryz.pinned (.plain (OpenSpec.upto memberGroupsSpec)) memberGroupsUptoCard
end Rows
end Go.Proofs.YtogkkfdkeefjnaaGreatDoor
