/-
  DERIVED. GIVEN WITH THE SEED: THE CARDS: each row of YtaifjojfmkcmjaaDoorRows.lean that lists a variable, with what it lists TIED to the program's text (the seventh form; the later family's looks); each row that meets fmt, with fmt's text TOLD by the authors' own Lean function (tested against real Go, not proved from fmt's source: count such statements apart). THE CARD IS WHAT COUNTS. Prove the row's statement (the work); the ties are given (YtaifjojfmkcmjaaDoorTie.lean); close each card by the builder's one call (the guide's Derived/Test/ToyasCard.lean, 'card_holds'). Laid BY PROGRAM, IN A SANDBOX (cutbox-door.mjs). By AI agents, Wed Nov 11 2026. No macro, syntax, notation, axiom, sorry.
-/
import Derived.Test.YtaifjojfmkcmjaaDoorRows
import GoSem.ClaimSeven
namespace Go.Proofs.YtaifjojfmkcmjaaDoor
namespace Rows

/-- THE TIED CARD OF 'conclavelaw11.FrameHides'. -/
def frameHidesCard : Claim7 := { stood := { row := frameHidesRow, standIns := [], harness := (true, "616abab068f1c0ab28f8450573f1c78ee16a343a216e2ebc0b5bbb6c5b64cb39"), looks := true }, kinds := [], alts := [], laidByText := true, laidKinds := [.data, .data, .data, .sentinel, .sentinel], laidTests := true, laidLooks := .later }
def FrameHidesCardSaid : Prop := Claim7.holds Tryd.pinned (.plain (OpenSpec.ofChange frameHidesSpec)) frameHidesCard

/-- THE TIED CARD OF 'conclavelaw11.FrameReads'. -/
def frameReadsCard : Claim7 := { stood := { row := frameReadsRow, standIns := [], harness := (true, "616abab068f1c0ab28f8450573f1c78ee16a343a216e2ebc0b5bbb6c5b64cb39"), looks := true }, kinds := [], alts := [], laidByText := true, laidKinds := [.data, .data, .data, .sentinel, .sentinel], laidTests := true, laidLooks := .later }
def FrameReadsCardSaid : Prop := Claim7.holds Tryd.pinned (.plain (OpenSpec.ofChange frameReadsSpec)) frameReadsCard

/-- THE TIED CARD OF 'conclavelaw11.FramePlain'. -/
def framePlainCard : Claim7 := { stood := { row := framePlainRow, standIns := [], harness := (true, "616abab068f1c0ab28f8450573f1c78ee16a343a216e2ebc0b5bbb6c5b64cb39"), looks := true }, kinds := [], alts := [], laidByText := true, laidKinds := [.data, .data, .data, .sentinel, .sentinel], laidTests := true, laidLooks := .later }
def FramePlainCardSaid : Prop := Claim7.holds Tryd.pinned (.plain (OpenSpec.ofChange framePlainSpec)) framePlainCard

/-- THE TIED CARD OF 'conclavelaw11.FrameSigns'. -/
def frameSignsCard : Claim7 := { stood := { row := frameSignsRow, standIns := [], harness := (true, "616abab068f1c0ab28f8450573f1c78ee16a343a216e2ebc0b5bbb6c5b64cb39"), looks := true }, kinds := [], alts := [], laidByText := true, laidKinds := [.data, .data, .data, .sentinel, .sentinel], laidTests := true, laidLooks := .later }
def FrameSignsCardSaid : Prop := Claim7.holds Tryd.pinned (.plain (OpenSpec.ofChange frameSignsSpec)) frameSignsCard

/-- THE TIED CARD OF 'conclavelaw11.FrameBodies'. -/
def frameBodiesCard : Claim7 := { stood := { row := frameBodiesRow, standIns := [], harness := (true, "616abab068f1c0ab28f8450573f1c78ee16a343a216e2ebc0b5bbb6c5b64cb39"), looks := true }, kinds := [], alts := [], laidByText := true, laidKinds := [.data, .data, .data, .sentinel, .sentinel], laidTests := true, laidLooks := .later }
def FrameBodiesCardSaid : Prop := Claim7.holds Tryd.pinned (.plain (OpenSpec.ofChange frameBodiesSpec)) frameBodiesCard

/-- THE SECOND FORM's CARD OF 'conclavelaw11.FrameHides'. -/
def frameHidesUptoCard : Claim7 := { stood := { row := frameHidesUptoRow, standIns := [], harness := (true, "616abab068f1c0ab28f8450573f1c78ee16a343a216e2ebc0b5bbb6c5b64cb39"), looks := true }, kinds := [], alts := [], laidByText := true, laidKinds := [.data, .data, .data, .sentinel, .sentinel], laidTests := true, laidLooks := .later }
def FrameHidesUptoCardSaid : Prop := Claim7.holds Tryd.pinned (.plain (OpenSpec.upto frameHidesSpec)) frameHidesUptoCard

/-- THE SECOND FORM's CARD OF 'conclavelaw11.FrameReads'. -/
def frameReadsUptoCard : Claim7 := { stood := { row := frameReadsUptoRow, standIns := [], harness := (true, "616abab068f1c0ab28f8450573f1c78ee16a343a216e2ebc0b5bbb6c5b64cb39"), looks := true }, kinds := [], alts := [], laidByText := true, laidKinds := [.data, .data, .data, .sentinel, .sentinel], laidTests := true, laidLooks := .later }
def FrameReadsUptoCardSaid : Prop := Claim7.holds Tryd.pinned (.plain (OpenSpec.upto frameReadsSpec)) frameReadsUptoCard

/-- THE SECOND FORM's CARD OF 'conclavelaw11.FramePlain'. -/
def framePlainUptoCard : Claim7 := { stood := { row := framePlainUptoRow, standIns := [], harness := (true, "616abab068f1c0ab28f8450573f1c78ee16a343a216e2ebc0b5bbb6c5b64cb39"), looks := true }, kinds := [], alts := [], laidByText := true, laidKinds := [.data, .data, .data, .sentinel, .sentinel], laidTests := true, laidLooks := .later }
def FramePlainUptoCardSaid : Prop := Claim7.holds Tryd.pinned (.plain (OpenSpec.upto framePlainSpec)) framePlainUptoCard

/-- THE SECOND FORM's CARD OF 'conclavelaw11.FrameSigns'. -/
def frameSignsUptoCard : Claim7 := { stood := { row := frameSignsUptoRow, standIns := [], harness := (true, "616abab068f1c0ab28f8450573f1c78ee16a343a216e2ebc0b5bbb6c5b64cb39"), looks := true }, kinds := [], alts := [], laidByText := true, laidKinds := [.data, .data, .data, .sentinel, .sentinel], laidTests := true, laidLooks := .later }
def FrameSignsUptoCardSaid : Prop := Claim7.holds Tryd.pinned (.plain (OpenSpec.upto frameSignsSpec)) frameSignsUptoCard

/-- THE SECOND FORM's CARD OF 'conclavelaw11.FrameBodies'. -/
def frameBodiesUptoCard : Claim7 := { stood := { row := frameBodiesUptoRow, standIns := [], harness := (true, "616abab068f1c0ab28f8450573f1c78ee16a343a216e2ebc0b5bbb6c5b64cb39"), looks := true }, kinds := [], alts := [], laidByText := true, laidKinds := [.data, .data, .data, .sentinel, .sentinel], laidTests := true, laidLooks := .later }
def FrameBodiesUptoCardSaid : Prop := Claim7.holds Tryd.pinned (.plain (OpenSpec.upto frameBodiesSpec)) frameBodiesUptoCard
end Rows
end Go.Proofs.YtaifjojfmkcmjaaDoor
