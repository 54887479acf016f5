/-
  DERIVED. GIVEN WITH THE SEED: THE CARDS: each row of YtdpadejfbnbjiaaGreatDoorRows.lean that lists a variable, with what it lists TIED to the program's text (the seventh form; the later family's looks); each row that meets fmt, with fmt's text TOLD by the authors' own Lean function (tested against real Go, not proved from fmt's source: count such statements apart). THE CARD IS WHAT COUNTS. Prove the row's statement (the work); the ties are given (YtdpadejfbnbjiaaGreatDoorTie.lean); close each card by the builder's one call (the guide's Derived/Test/ToyasCard.lean, 'card_holds'). Laid BY PROGRAM, IN A SANDBOX (cutbox-door.mjs). By AI agents, Wed Nov 11 2026. No macro, syntax, notation, axiom, sorry.
-/
import Derived.Test.YtdpadejfbnbjiaaGreatDoorRows
import GoSem.ClaimSeven
namespace Go.Proofs.YtdpadejfbnbjiaaGreatDoor
namespace Rows

/-- THE TIED CARD OF 'restantelaw03.PeopleFollows'. -/
def peopleFollowsCard : Claim7 := { stood := { row := peopleFollowsRow, standIns := [], harness := (true, "5b12e78da8c926071e02cfaed0071cc418316bcd3597d125f879808cb641f3f2"), looks := true }, kinds := [], alts := [], laidByText := true, laidKinds := [.data, .data, .data, .sentinel, .sentinel], laidTests := true, laidLooks := .later }
def PeopleFollowsCardSaid : Prop := Claim7.holds Tryz.pinned (.plain (OpenSpec.ofChange peopleFollowsSpec)) peopleFollowsCard

/-- THE TIED CARD OF 'restantelaw03.PeopleEnds'. -/
def peopleEndsCard : Claim7 := { stood := { row := peopleEndsRow, standIns := [], harness := (true, "5b12e78da8c926071e02cfaed0071cc418316bcd3597d125f879808cb641f3f2"), looks := true }, kinds := [], alts := [], laidByText := true, laidKinds := [.data, .data, .data, .sentinel, .sentinel], laidTests := true, laidLooks := .later }
def PeopleEndsCardSaid : Prop := Claim7.holds Tryz.pinned (.plain (OpenSpec.ofChange peopleEndsSpec)) peopleEndsCard

/-- THE TIED CARD OF 'restantelaw03.PeopleKnown'. -/
def peopleKnownCard : Claim7 := { stood := { row := peopleKnownRow, standIns := [], harness := (true, "5b12e78da8c926071e02cfaed0071cc418316bcd3597d125f879808cb641f3f2"), looks := true }, kinds := [], alts := [], laidByText := true, laidKinds := [.data, .data, .data, .sentinel, .sentinel], laidTests := true, laidLooks := .later }
def PeopleKnownCardSaid : Prop := Claim7.holds Tryz.pinned (.plain (OpenSpec.ofChange peopleKnownSpec)) peopleKnownCard

/-- THE TIED CARD OF 'restantelaw03.PeopleLate'. -/
def peopleLateCard : Claim7 := { stood := { row := peopleLateRow, standIns := [], harness := (true, "5b12e78da8c926071e02cfaed0071cc418316bcd3597d125f879808cb641f3f2"), looks := true }, kinds := [], alts := [], laidByText := true, laidKinds := [.data, .data, .data, .sentinel, .sentinel], laidTests := true, laidLooks := .later }
def PeopleLateCardSaid : Prop := Claim7.holds Tryz.pinned (.plain (OpenSpec.ofChange peopleLateSpec)) peopleLateCard

/-- THE TIED CARD OF 'restantelaw03.PeopleRoutes'. -/
def peopleRoutesCard : Claim7 := { stood := { row := peopleRoutesRow, standIns := [], harness := (true, "5b12e78da8c926071e02cfaed0071cc418316bcd3597d125f879808cb641f3f2"), looks := true }, kinds := [], alts := [], laidByText := true, laidKinds := [.data, .data, .data, .sentinel, .sentinel], laidTests := true, laidLooks := .later }
def PeopleRoutesCardSaid : Prop := Claim7.holds Tryz.pinned (.plain (OpenSpec.ofChange peopleRoutesSpec)) peopleRoutesCard

/-- THE TIED CARD OF 'restantelaw03.PeopleDwells'. -/
def peopleDwellsCard : Claim7 := { stood := { row := peopleDwellsRow, standIns := [], harness := (true, "5b12e78da8c926071e02cfaed0071cc418316bcd3597d125f879808cb641f3f2"), looks := true }, kinds := [], alts := [], laidByText := true, laidKinds := [.data, .data, .data, .sentinel, .sentinel], laidTests := true, laidLooks := .later }
def PeopleDwellsCardSaid : Prop := Claim7.holds Tryz.pinned (.plain (OpenSpec.ofChange peopleDwellsSpec)) peopleDwellsCard

/-- THE TIED CARD OF 'restantelaw03.PeopleAgree'. -/
def peopleAgreeCard : Claim7 := { stood := { row := peopleAgreeRow, standIns := [], harness := (true, "5b12e78da8c926071e02cfaed0071cc418316bcd3597d125f879808cb641f3f2"), looks := true }, kinds := [], alts := [], laidByText := true, laidKinds := [.data, .data, .data, .sentinel, .sentinel], laidTests := true, laidLooks := .later }
def PeopleAgreeCardSaid : Prop := Claim7.holds Tryz.pinned (.plain (OpenSpec.ofChange peopleAgreeSpec)) peopleAgreeCard

/-- THE TIED CARD OF 'restantelaw03.PeopleLoops'. -/
def peopleLoopsCard : Claim7 := { stood := { row := peopleLoopsRow, standIns := [], harness := (true, "5b12e78da8c926071e02cfaed0071cc418316bcd3597d125f879808cb641f3f2"), looks := true }, kinds := [], alts := [], laidByText := true, laidKinds := [.data, .data, .data, .sentinel, .sentinel], laidTests := true, laidLooks := .later }
def PeopleLoopsCardSaid : Prop := Claim7.holds Tryz.pinned (.plain (OpenSpec.ofChange peopleLoopsSpec)) peopleLoopsCard

/-- THE TIED CARD OF 'restantelaw03.PeopleCircles'. -/
def peopleCirclesCard : Claim7 := { stood := { row := peopleCirclesRow, standIns := [], harness := (true, "5b12e78da8c926071e02cfaed0071cc418316bcd3597d125f879808cb641f3f2"), looks := true }, kinds := [], alts := [], laidByText := true, laidKinds := [.data, .data, .data, .sentinel, .sentinel], laidTests := true, laidLooks := .later }
def PeopleCirclesCardSaid : Prop := Claim7.holds Tryz.pinned (.plain (OpenSpec.ofChange peopleCirclesSpec)) peopleCirclesCard

/-- THE TIED CARD OF 'restantelaw03.PeopleNames'. -/
def peopleNamesCard : Claim7 := { stood := { row := peopleNamesRow, standIns := [], harness := (true, "5b12e78da8c926071e02cfaed0071cc418316bcd3597d125f879808cb641f3f2"), looks := true }, kinds := [], alts := [], laidByText := true, laidKinds := [.data, .data, .data, .sentinel, .sentinel], laidTests := true, laidLooks := .later }
def PeopleNamesCardSaid : Prop := Claim7.holds Tryz.pinned (.plain (OpenSpec.ofChange peopleNamesSpec)) peopleNamesCard

/-- THE TIED CARD OF 'restantelaw03.PeopleChanges'. -/
def peopleChangesCard : Claim7 := { stood := { row := peopleChangesRow, standIns := [], harness := (true, "5b12e78da8c926071e02cfaed0071cc418316bcd3597d125f879808cb641f3f2"), looks := true }, kinds := [], alts := [], laidByText := true, laidKinds := [.data, .data, .data, .sentinel, .sentinel], laidTests := true, laidLooks := .later }
def PeopleChangesCardSaid : Prop := Claim7.holds Tryz.pinned (.plain (OpenSpec.ofChange peopleChangesSpec)) peopleChangesCard

/-- THE TIED CARD OF 'restantelaw03.PeopleStays'. -/
def peopleStaysCard : Claim7 := { stood := { row := peopleStaysRow, standIns := [], harness := (true, "5b12e78da8c926071e02cfaed0071cc418316bcd3597d125f879808cb641f3f2"), looks := true }, kinds := [], alts := [], laidByText := true, laidKinds := [.data, .data, .data, .sentinel, .sentinel], laidTests := true, laidLooks := .later }
def PeopleStaysCardSaid : Prop := Claim7.holds Tryz.pinned (.plain (OpenSpec.ofChange peopleStaysSpec)) peopleStaysCard

/-- THE SECOND FORM's CARD OF 'restantelaw03.PeopleFollows'. -/
def peopleFollowsUptoCard : Claim7 := { stood := { row := peopleFollowsUptoRow, standIns := [], harness := (true, "5b12e78da8c926071e02cfaed0071cc418316bcd3597d125f879808cb641f3f2"), looks := true }, kinds := [], alts := [], laidByText := true, laidKinds := [.data, .data, .data, .sentinel, .sentinel], laidTests := true, laidLooks := .later }
def PeopleFollowsUptoCardSaid : Prop := Claim7.holds Tryz.pinned (.plain (OpenSpec.upto peopleFollowsSpec)) peopleFollowsUptoCard

/-- THE SECOND FORM's CARD OF 'restantelaw03.PeopleEnds'. -/
def peopleEndsUptoCard : Claim7 := { stood := { row := peopleEndsUptoRow, standIns := [], harness := (true, "5b12e78da8c926071e02cfaed0071cc418316bcd3597d125f879808cb641f3f2"), looks := true }, kinds := [], alts := [], laidByText := true, laidKinds := [.data, .data, .data, .sentinel, .sentinel], laidTests := true, laidLooks := .later }
def PeopleEndsUptoCardSaid : Prop := Claim7.holds Tryz.pinned (.plain (OpenSpec.upto peopleEndsSpec)) peopleEndsUptoCard

/-- THE SECOND FORM's CARD OF 'restantelaw03.PeopleKnown'. -/
def peopleKnownUptoCard : Claim7 := { stood := { row := peopleKnownUptoRow, standIns := [], harness := (true, "5b12e78da8c926071e02cfaed0071cc418316bcd3597d125f879808cb641f3f2"), looks := true }, kinds := [], alts := [], laidByText := true, laidKinds := [.data, .data, .data, .sentinel, .sentinel], laidTests := true, laidLooks := .later }
def PeopleKnownUptoCardSaid : Prop := Claim7.holds Tryz.pinned (.plain (OpenSpec.upto peopleKnownSpec)) peopleKnownUptoCard

/-- THE SECOND FORM's CARD OF 'restantelaw03.PeopleLate'. -/
def peopleLateUptoCard : Claim7 := { stood := { row := peopleLateUptoRow, standIns := [], harness := (true, "5b12e78da8c926071e02cfaed0071cc418316bcd3597d125f879808cb641f3f2"), looks := true }, kinds := [], alts := [], laidByText := true, laidKinds := [.data, .data, .data, .sentinel, .sentinel], laidTests := true, laidLooks := .later }
def PeopleLateUptoCardSaid : Prop := Claim7.holds Tryz.pinned (.plain (OpenSpec.upto peopleLateSpec)) peopleLateUptoCard

/-- THE SECOND FORM's CARD OF 'restantelaw03.PeopleRoutes'. -/
def peopleRoutesUptoCard : Claim7 := { stood := { row := peopleRoutesUptoRow, standIns := [], harness := (true, "5b12e78da8c926071e02cfaed0071cc418316bcd3597d125f879808cb641f3f2"), looks := true }, kinds := [], alts := [], laidByText := true, laidKinds := [.data, .data, .data, .sentinel, .sentinel], laidTests := true, laidLooks := .later }
def PeopleRoutesUptoCardSaid : Prop := Claim7.holds Tryz.pinned (.plain (OpenSpec.upto peopleRoutesSpec)) peopleRoutesUptoCard

/-- THE SECOND FORM's CARD OF 'restantelaw03.PeopleDwells'. -/
def peopleDwellsUptoCard : Claim7 := { stood := { row := peopleDwellsUptoRow, standIns := [], harness := (true, "5b12e78da8c926071e02cfaed0071cc418316bcd3597d125f879808cb641f3f2"), looks := true }, kinds := [], alts := [], laidByText := true, laidKinds := [.data, .data, .data, .sentinel, .sentinel], laidTests := true, laidLooks := .later }
def PeopleDwellsUptoCardSaid : Prop := Claim7.holds Tryz.pinned (.plain (OpenSpec.upto peopleDwellsSpec)) peopleDwellsUptoCard

/-- THE SECOND FORM's CARD OF 'restantelaw03.PeopleAgree'. -/
def peopleAgreeUptoCard : Claim7 := { stood := { row := peopleAgreeUptoRow, standIns := [], harness := (true, "5b12e78da8c926071e02cfaed0071cc418316bcd3597d125f879808cb641f3f2"), looks := true }, kinds := [], alts := [], laidByText := true, laidKinds := [.data, .data, .data, .sentinel, .sentinel], laidTests := true, laidLooks := .later }
def PeopleAgreeUptoCardSaid : Prop := Claim7.holds Tryz.pinned (.plain (OpenSpec.upto peopleAgreeSpec)) peopleAgreeUptoCard

/-- THE SECOND FORM's CARD OF 'restantelaw03.PeopleLoops'. -/
def peopleLoopsUptoCard : Claim7 := { stood := { row := peopleLoopsUptoRow, standIns := [], harness := (true, "5b12e78da8c926071e02cfaed0071cc418316bcd3597d125f879808cb641f3f2"), looks := true }, kinds := [], alts := [], laidByText := true, laidKinds := [.data, .data, .data, .sentinel, .sentinel], laidTests := true, laidLooks := .later }
def PeopleLoopsUptoCardSaid : Prop := Claim7.holds Tryz.pinned (.plain (OpenSpec.upto peopleLoopsSpec)) peopleLoopsUptoCard

/-- THE SECOND FORM's CARD OF 'restantelaw03.PeopleCircles'. -/
def peopleCirclesUptoCard : Claim7 := { stood := { row := peopleCirclesUptoRow, standIns := [], harness := (true, "5b12e78da8c926071e02cfaed0071cc418316bcd3597d125f879808cb641f3f2"), looks := true }, kinds := [], alts := [], laidByText := true, laidKinds := [.data, .data, .data, .sentinel, .sentinel], laidTests := true, laidLooks := .later }
def PeopleCirclesUptoCardSaid : Prop := Claim7.holds Tryz.pinned (.plain (OpenSpec.upto peopleCirclesSpec)) peopleCirclesUptoCard

/-- THE SECOND FORM's CARD OF 'restantelaw03.PeopleNames'. -/
def peopleNamesUptoCard : Claim7 := { stood := { row := peopleNamesUptoRow, standIns := [], harness := (true, "5b12e78da8c926071e02cfaed0071cc418316bcd3597d125f879808cb641f3f2"), looks := true }, kinds := [], alts := [], laidByText := true, laidKinds := [.data, .data, .data, .sentinel, .sentinel], laidTests := true, laidLooks := .later }
def PeopleNamesUptoCardSaid : Prop := Claim7.holds Tryz.pinned (.plain (OpenSpec.upto peopleNamesSpec)) peopleNamesUptoCard

/-- THE SECOND FORM's CARD OF 'restantelaw03.PeopleChanges'. -/
def peopleChangesUptoCard : Claim7 := { stood := { row := peopleChangesUptoRow, standIns := [], harness := (true, "5b12e78da8c926071e02cfaed0071cc418316bcd3597d125f879808cb641f3f2"), looks := true }, kinds := [], alts := [], laidByText := true, laidKinds := [.data, .data, .data, .sentinel, .sentinel], laidTests := true, laidLooks := .later }
def PeopleChangesUptoCardSaid : Prop := Claim7.holds Tryz.pinned (.plain (OpenSpec.upto peopleChangesSpec)) peopleChangesUptoCard

/-- THE SECOND FORM's CARD OF 'restantelaw03.PeopleStays'. -/
def peopleStaysUptoCard : Claim7 := { stood := { row := peopleStaysUptoRow, standIns := [], harness := (true, "5b12e78da8c926071e02cfaed0071cc418316bcd3597d125f879808cb641f3f2"), looks := true }, kinds := [], alts := [], laidByText := true, laidKinds := [.data, .data, .data, .sentinel, .sentinel], laidTests := true, laidLooks := .later }
def PeopleStaysUptoCardSaid : Prop := Claim7.holds Tryz.pinned (.plain (OpenSpec.upto peopleStaysSpec)) peopleStaysUptoCard
end Rows
end Go.Proofs.YtdpadejfbnbjiaaGreatDoor
