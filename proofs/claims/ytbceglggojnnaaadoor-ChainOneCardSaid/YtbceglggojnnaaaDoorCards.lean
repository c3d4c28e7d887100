/-
  DERIVED. GIVEN WITH THE SEED: THE CARDS: each row of YtbceglggojnnaaaDoorRows.lean that lists a variable, with what it lists TIED to the program's text (the seventh form; the later family's looks); each row that meets fmt, with fmt's text TOLD by the authors' own Lean function (tested against real Go, not proved from fmt's source: count such statements apart). THE CARD IS WHAT COUNTS. Prove the row's statement (the work); the ties are given (YtbceglggojnnaaaDoorTie.lean); close each card by the builder's one call (the guide's Derived/Test/ToyasCard.lean, 'card_holds'). Laid BY PROGRAM, IN A SANDBOX (cutbox-door.mjs). By AI agents, Wed Nov 11 2026. No macro, syntax, notation, axiom, sorry.
-/
import Derived.Test.YtbceglggojnnaaaDoorRows
import GoSem.ClaimSeven
namespace Go.Proofs.YtbceglggojnnaaaDoor
namespace Rows

/-- THE TIED CARD OF 'tribunallaw06.KeysAre'. -/
def keysAreCard : Claim7 := { stood := { row := keysAreRow, standIns := [], harness := (true, "4cea6f7b10fc966210618cd933fb6b55c4075b2e163c1e48f30641d02a6c87af"), looks := false }, kinds := [], alts := [], laidByText := true, laidKinds := [.data, .data], laidTests := true, laidLooks := .later }
def KeysAreCardSaid : Prop := Claim7.holds Tryd.pinned (.plain (OpenSpec.ofChange keysAreSpec)) keysAreCard

/-- THE TIED CARD OF 'tribunallaw06.KeysVerify'. -/
def keysVerifyCard : Claim7 := { stood := { row := keysVerifyRow, standIns := [], harness := (true, "4cea6f7b10fc966210618cd933fb6b55c4075b2e163c1e48f30641d02a6c87af"), looks := false }, kinds := [], alts := [], laidByText := true, laidKinds := [.data, .data], laidTests := true, laidLooks := .later }
def KeysVerifyCardSaid : Prop := Claim7.holds Tryd.pinned (.plain (OpenSpec.ofChange keysVerifySpec)) keysVerifyCard

/-- THE TIED CARD OF 'tribunallaw06.KeysSign'. -/
def keysSignCard : Claim7 := { stood := { row := keysSignRow, standIns := [], harness := (true, "4cea6f7b10fc966210618cd933fb6b55c4075b2e163c1e48f30641d02a6c87af"), looks := false }, kinds := [], alts := [], laidByText := true, laidKinds := [.data, .data], laidTests := true, laidLooks := .later }
def KeysSignCardSaid : Prop := Claim7.holds Tryd.pinned (.plain (OpenSpec.ofChange keysSignSpec)) keysSignCard

/-- THE TIED CARD OF 'tribunallaw06.KeysOther'. -/
def keysOtherCard : Claim7 := { stood := { row := keysOtherRow, standIns := [], harness := (true, "4cea6f7b10fc966210618cd933fb6b55c4075b2e163c1e48f30641d02a6c87af"), looks := false }, kinds := [], alts := [], laidByText := true, laidKinds := [.data, .data], laidTests := true, laidLooks := .later }
def KeysOtherCardSaid : Prop := Claim7.holds Tryd.pinned (.plain (OpenSpec.ofChange keysOtherSpec)) keysOtherCard

/-- THE TIED CARD OF 'tribunallaw06.KeysApart'. -/
def keysApartCard : Claim7 := { stood := { row := keysApartRow, standIns := [], harness := (true, "4cea6f7b10fc966210618cd933fb6b55c4075b2e163c1e48f30641d02a6c87af"), looks := false }, kinds := [], alts := [], laidByText := true, laidKinds := [.data, .data], laidTests := true, laidLooks := .later }
def KeysApartCardSaid : Prop := Claim7.holds Tryd.pinned (.plain (OpenSpec.ofChange keysApartSpec)) keysApartCard

/-- THE TIED CARD OF 'tribunallaw16.ChainOne'. -/
def chainOneCard : Claim7 := { stood := { row := chainOneRow, standIns := [], harness := (true, "4cea6f7b10fc966210618cd933fb6b55c4075b2e163c1e48f30641d02a6c87af"), looks := false }, kinds := [], alts := [], laidByText := true, laidKinds := [.data, .data], laidTests := true, laidLooks := .later }
def ChainOneCardSaid : Prop := Claim7.holds Tryd.pinned (.plain (OpenSpec.ofChange chainOneSpec)) chainOneCard

/-- THE TIED CARD OF 'tribunallaw16.ChainParts'. -/
def chainPartsCard : Claim7 := { stood := { row := chainPartsRow, standIns := [], harness := (true, "4cea6f7b10fc966210618cd933fb6b55c4075b2e163c1e48f30641d02a6c87af"), looks := false }, kinds := [], alts := [], laidByText := true, laidKinds := [.data, .data], laidTests := true, laidLooks := .later }
def ChainPartsCardSaid : Prop := Claim7.holds Tryd.pinned (.plain (OpenSpec.ofChange chainPartsSpec)) chainPartsCard

/-- THE TIED CARD OF 'tribunallaw16.ChainChecks'. -/
def chainChecksCard : Claim7 := { stood := { row := chainChecksRow, standIns := [], harness := (true, "4cea6f7b10fc966210618cd933fb6b55c4075b2e163c1e48f30641d02a6c87af"), looks := false }, kinds := [], alts := [], laidByText := true, laidKinds := [.data, .data], laidTests := true, laidLooks := .later }
def ChainChecksCardSaid : Prop := Claim7.holds Tryd.pinned (.plain (OpenSpec.ofChange chainChecksSpec)) chainChecksCard

/-- THE TIED CARD OF 'tribunallaw16.ChainWords'. -/
def chainWordsCard : Claim7 := { stood := { row := chainWordsRow, standIns := [], harness := (true, "4cea6f7b10fc966210618cd933fb6b55c4075b2e163c1e48f30641d02a6c87af"), looks := false }, kinds := [], alts := [], laidByText := true, laidKinds := [.data, .data], laidTests := true, laidLooks := .later }
def ChainWordsCardSaid : Prop := Claim7.holds Tryd.pinned (.plain (OpenSpec.ofChange chainWordsSpec)) chainWordsCard

/-- THE TIED CARD OF 'tribunallaw16.ChainLogs'. -/
def chainLogsCard : Claim7 := { stood := { row := chainLogsRow, standIns := [], harness := (true, "4cea6f7b10fc966210618cd933fb6b55c4075b2e163c1e48f30641d02a6c87af"), looks := false }, kinds := [], alts := [], laidByText := true, laidKinds := [.data, .data], laidTests := true, laidLooks := .later }
def ChainLogsCardSaid : Prop := Claim7.holds Tryd.pinned (.plain (OpenSpec.ofChange chainLogsSpec)) chainLogsCard

/-- THE TIED CARD OF 'tribunallaw16.ChainLinks'. -/
def chainLinksCard : Claim7 := { stood := { row := chainLinksRow, standIns := [], harness := (true, "4cea6f7b10fc966210618cd933fb6b55c4075b2e163c1e48f30641d02a6c87af"), looks := false }, kinds := [], alts := [], laidByText := true, laidKinds := [.data, .data], laidTests := true, laidLooks := .later }
def ChainLinksCardSaid : Prop := Claim7.holds Tryd.pinned (.plain (OpenSpec.ofChange chainLinksSpec)) chainLinksCard

/-- THE SECOND FORM's CARD OF 'tribunallaw06.KeysAre'. -/
def keysAreUptoCard : Claim7 := { stood := { row := keysAreUptoRow, standIns := [], harness := (true, "4cea6f7b10fc966210618cd933fb6b55c4075b2e163c1e48f30641d02a6c87af"), looks := false }, kinds := [], alts := [], laidByText := true, laidKinds := [.data, .data], laidTests := true, laidLooks := .later }
def KeysAreUptoCardSaid : Prop := Claim7.holds Tryd.pinned (.plain (OpenSpec.upto keysAreSpec)) keysAreUptoCard

/-- THE SECOND FORM's CARD OF 'tribunallaw06.KeysVerify'. -/
def keysVerifyUptoCard : Claim7 := { stood := { row := keysVerifyUptoRow, standIns := [], harness := (true, "4cea6f7b10fc966210618cd933fb6b55c4075b2e163c1e48f30641d02a6c87af"), looks := false }, kinds := [], alts := [], laidByText := true, laidKinds := [.data, .data], laidTests := true, laidLooks := .later }
def KeysVerifyUptoCardSaid : Prop := Claim7.holds Tryd.pinned (.plain (OpenSpec.upto keysVerifySpec)) keysVerifyUptoCard

/-- THE SECOND FORM's CARD OF 'tribunallaw06.KeysSign'. -/
def keysSignUptoCard : Claim7 := { stood := { row := keysSignUptoRow, standIns := [], harness := (true, "4cea6f7b10fc966210618cd933fb6b55c4075b2e163c1e48f30641d02a6c87af"), looks := false }, kinds := [], alts := [], laidByText := true, laidKinds := [.data, .data], laidTests := true, laidLooks := .later }
def KeysSignUptoCardSaid : Prop := Claim7.holds Tryd.pinned (.plain (OpenSpec.upto keysSignSpec)) keysSignUptoCard

/-- THE SECOND FORM's CARD OF 'tribunallaw06.KeysOther'. -/
def keysOtherUptoCard : Claim7 := { stood := { row := keysOtherUptoRow, standIns := [], harness := (true, "4cea6f7b10fc966210618cd933fb6b55c4075b2e163c1e48f30641d02a6c87af"), looks := false }, kinds := [], alts := [], laidByText := true, laidKinds := [.data, .data], laidTests := true, laidLooks := .later }
def KeysOtherUptoCardSaid : Prop := Claim7.holds Tryd.pinned (.plain (OpenSpec.upto keysOtherSpec)) keysOtherUptoCard

/-- THE SECOND FORM's CARD OF 'tribunallaw06.KeysApart'. -/
def keysApartUptoCard : Claim7 := { stood := { row := keysApartUptoRow, standIns := [], harness := (true, "4cea6f7b10fc966210618cd933fb6b55c4075b2e163c1e48f30641d02a6c87af"), looks := false }, kinds := [], alts := [], laidByText := true, laidKinds := [.data, .data], laidTests := true, laidLooks := .later }
def KeysApartUptoCardSaid : Prop := Claim7.holds Tryd.pinned (.plain (OpenSpec.upto keysApartSpec)) keysApartUptoCard

/-- THE SECOND FORM's CARD OF 'tribunallaw16.ChainOne'. -/
def chainOneUptoCard : Claim7 := { stood := { row := chainOneUptoRow, standIns := [], harness := (true, "4cea6f7b10fc966210618cd933fb6b55c4075b2e163c1e48f30641d02a6c87af"), looks := false }, kinds := [], alts := [], laidByText := true, laidKinds := [.data, .data], laidTests := true, laidLooks := .later }
def ChainOneUptoCardSaid : Prop := Claim7.holds Tryd.pinned (.plain (OpenSpec.upto chainOneSpec)) chainOneUptoCard

/-- THE SECOND FORM's CARD OF 'tribunallaw16.ChainParts'. -/
def chainPartsUptoCard : Claim7 := { stood := { row := chainPartsUptoRow, standIns := [], harness := (true, "4cea6f7b10fc966210618cd933fb6b55c4075b2e163c1e48f30641d02a6c87af"), looks := false }, kinds := [], alts := [], laidByText := true, laidKinds := [.data, .data], laidTests := true, laidLooks := .later }
def ChainPartsUptoCardSaid : Prop := Claim7.holds Tryd.pinned (.plain (OpenSpec.upto chainPartsSpec)) chainPartsUptoCard

/-- THE SECOND FORM's CARD OF 'tribunallaw16.ChainChecks'. -/
def chainChecksUptoCard : Claim7 := { stood := { row := chainChecksUptoRow, standIns := [], harness := (true, "4cea6f7b10fc966210618cd933fb6b55c4075b2e163c1e48f30641d02a6c87af"), looks := false }, kinds := [], alts := [], laidByText := true, laidKinds := [.data, .data], laidTests := true, laidLooks := .later }
def ChainChecksUptoCardSaid : Prop := Claim7.holds Tryd.pinned (.plain (OpenSpec.upto chainChecksSpec)) chainChecksUptoCard

/-- THE SECOND FORM's CARD OF 'tribunallaw16.ChainWords'. -/
def chainWordsUptoCard : Claim7 := { stood := { row := chainWordsUptoRow, standIns := [], harness := (true, "4cea6f7b10fc966210618cd933fb6b55c4075b2e163c1e48f30641d02a6c87af"), looks := false }, kinds := [], alts := [], laidByText := true, laidKinds := [.data, .data], laidTests := true, laidLooks := .later }
def ChainWordsUptoCardSaid : Prop := Claim7.holds Tryd.pinned (.plain (OpenSpec.upto chainWordsSpec)) chainWordsUptoCard

/-- THE SECOND FORM's CARD OF 'tribunallaw16.ChainLogs'. -/
def chainLogsUptoCard : Claim7 := { stood := { row := chainLogsUptoRow, standIns := [], harness := (true, "4cea6f7b10fc966210618cd933fb6b55c4075b2e163c1e48f30641d02a6c87af"), looks := false }, kinds := [], alts := [], laidByText := true, laidKinds := [.data, .data], laidTests := true, laidLooks := .later }
def ChainLogsUptoCardSaid : Prop := Claim7.holds Tryd.pinned (.plain (OpenSpec.upto chainLogsSpec)) chainLogsUptoCard

/-- THE SECOND FORM's CARD OF 'tribunallaw16.ChainLinks'. -/
def chainLinksUptoCard : Claim7 := { stood := { row := chainLinksUptoRow, standIns := [], harness := (true, "4cea6f7b10fc966210618cd933fb6b55c4075b2e163c1e48f30641d02a6c87af"), looks := false }, kinds := [], alts := [], laidByText := true, laidKinds := [.data, .data], laidTests := true, laidLooks := .later }
def ChainLinksUptoCardSaid : Prop := Claim7.holds Tryd.pinned (.plain (OpenSpec.upto chainLinksSpec)) chainLinksUptoCard
end Rows
end Go.Proofs.YtbceglggojnnaaaDoor
