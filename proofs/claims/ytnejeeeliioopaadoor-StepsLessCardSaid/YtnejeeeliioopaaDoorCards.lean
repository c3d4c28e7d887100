/-
  DERIVED. GIVEN WITH THE SEED: THE CARDS: each row of YtnejeeeliioopaaDoorRows.lean that lists a variable, with what it lists TIED to the program's text (the seventh form; the later family's looks); each row that meets fmt, with fmt's text TOLD by the authors' own Lean function (tested against real Go, not proved from fmt's source: count such statements apart). THE CARD IS WHAT COUNTS. Prove the row's statement (the work); the ties are given (YtnejeeeliioopaaDoorTie.lean); close each card by the builder's one call (the guide's Derived/Test/ToyasCard.lean, 'card_holds'). Laid BY PROGRAM, IN A SANDBOX (cutbox-door.mjs). By AI agents, Wed Nov 11 2026. No macro, syntax, notation, axiom, sorry.
-/
import Derived.Test.YtnejeeeliioopaaDoorRows
import GoSem.ClaimSeven
namespace Go.Proofs.YtnejeeeliioopaaDoor
namespace Rows

/-- THE TIED CARD OF 'tribunallaw02.ShaIs'. -/
def shaIsCard : Claim7 := { stood := { row := shaIsRow, standIns := [], harness := (true, "7b6f8ba59590ea71ed5976e0e153d5698d275a1fa6580a3b10e57353f8367b7b"), looks := false }, kinds := [], alts := [], laidByText := true, laidKinds := [.data, .data], laidTests := true, laidLooks := .later }
def ShaIsCardSaid : Prop := Claim7.holds Tryd.pinned (.plain (OpenSpec.ofChange shaIsSpec)) shaIsCard

/-- THE TIED CARD OF 'tribunallaw02.ShaEnds'. -/
def shaEndsCard : Claim7 := { stood := { row := shaEndsRow, standIns := [], harness := (true, "7b6f8ba59590ea71ed5976e0e153d5698d275a1fa6580a3b10e57353f8367b7b"), looks := false }, kinds := [], alts := [], laidByText := true, laidKinds := [.data, .data], laidTests := true, laidLooks := .later }
def ShaEndsCardSaid : Prop := Claim7.holds Tryd.pinned (.plain (OpenSpec.ofChange shaEndsSpec)) shaEndsCard

/-- THE TIED CARD OF 'tribunallaw02.ShaHex'. -/
def shaHexCard : Claim7 := { stood := { row := shaHexRow, standIns := [], harness := (true, "7b6f8ba59590ea71ed5976e0e153d5698d275a1fa6580a3b10e57353f8367b7b"), looks := false }, kinds := [], alts := [], laidByText := true, laidKinds := [.data, .data], laidTests := true, laidLooks := .later }
def ShaHexCardSaid : Prop := Claim7.holds Tryd.pinned (.plain (OpenSpec.ofChange shaHexSpec)) shaHexCard

/-- THE TIED CARD OF 'tribunallaw02.ShaParts'. -/
def shaPartsCard : Claim7 := { stood := { row := shaPartsRow, standIns := [], harness := (true, "7b6f8ba59590ea71ed5976e0e153d5698d275a1fa6580a3b10e57353f8367b7b"), looks := false }, kinds := [], alts := [], laidByText := true, laidKinds := [.data, .data], laidTests := true, laidLooks := .later }
def ShaPartsCardSaid : Prop := Claim7.holds Tryd.pinned (.plain (OpenSpec.ofChange shaPartsSpec)) shaPartsCard

/-- THE TIED CARD OF 'tribunallaw02.ShaPurposes'. -/
def shaPurposesCard : Claim7 := { stood := { row := shaPurposesRow, standIns := [], harness := (true, "7b6f8ba59590ea71ed5976e0e153d5698d275a1fa6580a3b10e57353f8367b7b"), looks := false }, kinds := [], alts := [], laidByText := true, laidKinds := [.data, .data], laidTests := true, laidLooks := .later }
def ShaPurposesCardSaid : Prop := Claim7.holds Tryd.pinned (.plain (OpenSpec.ofChange shaPurposesSpec)) shaPurposesCard

/-- THE TIED CARD OF 'tribunallaw02.ShaSums'. -/
def shaSumsCard : Claim7 := { stood := { row := shaSumsRow, standIns := [], harness := (true, "7b6f8ba59590ea71ed5976e0e153d5698d275a1fa6580a3b10e57353f8367b7b"), looks := false }, kinds := [], alts := [], laidByText := true, laidKinds := [.data, .data], laidTests := true, laidLooks := .later }
def ShaSumsCardSaid : Prop := Claim7.holds Tryd.pinned (.plain (OpenSpec.ofChange shaSumsSpec)) shaSumsCard

/-- THE TIED CARD OF 'tribunallaw03.StepsWalk'. -/
def stepsWalkCard : Claim7 := { stood := { row := stepsWalkRow, standIns := [], harness := (true, "7b6f8ba59590ea71ed5976e0e153d5698d275a1fa6580a3b10e57353f8367b7b"), looks := false }, kinds := [], alts := [], laidByText := true, laidKinds := [.data, .data], laidTests := true, laidLooks := .later }
def StepsWalkCardSaid : Prop := Claim7.holds Tryd.pinned (.plain (OpenSpec.ofChange stepsWalkSpec)) stepsWalkCard

/-- THE TIED CARD OF 'tribunallaw03.StepsDigits'. -/
def stepsDigitsCard : Claim7 := { stood := { row := stepsDigitsRow, standIns := [], harness := (true, "7b6f8ba59590ea71ed5976e0e153d5698d275a1fa6580a3b10e57353f8367b7b"), looks := false }, kinds := [], alts := [], laidByText := true, laidKinds := [.data, .data], laidTests := true, laidLooks := .later }
def StepsDigitsCardSaid : Prop := Claim7.holds Tryd.pinned (.plain (OpenSpec.ofChange stepsDigitsSpec)) stepsDigitsCard

/-- THE TIED CARD OF 'tribunallaw03.StepsJoin'. -/
def stepsJoinCard : Claim7 := { stood := { row := stepsJoinRow, standIns := [], harness := (true, "7b6f8ba59590ea71ed5976e0e153d5698d275a1fa6580a3b10e57353f8367b7b"), looks := false }, kinds := [], alts := [], laidByText := true, laidKinds := [.data, .data], laidTests := true, laidLooks := .later }
def StepsJoinCardSaid : Prop := Claim7.holds Tryd.pinned (.plain (OpenSpec.ofChange stepsJoinSpec)) stepsJoinCard

/-- THE TIED CARD OF 'tribunallaw03.StepsLess'. -/
def stepsLessCard : Claim7 := { stood := { row := stepsLessRow, standIns := [], harness := (true, "7b6f8ba59590ea71ed5976e0e153d5698d275a1fa6580a3b10e57353f8367b7b"), looks := false }, kinds := [], alts := [], laidByText := true, laidKinds := [.data, .data], laidTests := true, laidLooks := .later }
def StepsLessCardSaid : Prop := Claim7.holds Tryd.pinned (.plain (OpenSpec.ofChange stepsLessSpec)) stepsLessCard

/-- THE TIED CARD OF 'tribunallaw03.StepsPlaces'. -/
def stepsPlacesCard : Claim7 := { stood := { row := stepsPlacesRow, standIns := [], harness := (true, "7b6f8ba59590ea71ed5976e0e153d5698d275a1fa6580a3b10e57353f8367b7b"), looks := false }, kinds := [], alts := [], laidByText := true, laidKinds := [.data, .data], laidTests := true, laidLooks := .later }
def StepsPlacesCardSaid : Prop := Claim7.holds Tryd.pinned (.plain (OpenSpec.ofChange stepsPlacesSpec)) stepsPlacesCard

/-- THE SECOND FORM's CARD OF 'tribunallaw02.ShaIs'. -/
def shaIsUptoCard : Claim7 := { stood := { row := shaIsUptoRow, standIns := [], harness := (true, "7b6f8ba59590ea71ed5976e0e153d5698d275a1fa6580a3b10e57353f8367b7b"), looks := false }, kinds := [], alts := [], laidByText := true, laidKinds := [.data, .data], laidTests := true, laidLooks := .later }
def ShaIsUptoCardSaid : Prop := Claim7.holds Tryd.pinned (.plain (OpenSpec.upto shaIsSpec)) shaIsUptoCard

/-- THE SECOND FORM's CARD OF 'tribunallaw02.ShaEnds'. -/
def shaEndsUptoCard : Claim7 := { stood := { row := shaEndsUptoRow, standIns := [], harness := (true, "7b6f8ba59590ea71ed5976e0e153d5698d275a1fa6580a3b10e57353f8367b7b"), looks := false }, kinds := [], alts := [], laidByText := true, laidKinds := [.data, .data], laidTests := true, laidLooks := .later }
def ShaEndsUptoCardSaid : Prop := Claim7.holds Tryd.pinned (.plain (OpenSpec.upto shaEndsSpec)) shaEndsUptoCard

/-- THE SECOND FORM's CARD OF 'tribunallaw02.ShaHex'. -/
def shaHexUptoCard : Claim7 := { stood := { row := shaHexUptoRow, standIns := [], harness := (true, "7b6f8ba59590ea71ed5976e0e153d5698d275a1fa6580a3b10e57353f8367b7b"), looks := false }, kinds := [], alts := [], laidByText := true, laidKinds := [.data, .data], laidTests := true, laidLooks := .later }
def ShaHexUptoCardSaid : Prop := Claim7.holds Tryd.pinned (.plain (OpenSpec.upto shaHexSpec)) shaHexUptoCard

/-- THE SECOND FORM's CARD OF 'tribunallaw02.ShaParts'. -/
def shaPartsUptoCard : Claim7 := { stood := { row := shaPartsUptoRow, standIns := [], harness := (true, "7b6f8ba59590ea71ed5976e0e153d5698d275a1fa6580a3b10e57353f8367b7b"), looks := false }, kinds := [], alts := [], laidByText := true, laidKinds := [.data, .data], laidTests := true, laidLooks := .later }
def ShaPartsUptoCardSaid : Prop := Claim7.holds Tryd.pinned (.plain (OpenSpec.upto shaPartsSpec)) shaPartsUptoCard

/-- THE SECOND FORM's CARD OF 'tribunallaw02.ShaPurposes'. -/
def shaPurposesUptoCard : Claim7 := { stood := { row := shaPurposesUptoRow, standIns := [], harness := (true, "7b6f8ba59590ea71ed5976e0e153d5698d275a1fa6580a3b10e57353f8367b7b"), looks := false }, kinds := [], alts := [], laidByText := true, laidKinds := [.data, .data], laidTests := true, laidLooks := .later }
def ShaPurposesUptoCardSaid : Prop := Claim7.holds Tryd.pinned (.plain (OpenSpec.upto shaPurposesSpec)) shaPurposesUptoCard

/-- THE SECOND FORM's CARD OF 'tribunallaw02.ShaSums'. -/
def shaSumsUptoCard : Claim7 := { stood := { row := shaSumsUptoRow, standIns := [], harness := (true, "7b6f8ba59590ea71ed5976e0e153d5698d275a1fa6580a3b10e57353f8367b7b"), looks := false }, kinds := [], alts := [], laidByText := true, laidKinds := [.data, .data], laidTests := true, laidLooks := .later }
def ShaSumsUptoCardSaid : Prop := Claim7.holds Tryd.pinned (.plain (OpenSpec.upto shaSumsSpec)) shaSumsUptoCard

/-- THE SECOND FORM's CARD OF 'tribunallaw03.StepsWalk'. -/
def stepsWalkUptoCard : Claim7 := { stood := { row := stepsWalkUptoRow, standIns := [], harness := (true, "7b6f8ba59590ea71ed5976e0e153d5698d275a1fa6580a3b10e57353f8367b7b"), looks := false }, kinds := [], alts := [], laidByText := true, laidKinds := [.data, .data], laidTests := true, laidLooks := .later }
def StepsWalkUptoCardSaid : Prop := Claim7.holds Tryd.pinned (.plain (OpenSpec.upto stepsWalkSpec)) stepsWalkUptoCard

/-- THE SECOND FORM's CARD OF 'tribunallaw03.StepsDigits'. -/
def stepsDigitsUptoCard : Claim7 := { stood := { row := stepsDigitsUptoRow, standIns := [], harness := (true, "7b6f8ba59590ea71ed5976e0e153d5698d275a1fa6580a3b10e57353f8367b7b"), looks := false }, kinds := [], alts := [], laidByText := true, laidKinds := [.data, .data], laidTests := true, laidLooks := .later }
def StepsDigitsUptoCardSaid : Prop := Claim7.holds Tryd.pinned (.plain (OpenSpec.upto stepsDigitsSpec)) stepsDigitsUptoCard

/-- THE SECOND FORM's CARD OF 'tribunallaw03.StepsJoin'. -/
def stepsJoinUptoCard : Claim7 := { stood := { row := stepsJoinUptoRow, standIns := [], harness := (true, "7b6f8ba59590ea71ed5976e0e153d5698d275a1fa6580a3b10e57353f8367b7b"), looks := false }, kinds := [], alts := [], laidByText := true, laidKinds := [.data, .data], laidTests := true, laidLooks := .later }
def StepsJoinUptoCardSaid : Prop := Claim7.holds Tryd.pinned (.plain (OpenSpec.upto stepsJoinSpec)) stepsJoinUptoCard

/-- THE SECOND FORM's CARD OF 'tribunallaw03.StepsLess'. -/
def stepsLessUptoCard : Claim7 := { stood := { row := stepsLessUptoRow, standIns := [], harness := (true, "7b6f8ba59590ea71ed5976e0e153d5698d275a1fa6580a3b10e57353f8367b7b"), looks := false }, kinds := [], alts := [], laidByText := true, laidKinds := [.data, .data], laidTests := true, laidLooks := .later }
def StepsLessUptoCardSaid : Prop := Claim7.holds Tryd.pinned (.plain (OpenSpec.upto stepsLessSpec)) stepsLessUptoCard

/-- THE SECOND FORM's CARD OF 'tribunallaw03.StepsPlaces'. -/
def stepsPlacesUptoCard : Claim7 := { stood := { row := stepsPlacesUptoRow, standIns := [], harness := (true, "7b6f8ba59590ea71ed5976e0e153d5698d275a1fa6580a3b10e57353f8367b7b"), looks := false }, kinds := [], alts := [], laidByText := true, laidKinds := [.data, .data], laidTests := true, laidLooks := .later }
def StepsPlacesUptoCardSaid : Prop := Claim7.holds Tryd.pinned (.plain (OpenSpec.upto stepsPlacesSpec)) stepsPlacesUptoCard
end Rows
end Go.Proofs.YtnejeeeliioopaaDoor
