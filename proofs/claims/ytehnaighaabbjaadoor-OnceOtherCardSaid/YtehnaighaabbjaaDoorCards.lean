/-
  DERIVED. GIVEN WITH THE SEED: THE CARDS: each row of YtehnaighaabbjaaDoorRows.lean that lists a variable, with what it lists TIED to the program's text (the seventh form; the later family's looks); each row that meets fmt, with fmt's text TOLD by the authors' own Lean function (tested against real Go, not proved from fmt's source: count such statements apart). THE CARD IS WHAT COUNTS. Prove the row's statement (the work); the ties are given (YtehnaighaabbjaaDoorTie.lean); close each card by the builder's one call (the guide's Derived/Test/ToyasCard.lean, 'card_holds'). Laid BY PROGRAM, IN A SANDBOX (cutbox-door.mjs). By AI agents, Wed Nov 11 2026. No macro, syntax, notation, axiom, sorry.
-/
import Derived.Test.YtehnaighaabbjaaDoorRows
import GoSem.ClaimSeven
namespace Go.Proofs.YtehnaighaabbjaaDoor
namespace Rows

/-- THE TIED CARD OF 'tribunallaw05.TreeHalves'. -/
def treeHalvesCard : Claim7 := { stood := { row := treeHalvesRow, standIns := [], harness := (true, "4cab8c8bbd76303de403dfa43eddf2b5b8eba1a66ec8518843af2a2215ade4b3"), looks := false }, kinds := [], alts := [], laidByText := true, laidKinds := [.data, .data], laidTests := true, laidLooks := .later }
def TreeHalvesCardSaid : Prop := Claim7.holds Tryd.pinned (.plain (OpenSpec.ofChange treeHalvesSpec)) treeHalvesCard

/-- THE TIED CARD OF 'tribunallaw04.OnceParts'. -/
def oncePartsCard : Claim7 := { stood := { row := oncePartsRow, standIns := [], harness := (true, "4cab8c8bbd76303de403dfa43eddf2b5b8eba1a66ec8518843af2a2215ade4b3"), looks := false }, kinds := [], alts := [], laidByText := true, laidKinds := [.data, .data], laidTests := true, laidLooks := .later }
def OncePartsCardSaid : Prop := Claim7.holds Tryd.pinned (.plain (OpenSpec.ofChange oncePartsSpec)) oncePartsCard

/-- THE TIED CARD OF 'tribunallaw05.TreeRoots'. -/
def treeRootsCard : Claim7 := { stood := { row := treeRootsRow, standIns := [], harness := (true, "4cab8c8bbd76303de403dfa43eddf2b5b8eba1a66ec8518843af2a2215ade4b3"), looks := false }, kinds := [], alts := [], laidByText := true, laidKinds := [.data, .data], laidTests := true, laidLooks := .later }
def TreeRootsCardSaid : Prop := Claim7.holds Tryd.pinned (.plain (OpenSpec.ofChange treeRootsSpec)) treeRootsCard

/-- THE TIED CARD OF 'tribunallaw05.TreeClimbs'. -/
def treeClimbsCard : Claim7 := { stood := { row := treeClimbsRow, standIns := [], harness := (true, "4cab8c8bbd76303de403dfa43eddf2b5b8eba1a66ec8518843af2a2215ade4b3"), looks := false }, kinds := [], alts := [], laidByText := true, laidKinds := [.data, .data], laidTests := true, laidLooks := .later }
def TreeClimbsCardSaid : Prop := Claim7.holds Tryd.pinned (.plain (OpenSpec.ofChange treeClimbsSpec)) treeClimbsCard

/-- THE TIED CARD OF 'tribunallaw05.TreeKeeps'. -/
def treeKeepsCard : Claim7 := { stood := { row := treeKeepsRow, standIns := [], harness := (true, "4cab8c8bbd76303de403dfa43eddf2b5b8eba1a66ec8518843af2a2215ade4b3"), looks := false }, kinds := [], alts := [], laidByText := true, laidKinds := [.data, .data], laidTests := true, laidLooks := .later }
def TreeKeepsCardSaid : Prop := Claim7.holds Tryd.pinned (.plain (OpenSpec.ofChange treeKeepsSpec)) treeKeepsCard

/-- THE TIED CARD OF 'tribunallaw04.OnceKeys'. -/
def onceKeysCard : Claim7 := { stood := { row := onceKeysRow, standIns := [], harness := (true, "4cab8c8bbd76303de403dfa43eddf2b5b8eba1a66ec8518843af2a2215ade4b3"), looks := false }, kinds := [], alts := [], laidByText := true, laidKinds := [.data, .data], laidTests := true, laidLooks := .later }
def OnceKeysCardSaid : Prop := Claim7.holds Tryd.pinned (.plain (OpenSpec.ofChange onceKeysSpec)) onceKeysCard

/-- THE TIED CARD OF 'tribunallaw04.OnceMeets'. -/
def onceMeetsCard : Claim7 := { stood := { row := onceMeetsRow, standIns := [], harness := (true, "4cab8c8bbd76303de403dfa43eddf2b5b8eba1a66ec8518843af2a2215ade4b3"), looks := false }, kinds := [], alts := [], laidByText := true, laidKinds := [.data, .data], laidTests := true, laidLooks := .later }
def OnceMeetsCardSaid : Prop := Claim7.holds Tryd.pinned (.plain (OpenSpec.ofChange onceMeetsSpec)) onceMeetsCard

/-- THE TIED CARD OF 'tribunallaw05.TreeBack'. -/
def treeBackCard : Claim7 := { stood := { row := treeBackRow, standIns := [], harness := (true, "4cab8c8bbd76303de403dfa43eddf2b5b8eba1a66ec8518843af2a2215ade4b3"), looks := false }, kinds := [], alts := [], laidByText := true, laidKinds := [.data, .data], laidTests := true, laidLooks := .later }
def TreeBackCardSaid : Prop := Claim7.holds Tryd.pinned (.plain (OpenSpec.ofChange treeBackSpec)) treeBackCard

/-- THE TIED CARD OF 'tribunallaw04.OnceSigns'. -/
def onceSignsCard : Claim7 := { stood := { row := onceSignsRow, standIns := [], harness := (true, "4cab8c8bbd76303de403dfa43eddf2b5b8eba1a66ec8518843af2a2215ade4b3"), looks := false }, kinds := [], alts := [], laidByText := true, laidKinds := [.data, .data], laidTests := true, laidLooks := .later }
def OnceSignsCardSaid : Prop := Claim7.holds Tryd.pinned (.plain (OpenSpec.ofChange onceSignsSpec)) onceSignsCard

/-- THE TIED CARD OF 'tribunallaw04.OnceOther'. -/
def onceOtherCard : Claim7 := { stood := { row := onceOtherRow, standIns := [], harness := (true, "4cab8c8bbd76303de403dfa43eddf2b5b8eba1a66ec8518843af2a2215ade4b3"), looks := false }, kinds := [], alts := [], laidByText := true, laidKinds := [.data, .data], laidTests := true, laidLooks := .later }
def OnceOtherCardSaid : Prop := Claim7.holds Tryd.pinned (.plain (OpenSpec.ofChange onceOtherSpec)) onceOtherCard

/-- THE SECOND FORM's CARD OF 'tribunallaw05.TreeHalves'. -/
def treeHalvesUptoCard : Claim7 := { stood := { row := treeHalvesUptoRow, standIns := [], harness := (true, "4cab8c8bbd76303de403dfa43eddf2b5b8eba1a66ec8518843af2a2215ade4b3"), looks := false }, kinds := [], alts := [], laidByText := true, laidKinds := [.data, .data], laidTests := true, laidLooks := .later }
def TreeHalvesUptoCardSaid : Prop := Claim7.holds Tryd.pinned (.plain (OpenSpec.upto treeHalvesSpec)) treeHalvesUptoCard

/-- THE SECOND FORM's CARD OF 'tribunallaw04.OnceParts'. -/
def oncePartsUptoCard : Claim7 := { stood := { row := oncePartsUptoRow, standIns := [], harness := (true, "4cab8c8bbd76303de403dfa43eddf2b5b8eba1a66ec8518843af2a2215ade4b3"), looks := false }, kinds := [], alts := [], laidByText := true, laidKinds := [.data, .data], laidTests := true, laidLooks := .later }
def OncePartsUptoCardSaid : Prop := Claim7.holds Tryd.pinned (.plain (OpenSpec.upto oncePartsSpec)) oncePartsUptoCard

/-- THE SECOND FORM's CARD OF 'tribunallaw05.TreeRoots'. -/
def treeRootsUptoCard : Claim7 := { stood := { row := treeRootsUptoRow, standIns := [], harness := (true, "4cab8c8bbd76303de403dfa43eddf2b5b8eba1a66ec8518843af2a2215ade4b3"), looks := false }, kinds := [], alts := [], laidByText := true, laidKinds := [.data, .data], laidTests := true, laidLooks := .later }
def TreeRootsUptoCardSaid : Prop := Claim7.holds Tryd.pinned (.plain (OpenSpec.upto treeRootsSpec)) treeRootsUptoCard

/-- THE SECOND FORM's CARD OF 'tribunallaw05.TreeClimbs'. -/
def treeClimbsUptoCard : Claim7 := { stood := { row := treeClimbsUptoRow, standIns := [], harness := (true, "4cab8c8bbd76303de403dfa43eddf2b5b8eba1a66ec8518843af2a2215ade4b3"), looks := false }, kinds := [], alts := [], laidByText := true, laidKinds := [.data, .data], laidTests := true, laidLooks := .later }
def TreeClimbsUptoCardSaid : Prop := Claim7.holds Tryd.pinned (.plain (OpenSpec.upto treeClimbsSpec)) treeClimbsUptoCard

/-- THE SECOND FORM's CARD OF 'tribunallaw05.TreeKeeps'. -/
def treeKeepsUptoCard : Claim7 := { stood := { row := treeKeepsUptoRow, standIns := [], harness := (true, "4cab8c8bbd76303de403dfa43eddf2b5b8eba1a66ec8518843af2a2215ade4b3"), looks := false }, kinds := [], alts := [], laidByText := true, laidKinds := [.data, .data], laidTests := true, laidLooks := .later }
def TreeKeepsUptoCardSaid : Prop := Claim7.holds Tryd.pinned (.plain (OpenSpec.upto treeKeepsSpec)) treeKeepsUptoCard

/-- THE SECOND FORM's CARD OF 'tribunallaw04.OnceKeys'. -/
def onceKeysUptoCard : Claim7 := { stood := { row := onceKeysUptoRow, standIns := [], harness := (true, "4cab8c8bbd76303de403dfa43eddf2b5b8eba1a66ec8518843af2a2215ade4b3"), looks := false }, kinds := [], alts := [], laidByText := true, laidKinds := [.data, .data], laidTests := true, laidLooks := .later }
def OnceKeysUptoCardSaid : Prop := Claim7.holds Tryd.pinned (.plain (OpenSpec.upto onceKeysSpec)) onceKeysUptoCard

/-- THE SECOND FORM's CARD OF 'tribunallaw04.OnceMeets'. -/
def onceMeetsUptoCard : Claim7 := { stood := { row := onceMeetsUptoRow, standIns := [], harness := (true, "4cab8c8bbd76303de403dfa43eddf2b5b8eba1a66ec8518843af2a2215ade4b3"), looks := false }, kinds := [], alts := [], laidByText := true, laidKinds := [.data, .data], laidTests := true, laidLooks := .later }
def OnceMeetsUptoCardSaid : Prop := Claim7.holds Tryd.pinned (.plain (OpenSpec.upto onceMeetsSpec)) onceMeetsUptoCard

/-- THE SECOND FORM's CARD OF 'tribunallaw05.TreeBack'. -/
def treeBackUptoCard : Claim7 := { stood := { row := treeBackUptoRow, standIns := [], harness := (true, "4cab8c8bbd76303de403dfa43eddf2b5b8eba1a66ec8518843af2a2215ade4b3"), looks := false }, kinds := [], alts := [], laidByText := true, laidKinds := [.data, .data], laidTests := true, laidLooks := .later }
def TreeBackUptoCardSaid : Prop := Claim7.holds Tryd.pinned (.plain (OpenSpec.upto treeBackSpec)) treeBackUptoCard

/-- THE SECOND FORM's CARD OF 'tribunallaw04.OnceSigns'. -/
def onceSignsUptoCard : Claim7 := { stood := { row := onceSignsUptoRow, standIns := [], harness := (true, "4cab8c8bbd76303de403dfa43eddf2b5b8eba1a66ec8518843af2a2215ade4b3"), looks := false }, kinds := [], alts := [], laidByText := true, laidKinds := [.data, .data], laidTests := true, laidLooks := .later }
def OnceSignsUptoCardSaid : Prop := Claim7.holds Tryd.pinned (.plain (OpenSpec.upto onceSignsSpec)) onceSignsUptoCard

/-- THE SECOND FORM's CARD OF 'tribunallaw04.OnceOther'. -/
def onceOtherUptoCard : Claim7 := { stood := { row := onceOtherUptoRow, standIns := [], harness := (true, "4cab8c8bbd76303de403dfa43eddf2b5b8eba1a66ec8518843af2a2215ade4b3"), looks := false }, kinds := [], alts := [], laidByText := true, laidKinds := [.data, .data], laidTests := true, laidLooks := .later }
def OnceOtherUptoCardSaid : Prop := Claim7.holds Tryd.pinned (.plain (OpenSpec.upto onceOtherSpec)) onceOtherUptoCard
end Rows
end Go.Proofs.YtehnaighaabbjaaDoor
