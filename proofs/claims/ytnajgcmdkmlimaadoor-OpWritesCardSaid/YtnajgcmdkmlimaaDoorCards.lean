/-
  DERIVED. GIVEN WITH THE SEED: THE CARDS: each row of YtnajgcmdkmlimaaDoorRows.lean that lists a variable, with what it lists TIED to the program's text (the seventh form; the later family's looks); each row that meets fmt, with fmt's text TOLD by the authors' own Lean function (tested against real Go, not proved from fmt's source: count such statements apart). THE CARD IS WHAT COUNTS. Prove the row's statement (the work); the ties are given (YtnajgcmdkmlimaaDoorTie.lean); close each card by the builder's one call (the guide's Derived/Test/ToyasCard.lean, 'card_holds'). Laid BY PROGRAM, IN A SANDBOX (cutbox-door.mjs). By AI agents, Wed Nov 11 2026. No macro, syntax, notation, axiom, sorry.
-/
import Derived.Test.YtnajgcmdkmlimaaDoorRows
import GoSem.ClaimSeven
namespace Go.Proofs.YtnajgcmdkmlimaaDoor
namespace Rows

/-- THE TIED CARD OF 'tribunallaw09.OpOne'. -/
def opOneCard : Claim7 := { stood := { row := opOneRow, standIns := [], harness := (true, "9cc750872f2395b618a99e14947a14f64685fb3f5cdf69c379fe2a61b65035f3"), looks := false }, kinds := [], alts := [], laidByText := true, laidKinds := [.data, .data], laidTests := true, laidLooks := .later }
def OpOneCardSaid : Prop := Claim7.holds Tryd.pinned (.plain (OpenSpec.ofChange opOneSpec)) opOneCard

/-- THE TIED CARD OF 'tribunallaw09.OpWrites'. -/
def opWritesCard : Claim7 := { stood := { row := opWritesRow, standIns := [], harness := (true, "9cc750872f2395b618a99e14947a14f64685fb3f5cdf69c379fe2a61b65035f3"), looks := false }, kinds := [], alts := [], laidByText := true, laidKinds := [.data, .data], laidTests := true, laidLooks := .later }
def OpWritesCardSaid : Prop := Claim7.holds Tryd.pinned (.plain (OpenSpec.ofChange opWritesSpec)) opWritesCard

/-- THE SECOND FORM's CARD OF 'tribunallaw09.OpOne'. -/
def opOneUptoCard : Claim7 := { stood := { row := opOneUptoRow, standIns := [], harness := (true, "9cc750872f2395b618a99e14947a14f64685fb3f5cdf69c379fe2a61b65035f3"), looks := false }, kinds := [], alts := [], laidByText := true, laidKinds := [.data, .data], laidTests := true, laidLooks := .later }
def OpOneUptoCardSaid : Prop := Claim7.holds Tryd.pinned (.plain (OpenSpec.upto opOneSpec)) opOneUptoCard

/-- THE SECOND FORM's CARD OF 'tribunallaw09.OpWrites'. -/
def opWritesUptoCard : Claim7 := { stood := { row := opWritesUptoRow, standIns := [], harness := (true, "9cc750872f2395b618a99e14947a14f64685fb3f5cdf69c379fe2a61b65035f3"), looks := false }, kinds := [], alts := [], laidByText := true, laidKinds := [.data, .data], laidTests := true, laidLooks := .later }
def OpWritesUptoCardSaid : Prop := Claim7.holds Tryd.pinned (.plain (OpenSpec.upto opWritesSpec)) opWritesUptoCard
end Rows
end Go.Proofs.YtnajgcmdkmlimaaDoor
