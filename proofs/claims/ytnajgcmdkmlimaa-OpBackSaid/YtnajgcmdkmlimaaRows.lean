/-
  No cell of these rows narrows 'for every input' (looked for: loops, veiled, ifaces, maps, wideKeys, modest, calm, conditions, laid).
  DERIVED. THE GIVEN ROWS OF THIS SEAT. 9 by the template 'for every input the law returns true; each argument reads behind the call as it read before'; 0 by the template 'total and deterministic' (their statements: YtnajgcmdkmlimaaTotals.lean).
  GIVEN WITH THE SEED: the statements are not yours to turn. If you find one false, say at which input.
  Laid BY PROGRAM, IN A SANDBOX (cutbox-rows.mjs): the forced cells as the released guide's own fill.sh prints them over the translation 81f84e8b2008e700… (all of the seat's roots in one cut). By AI agents, Wed Nov 11 2026. No macro, syntax, notation, axiom, sorry.
-/
import Derived.Test.YtnajgcmdkmlimaaChecked
import GoSem.Claim
import GoSem.ClaimJoined
import GoSem.ClaimMapViews
import Derived.JoinedTies
import Derived.KernelRfl
namespace Go.Proofs.Ytnajgcmdkmlimaa
/- THE CELL 'sum', in the pinned program and in every row, IS THE sha256 OF THE DUMP (.gsa) THAT YtnajgcmdkmlimaaProg.lean LOADS. Nothing in Lean hashes anything: it is a label: what it is worth is what the hold of that sum in a sandbox is worth. -/
noncomputable def Try.pinned : Pinned := { name := "ytnajgcmdkmlimaa", sum := "81f84e8b2008e700e85f10de6f7c464a3481b7ee961e08de39c38eba249eb3db", checked := Try.checked }
namespace Rows
def none {H : Type} : Left H := { results := [], args := [] }

/-- 'tribunallaw09.OpGood': WHATEVER THE INPUT: true; the input reads as it did. -/
def opGoodSpec : ChangeSpec := { name := "opGood", fn := fun _ => fun
  | [d1, d2, d3] => { results := [.lit (.bool true)], args := [d1, d2, d3] }
  | _ => none }
def opGoodRow : OpenClaim := { program := "ytnajgcmdkmlimaa", sum := "81f84e8b2008e700e85f10de6f7c464a3481b7ee961e08de39c38eba249eb3db", func := "tribunal/tribunallaw09.OpGood", spec := "opGood", inPlace := ["internal/bytealg.Compare"], apart := false }
def OpGoodSaid : Prop := opGoodRow.holds Try.pinned (OpenSpec.ofChange opGoodSpec)

/-- ITS FALSE NEIGHBOUR: 'it returns false'. Refute it at one input. -/
def opGoodWrong : ChangeSpec := { name := "opGood", fn := fun _ => fun
  | [d1, d2, d3] => { results := [.lit (.bool false)], args := [d1, d2, d3] }
  | _ => none }
def OpGoodWrongFalsely : Prop := opGoodRow.holds Try.pinned (OpenSpec.ofChange opGoodWrong)

/-- 'tribunallaw15.EntryOne': WHATEVER THE INPUT: true; the input reads as it did. -/
def entryOneSpec : ChangeSpec := { name := "entryOne", fn := fun _ => fun
  | [d1, d2] => { results := [.lit (.bool true)], args := [d1, d2] }
  | _ => none }
def entryOneRow : OpenClaim := { program := "ytnajgcmdkmlimaa", sum := "81f84e8b2008e700e85f10de6f7c464a3481b7ee961e08de39c38eba249eb3db", func := "tribunal/tribunallaw15.EntryOne", spec := "entryOne", apart := false }
def EntryOneSaid : Prop := entryOneRow.holds Try.pinned (OpenSpec.ofChange entryOneSpec)

/-- ITS FALSE NEIGHBOUR: 'it returns false'. Refute it at one input. -/
def entryOneWrong : ChangeSpec := { name := "entryOne", fn := fun _ => fun
  | [d1, d2] => { results := [.lit (.bool false)], args := [d1, d2] }
  | _ => none }
def EntryOneWrongFalsely : Prop := entryOneRow.holds Try.pinned (OpenSpec.ofChange entryOneWrong)

/-- 'tribunallaw15.EntryWrites': WHATEVER THE INPUT: true; the input reads as it did. -/
def entryWritesSpec : ChangeSpec := { name := "entryWrites", fn := fun _ => fun
  | [d1, d2] => { results := [.lit (.bool true)], args := [d1, d2] }
  | _ => none }
def entryWritesRow : OpenClaim := { program := "ytnajgcmdkmlimaa", sum := "81f84e8b2008e700e85f10de6f7c464a3481b7ee961e08de39c38eba249eb3db", func := "tribunal/tribunallaw15.EntryWrites", spec := "entryWrites", apart := false }
def EntryWritesSaid : Prop := entryWritesRow.holds Try.pinned (OpenSpec.ofChange entryWritesSpec)

/-- ITS FALSE NEIGHBOUR: 'it returns false'. Refute it at one input. -/
def entryWritesWrong : ChangeSpec := { name := "entryWrites", fn := fun _ => fun
  | [d1, d2] => { results := [.lit (.bool false)], args := [d1, d2] }
  | _ => none }
def EntryWritesWrongFalsely : Prop := entryWritesRow.holds Try.pinned (OpenSpec.ofChange entryWritesWrong)

/-- 'tribunallaw09.OpDrafts': WHATEVER THE INPUT: true; the input reads as it did. -/
def opDraftsSpec : ChangeSpec := { name := "opDrafts", fn := fun _ => fun
  | [d1, d2] => { results := [.lit (.bool true)], args := [d1, d2] }
  | _ => none }
def opDraftsRow : OpenClaim := { program := "ytnajgcmdkmlimaa", sum := "81f84e8b2008e700e85f10de6f7c464a3481b7ee961e08de39c38eba249eb3db", func := "tribunal/tribunallaw09.OpDrafts", spec := "opDrafts", inPlace := ["internal/bytealg.Compare"], apart := false }
def OpDraftsSaid : Prop := opDraftsRow.holds Try.pinned (OpenSpec.ofChange opDraftsSpec)

/-- ITS FALSE NEIGHBOUR: 'it returns false'. Refute it at one input. -/
def opDraftsWrong : ChangeSpec := { name := "opDrafts", fn := fun _ => fun
  | [d1, d2] => { results := [.lit (.bool false)], args := [d1, d2] }
  | _ => none }
def OpDraftsWrongFalsely : Prop := opDraftsRow.holds Try.pinned (OpenSpec.ofChange opDraftsWrong)

/-- 'tribunallaw15.EntryLimits': WHATEVER THE INPUT: true; the input reads as it did. -/
def entryLimitsSpec : ChangeSpec := { name := "entryLimits", fn := fun _ => fun
  | [d1, d2, d3] => { results := [.lit (.bool true)], args := [d1, d2, d3] }
  | _ => none }
def entryLimitsRow : OpenClaim := { program := "ytnajgcmdkmlimaa", sum := "81f84e8b2008e700e85f10de6f7c464a3481b7ee961e08de39c38eba249eb3db", func := "tribunal/tribunallaw15.EntryLimits", spec := "entryLimits", apart := false }
def EntryLimitsSaid : Prop := entryLimitsRow.holds Try.pinned (OpenSpec.ofChange entryLimitsSpec)

/-- ITS FALSE NEIGHBOUR: 'it returns false'. Refute it at one input. -/
def entryLimitsWrong : ChangeSpec := { name := "entryLimits", fn := fun _ => fun
  | [d1, d2, d3] => { results := [.lit (.bool false)], args := [d1, d2, d3] }
  | _ => none }
def EntryLimitsWrongFalsely : Prop := entryLimitsRow.holds Try.pinned (OpenSpec.ofChange entryLimitsWrong)

/-- 'tribunallaw09.OpReads': WHATEVER THE INPUT: true; the input reads as it did. -/
def opReadsSpec : ChangeSpec := { name := "opReads", fn := fun _ => fun
  | [d] => { results := [.lit (.bool true)], args := [d] }
  | _ => none }
def opReadsRow : OpenClaim := { program := "ytnajgcmdkmlimaa", sum := "81f84e8b2008e700e85f10de6f7c464a3481b7ee961e08de39c38eba249eb3db", func := "tribunal/tribunallaw09.OpReads", spec := "opReads", inPlace := ["internal/bytealg.Compare"], apart := false }
def OpReadsSaid : Prop := opReadsRow.holds Try.pinned (OpenSpec.ofChange opReadsSpec)

/-- ITS FALSE NEIGHBOUR: 'it returns false'. Refute it at one input. -/
def opReadsWrong : ChangeSpec := { name := "opReads", fn := fun _ => fun
  | [d] => { results := [.lit (.bool false)], args := [d] }
  | _ => none }
def OpReadsWrongFalsely : Prop := opReadsRow.holds Try.pinned (OpenSpec.ofChange opReadsWrong)

/-- 'tribunallaw09.OpBack': WHATEVER THE INPUT: true; the input reads as it did. -/
def opBackSpec : ChangeSpec := { name := "opBack", fn := fun _ => fun
  | [d] => { results := [.lit (.bool true)], args := [d] }
  | _ => none }
def opBackRow : OpenClaim := { program := "ytnajgcmdkmlimaa", sum := "81f84e8b2008e700e85f10de6f7c464a3481b7ee961e08de39c38eba249eb3db", func := "tribunal/tribunallaw09.OpBack", spec := "opBack", inPlace := ["internal/bytealg.Compare"], apart := false }
def OpBackSaid : Prop := opBackRow.holds Try.pinned (OpenSpec.ofChange opBackSpec)

/-- ITS FALSE NEIGHBOUR: 'it returns false'. Refute it at one input. -/
def opBackWrong : ChangeSpec := { name := "opBack", fn := fun _ => fun
  | [d] => { results := [.lit (.bool false)], args := [d] }
  | _ => none }
def OpBackWrongFalsely : Prop := opBackRow.holds Try.pinned (OpenSpec.ofChange opBackWrong)

/-- 'tribunallaw15.EntryReads': WHATEVER THE INPUT: true; the input reads as it did. -/
def entryReadsSpec : ChangeSpec := { name := "entryReads", fn := fun _ => fun
  | [d] => { results := [.lit (.bool true)], args := [d] }
  | _ => none }
def entryReadsRow : OpenClaim := { program := "ytnajgcmdkmlimaa", sum := "81f84e8b2008e700e85f10de6f7c464a3481b7ee961e08de39c38eba249eb3db", func := "tribunal/tribunallaw15.EntryReads", spec := "entryReads", apart := false }
def EntryReadsSaid : Prop := entryReadsRow.holds Try.pinned (OpenSpec.ofChange entryReadsSpec)

/-- ITS FALSE NEIGHBOUR: 'it returns false'. Refute it at one input. -/
def entryReadsWrong : ChangeSpec := { name := "entryReads", fn := fun _ => fun
  | [d] => { results := [.lit (.bool false)], args := [d] }
  | _ => none }
def EntryReadsWrongFalsely : Prop := entryReadsRow.holds Try.pinned (OpenSpec.ofChange entryReadsWrong)

/-- 'tribunallaw15.EntryBack': WHATEVER THE INPUT: true; the input reads as it did. -/
def entryBackSpec : ChangeSpec := { name := "entryBack", fn := fun _ => fun
  | [d] => { results := [.lit (.bool true)], args := [d] }
  | _ => none }
def entryBackRow : OpenClaim := { program := "ytnajgcmdkmlimaa", sum := "81f84e8b2008e700e85f10de6f7c464a3481b7ee961e08de39c38eba249eb3db", func := "tribunal/tribunallaw15.EntryBack", spec := "entryBack", apart := false }
def EntryBackSaid : Prop := entryBackRow.holds Try.pinned (OpenSpec.ofChange entryBackSpec)

/-- ITS FALSE NEIGHBOUR: 'it returns false'. Refute it at one input. -/
def entryBackWrong : ChangeSpec := { name := "entryBack", fn := fun _ => fun
  | [d] => { results := [.lit (.bool false)], args := [d] }
  | _ => none }
def EntryBackWrongFalsely : Prop := entryBackRow.holds Try.pinned (OpenSpec.ofChange entryBackWrong)

/- THE SECOND FORM. 'bulk': how many values and letters a reading holds, each counted each time it is reached (what is shared counts as often as it is met; a slice's spare places count too). A statement '..UptoSaid' is the law's where the arguments, and the package variables that the reading takes, are together of bulk at most 1048576: NARROWER than '..Said'. Prove '..Said' where nothing that the law and all that it calls make is longer than what came in: it says more and counts as full. Else prove '..UptoSaid'. A law counts once. -/
mutual
def uptoBulk {H : Type} : DataW H → Nat
  | .lit (.string bytes) => bytes.length + 1
  | .lit _ => 1
  | .nil => 1
  | .ptr d => uptoBulk d + 1
  | .slice elems spare => uptoBulkAll elems + uptoBulkAll spare + 1
  | .agg parts => uptoBulkAll parts + 1
  | .iface _ d => uptoBulk d + 1
  | .map entries => uptoBulkEntries entries + 1
  | .held _ => 1
def uptoBulkAll {H : Type} : List (DataW H) → Nat
  | [] => 0
  | d :: r => uptoBulk d + uptoBulkAll r
def uptoBulkEntries {H : Type} : List (Lit × DataW H) → Nat
  | [] => 0
  | x :: r => uptoBulkEntry x + uptoBulkEntries r
def uptoBulkEntry {H : Type} : Lit × DataW H → Nat
  | (.string bytes, d) => bytes.length + uptoBulk d + 1
  | (_, d) => uptoBulk d + 1
 end
def uptoSmall : (H : Type) → List (DataW H) → Bool := fun _ ds => decide (uptoBulkAll ds ≤ 1048576)
def OpenSpec.upto (s : _root_.Go.ChangeSpec) : _root_.Go.OpenSpec := { _root_.Go.OpenSpec.ofChange s with cond := some uptoSmall }

/-- 'tribunallaw09.OpGood', WHERE WHAT IT READS IS OF BULK AT MOST 1048576: true; the input reads as it did. -/
def opGoodUptoRow : OpenClaim := { program := "ytnajgcmdkmlimaa", sum := "81f84e8b2008e700e85f10de6f7c464a3481b7ee961e08de39c38eba249eb3db", func := "tribunal/tribunallaw09.OpGood", spec := "opGood", inPlace := ["internal/bytealg.Compare"], apart := false, narrowed := true }
def OpGoodUptoSaid : Prop := opGoodUptoRow.holds Try.pinned (OpenSpec.upto opGoodSpec)

/-- 'tribunallaw15.EntryOne', WHERE WHAT IT READS IS OF BULK AT MOST 1048576: true; the input reads as it did. -/
def entryOneUptoRow : OpenClaim := { program := "ytnajgcmdkmlimaa", sum := "81f84e8b2008e700e85f10de6f7c464a3481b7ee961e08de39c38eba249eb3db", func := "tribunal/tribunallaw15.EntryOne", spec := "entryOne", apart := false, narrowed := true }
def EntryOneUptoSaid : Prop := entryOneUptoRow.holds Try.pinned (OpenSpec.upto entryOneSpec)

/-- 'tribunallaw15.EntryWrites', WHERE WHAT IT READS IS OF BULK AT MOST 1048576: true; the input reads as it did. -/
def entryWritesUptoRow : OpenClaim := { program := "ytnajgcmdkmlimaa", sum := "81f84e8b2008e700e85f10de6f7c464a3481b7ee961e08de39c38eba249eb3db", func := "tribunal/tribunallaw15.EntryWrites", spec := "entryWrites", apart := false, narrowed := true }
def EntryWritesUptoSaid : Prop := entryWritesUptoRow.holds Try.pinned (OpenSpec.upto entryWritesSpec)

/-- 'tribunallaw09.OpDrafts', WHERE WHAT IT READS IS OF BULK AT MOST 1048576: true; the input reads as it did. -/
def opDraftsUptoRow : OpenClaim := { program := "ytnajgcmdkmlimaa", sum := "81f84e8b2008e700e85f10de6f7c464a3481b7ee961e08de39c38eba249eb3db", func := "tribunal/tribunallaw09.OpDrafts", spec := "opDrafts", inPlace := ["internal/bytealg.Compare"], apart := false, narrowed := true }
def OpDraftsUptoSaid : Prop := opDraftsUptoRow.holds Try.pinned (OpenSpec.upto opDraftsSpec)

/-- 'tribunallaw15.EntryLimits', WHERE WHAT IT READS IS OF BULK AT MOST 1048576: true; the input reads as it did. -/
def entryLimitsUptoRow : OpenClaim := { program := "ytnajgcmdkmlimaa", sum := "81f84e8b2008e700e85f10de6f7c464a3481b7ee961e08de39c38eba249eb3db", func := "tribunal/tribunallaw15.EntryLimits", spec := "entryLimits", apart := false, narrowed := true }
def EntryLimitsUptoSaid : Prop := entryLimitsUptoRow.holds Try.pinned (OpenSpec.upto entryLimitsSpec)

/-- 'tribunallaw09.OpReads', WHERE WHAT IT READS IS OF BULK AT MOST 1048576: true; the input reads as it did. -/
def opReadsUptoRow : OpenClaim := { program := "ytnajgcmdkmlimaa", sum := "81f84e8b2008e700e85f10de6f7c464a3481b7ee961e08de39c38eba249eb3db", func := "tribunal/tribunallaw09.OpReads", spec := "opReads", inPlace := ["internal/bytealg.Compare"], apart := false, narrowed := true }
def OpReadsUptoSaid : Prop := opReadsUptoRow.holds Try.pinned (OpenSpec.upto opReadsSpec)

/-- 'tribunallaw09.OpBack', WHERE WHAT IT READS IS OF BULK AT MOST 1048576: true; the input reads as it did. -/
def opBackUptoRow : OpenClaim := { program := "ytnajgcmdkmlimaa", sum := "81f84e8b2008e700e85f10de6f7c464a3481b7ee961e08de39c38eba249eb3db", func := "tribunal/tribunallaw09.OpBack", spec := "opBack", inPlace := ["internal/bytealg.Compare"], apart := false, narrowed := true }
def OpBackUptoSaid : Prop := opBackUptoRow.holds Try.pinned (OpenSpec.upto opBackSpec)

/-- 'tribunallaw15.EntryReads', WHERE WHAT IT READS IS OF BULK AT MOST 1048576: true; the input reads as it did. -/
def entryReadsUptoRow : OpenClaim := { program := "ytnajgcmdkmlimaa", sum := "81f84e8b2008e700e85f10de6f7c464a3481b7ee961e08de39c38eba249eb3db", func := "tribunal/tribunallaw15.EntryReads", spec := "entryReads", apart := false, narrowed := true }
def EntryReadsUptoSaid : Prop := entryReadsUptoRow.holds Try.pinned (OpenSpec.upto entryReadsSpec)

/-- 'tribunallaw15.EntryBack', WHERE WHAT IT READS IS OF BULK AT MOST 1048576: true; the input reads as it did. -/
def entryBackUptoRow : OpenClaim := { program := "ytnajgcmdkmlimaa", sum := "81f84e8b2008e700e85f10de6f7c464a3481b7ee961e08de39c38eba249eb3db", func := "tribunal/tribunallaw15.EntryBack", spec := "entryBack", apart := false, narrowed := true }
def EntryBackUptoSaid : Prop := entryBackUptoRow.holds Try.pinned (OpenSpec.upto entryBackSpec)

end Rows
end Go.Proofs.Ytnajgcmdkmlimaa
