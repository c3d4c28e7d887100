/-
  No cell of these rows narrows 'for every input' (looked for: loops, veiled, ifaces, maps, wideKeys, modest, calm, conditions, laid).
  DERIVED. THE GIVEN ROWS OF THIS SEAT. 4 by the template 'for every input the law returns true; each argument reads behind the call as it read before'; 0 by the template 'total and deterministic' (their statements: YtljfmgfokifooaaTotals.lean).
  GIVEN WITH THE SEED: the statements are not yours to turn. If you find one false, say at which input.
  Laid BY PROGRAM, IN A SANDBOX (cutbox-rows.mjs): the forced cells as the released guide's own fill.sh prints them over the translation 68a7b8dde5d71d40… (all of the seat's roots in one cut). By AI agents, Wed Nov 11 2026. No macro, syntax, notation, axiom, sorry.
-/
import Derived.Test.YtljfmgfokifooaaChecked
import GoSem.Claim
import GoSem.ClaimJoined
import GoSem.ClaimMapViews
import Derived.JoinedTies
import Derived.KernelRfl
namespace Go.Proofs.Ytljfmgfokifooaa
/- THE CELL 'sum', in the pinned program and in every row, IS THE sha256 OF THE DUMP (.gsa) THAT YtljfmgfokifooaaProg.lean LOADS. Nothing in Lean hashes anything: it is a label: what it is worth is what the hold of that sum in a sandbox is worth. -/
noncomputable def Try.pinned : Pinned := { name := "ytljfmgfokifooaa", sum := "68a7b8dde5d71d40b525d03fe7bd8e803d818ae6ebfd6be7e8cfe6f597eb4276", checked := Try.checked }
namespace Rows
def none {H : Type} : Left H := { results := [], args := [] }

/-- 'tribunallaw18.MailWrites': WHATEVER THE INPUT: true; the input reads as it did. -/
def mailWritesSpec : ChangeSpec := { name := "mailWrites", fn := fun _ => fun
  | [d] => { results := [.lit (.bool true)], args := [d] }
  | _ => none }
def mailWritesRow : OpenClaim := { program := "ytljfmgfokifooaa", sum := "68a7b8dde5d71d40b525d03fe7bd8e803d818ae6ebfd6be7e8cfe6f597eb4276", func := "tribunal/tribunallaw18.MailWrites", spec := "mailWrites", unfollowed := true, recurses := true, apart := false }
def MailWritesSaid : Prop := mailWritesRow.holds Try.pinned (OpenSpec.ofChange mailWritesSpec)

/-- ITS FALSE NEIGHBOUR: 'it returns false'. Refute it at one input. -/
def mailWritesWrong : ChangeSpec := { name := "mailWrites", fn := fun _ => fun
  | [d] => { results := [.lit (.bool false)], args := [d] }
  | _ => none }
def MailWritesWrongFalsely : Prop := mailWritesRow.holds Try.pinned (OpenSpec.ofChange mailWritesWrong)

/-- 'tribunallaw18.MailReads': WHATEVER THE INPUT: true; the input reads as it did. -/
def mailReadsSpec : ChangeSpec := { name := "mailReads", fn := fun _ => fun
  | [d] => { results := [.lit (.bool true)], args := [d] }
  | _ => none }
def mailReadsRow : OpenClaim := { program := "ytljfmgfokifooaa", sum := "68a7b8dde5d71d40b525d03fe7bd8e803d818ae6ebfd6be7e8cfe6f597eb4276", func := "tribunal/tribunallaw18.MailReads", spec := "mailReads", unfollowed := true, recurses := true, apart := false }
def MailReadsSaid : Prop := mailReadsRow.holds Try.pinned (OpenSpec.ofChange mailReadsSpec)

/-- ITS FALSE NEIGHBOUR: 'it returns false'. Refute it at one input. -/
def mailReadsWrong : ChangeSpec := { name := "mailReads", fn := fun _ => fun
  | [d] => { results := [.lit (.bool false)], args := [d] }
  | _ => none }
def MailReadsWrongFalsely : Prop := mailReadsRow.holds Try.pinned (OpenSpec.ofChange mailReadsWrong)

/-- 'tribunallaw18.MailBack': WHATEVER THE INPUT: true; the input reads as it did. -/
def mailBackSpec : ChangeSpec := { name := "mailBack", fn := fun _ => fun
  | [d1, d2] => { results := [.lit (.bool true)], args := [d1, d2] }
  | _ => none }
def mailBackRow : OpenClaim := { program := "ytljfmgfokifooaa", sum := "68a7b8dde5d71d40b525d03fe7bd8e803d818ae6ebfd6be7e8cfe6f597eb4276", func := "tribunal/tribunallaw18.MailBack", spec := "mailBack", unfollowed := true, recurses := true, apart := false }
def MailBackSaid : Prop := mailBackRow.holds Try.pinned (OpenSpec.ofChange mailBackSpec)

/-- ITS FALSE NEIGHBOUR: 'it returns false'. Refute it at one input. -/
def mailBackWrong : ChangeSpec := { name := "mailBack", fn := fun _ => fun
  | [d1, d2] => { results := [.lit (.bool false)], args := [d1, d2] }
  | _ => none }
def MailBackWrongFalsely : Prop := mailBackRow.holds Try.pinned (OpenSpec.ofChange mailBackWrong)

/-- 'tribunallaw18.MailMany': WHATEVER THE INPUT: true; the input reads as it did. -/
def mailManySpec : ChangeSpec := { name := "mailMany", fn := fun _ => fun
  | [d1, d2, d3] => { results := [.lit (.bool true)], args := [d1, d2, d3] }
  | _ => none }
def mailManyRow : OpenClaim := { program := "ytljfmgfokifooaa", sum := "68a7b8dde5d71d40b525d03fe7bd8e803d818ae6ebfd6be7e8cfe6f597eb4276", func := "tribunal/tribunallaw18.MailMany", spec := "mailMany", unfollowed := true, recurses := true, apart := false }
def MailManySaid : Prop := mailManyRow.holds Try.pinned (OpenSpec.ofChange mailManySpec)

/-- ITS FALSE NEIGHBOUR: 'it returns false'. Refute it at one input. -/
def mailManyWrong : ChangeSpec := { name := "mailMany", fn := fun _ => fun
  | [d1, d2, d3] => { results := [.lit (.bool false)], args := [d1, d2, d3] }
  | _ => none }
def MailManyWrongFalsely : Prop := mailManyRow.holds Try.pinned (OpenSpec.ofChange mailManyWrong)

/- THE SECOND FORM. 'bulk': how many values and letters a reading holds, each counted each time it is reached (what is shared counts as often as it is met; a slice's spare places count too). A statement '..UptoSaid' is the law's where the arguments, and the package variables that the reading takes, are together of bulk at most 1048576: NARROWER than '..Said'. Prove '..Said' where nothing that the law and all that it calls make is longer than what came in: it says more and counts as full. Else prove '..UptoSaid'. A law counts once. -/
mutual
def uptoBulk {H : Type} : DataW H → Nat
  | .lit (.string bytes) => bytes.length + 1
  | .lit _ => 1
  | .nil => 1
  | .ptr d => uptoBulk d + 1
  | .slice elems spare => uptoBulkAll elems + uptoBulkAll spare + 1
  | .agg parts => uptoBulkAll parts + 1
  | .iface _ d => uptoBulk d + 1
  | .map entries => uptoBulkEntries entries + 1
  | .held _ => 1
def uptoBulkAll {H : Type} : List (DataW H) → Nat
  | [] => 0
  | d :: r => uptoBulk d + uptoBulkAll r
def uptoBulkEntries {H : Type} : List (Lit × DataW H) → Nat
  | [] => 0
  | x :: r => uptoBulkEntry x + uptoBulkEntries r
def uptoBulkEntry {H : Type} : Lit × DataW H → Nat
  | (.string bytes, d) => bytes.length + uptoBulk d + 1
  | (_, d) => uptoBulk d + 1
 end
def uptoSmall : (H : Type) → List (DataW H) → Bool := fun _ ds => decide (uptoBulkAll ds ≤ 1048576)
def OpenSpec.upto (s : _root_.Go.ChangeSpec) : _root_.Go.OpenSpec := { _root_.Go.OpenSpec.ofChange s with cond := some uptoSmall }

/-- 'tribunallaw18.MailWrites', WHERE WHAT IT READS IS OF BULK AT MOST 1048576: true; the input reads as it did. -/
def mailWritesUptoRow : OpenClaim := { program := "ytljfmgfokifooaa", sum := "68a7b8dde5d71d40b525d03fe7bd8e803d818ae6ebfd6be7e8cfe6f597eb4276", func := "tribunal/tribunallaw18.MailWrites", spec := "mailWrites", unfollowed := true, recurses := true, apart := false, narrowed := true }
def MailWritesUptoSaid : Prop := mailWritesUptoRow.holds Try.pinned (OpenSpec.upto mailWritesSpec)

/-- 'tribunallaw18.MailReads', WHERE WHAT IT READS IS OF BULK AT MOST 1048576: true; the input reads as it did. -/
def mailReadsUptoRow : OpenClaim := { program := "ytljfmgfokifooaa", sum := "68a7b8dde5d71d40b525d03fe7bd8e803d818ae6ebfd6be7e8cfe6f597eb4276", func := "tribunal/tribunallaw18.MailReads", spec := "mailReads", unfollowed := true, recurses := true, apart := false, narrowed := true }
def MailReadsUptoSaid : Prop := mailReadsUptoRow.holds Try.pinned (OpenSpec.upto mailReadsSpec)

/-- 'tribunallaw18.MailBack', WHERE WHAT IT READS IS OF BULK AT MOST 1048576: true; the input reads as it did. -/
def mailBackUptoRow : OpenClaim := { program := "ytljfmgfokifooaa", sum := "68a7b8dde5d71d40b525d03fe7bd8e803d818ae6ebfd6be7e8cfe6f597eb4276", func := "tribunal/tribunallaw18.MailBack", spec := "mailBack", unfollowed := true, recurses := true, apart := false, narrowed := true }
def MailBackUptoSaid : Prop := mailBackUptoRow.holds Try.pinned (OpenSpec.upto mailBackSpec)

/-- 'tribunallaw18.MailMany', WHERE WHAT IT READS IS OF BULK AT MOST 1048576: true; the input reads as it did. -/
def mailManyUptoRow : OpenClaim := { program := "ytljfmgfokifooaa", sum := "68a7b8dde5d71d40b525d03fe7bd8e803d818ae6ebfd6be7e8cfe6f597eb4276", func := "tribunal/tribunallaw18.MailMany", spec := "mailMany", unfollowed := true, recurses := true, apart := false, narrowed := true }
def MailManyUptoSaid : Prop := mailManyUptoRow.holds Try.pinned (OpenSpec.upto mailManySpec)

end Rows
end Go.Proofs.Ytljfmgfokifooaa
