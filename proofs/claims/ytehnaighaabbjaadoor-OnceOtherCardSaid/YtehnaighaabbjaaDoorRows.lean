/-
  NARROWER THAN 'FOR EVERY INPUT', by the rows' own cells (each row's printed sentence says how): TreeHalves: laid · OnceParts: laid · TreeRoots: laid · TreeClimbs: laid · TreeKeeps: laid · OnceKeys: laid · OnceMeets: laid · TreeBack: laid · OnceSigns: laid · OnceOther: laid.
  DERIVED. THE GIVEN ROWS OF THIS SEAT. 10 by the template 'for every input the law returns true; each argument reads behind the call as it read before'; 0 by the template 'total and deterministic' (their statements: YtehnaighaabbjaaDoorTotals.lean).
  GIVEN WITH THE SEED: the statements are not yours to turn. If you find one false, say at which input.
  Laid BY PROGRAM, IN A SANDBOX (cutbox-rows.mjs): the forced cells as the released guide's own fill.sh prints them over the translation eed57a56444e23e8… (all of the seat's roots in one cut). By AI agents, Wed Nov 11 2026. No macro, syntax, notation, axiom, sorry.
-/
import Derived.Test.YtehnaighaabbjaaDoorChecked
import GoSem.Claim
import GoSem.ClaimJoined
import GoSem.ClaimMapViews
import Derived.JoinedTies
import Derived.KernelRfl
namespace Go.Proofs.YtehnaighaabbjaaDoor
/- THE CELL 'sum', in the pinned program and in every row, IS THE sha256 OF THE DUMP (.gsa) THAT YtehnaighaabbjaaDoorProg.lean LOADS. Nothing in Lean hashes anything: it is a label: what it is worth is what the hold of that sum in a sandbox is worth. -/
noncomputable def Tryd.pinned : Pinned := { name := "ytehnaighaabbjaadoor", sum := "eed57a56444e23e88cdae7196c27815261b204c56eb13f0fa7866934c1015549", checked := Tryd.checked }
namespace Rows
def none {H : Type} : Left H := { results := [], args := [] }

/- WHAT THE LISTED PACKAGE-LEVEL VARIABLES READ AS WHEN THE CALL BEGINS. Each datum BY PROGRAM (the guide's laid-datum.mjs) off the statement by which the dump's own 'gosem.cut.vars' lays the variable. In a bare row this is a premise. The card (YtehnaighaabbjaaDoorCards.lean) ties it to the program's text. -/
def laid_tribunal_sha_start {H : Type} : DataW H := .agg [.lit (.int .u32 1779033703), .lit (.int .u32 3144134277), .lit (.int .u32 1013904242), .lit (.int .u32 2773480762), .lit (.int .u32 1359893119), .lit (.int .u32 2600822924), .lit (.int .u32 528734635), .lit (.int .u32 1541459225)]
def laid_tribunal_sha_round {H : Type} : DataW H := .agg [.lit (.int .u32 1116352408), .lit (.int .u32 1899447441), .lit (.int .u32 3049323471), .lit (.int .u32 3921009573), .lit (.int .u32 961987163), .lit (.int .u32 1508970993), .lit (.int .u32 2453635748), .lit (.int .u32 2870763221), .lit (.int .u32 3624381080), .lit (.int .u32 310598401), .lit (.int .u32 607225278), .lit (.int .u32 1426881987), .lit (.int .u32 1925078388), .lit (.int .u32 2162078206), .lit (.int .u32 2614888103), .lit (.int .u32 3248222580), .lit (.int .u32 3835390401), .lit (.int .u32 4022224774), .lit (.int .u32 264347078), .lit (.int .u32 604807628), .lit (.int .u32 770255983), .lit (.int .u32 1249150122), .lit (.int .u32 1555081692), .lit (.int .u32 1996064986), .lit (.int .u32 2554220882), .lit (.int .u32 2821834349), .lit (.int .u32 2952996808), .lit (.int .u32 3210313671), .lit (.int .u32 3336571891), .lit (.int .u32 3584528711), .lit (.int .u32 113926993), .lit (.int .u32 338241895), .lit (.int .u32 666307205), .lit (.int .u32 773529912), .lit (.int .u32 1294757372), .lit (.int .u32 1396182291), .lit (.int .u32 1695183700), .lit (.int .u32 1986661051), .lit (.int .u32 2177026350), .lit (.int .u32 2456956037), .lit (.int .u32 2730485921), .lit (.int .u32 2820302411), .lit (.int .u32 3259730800), .lit (.int .u32 3345764771), .lit (.int .u32 3516065817), .lit (.int .u32 3600352804), .lit (.int .u32 4094571909), .lit (.int .u32 275423344), .lit (.int .u32 430227734), .lit (.int .u32 506948616), .lit (.int .u32 659060556), .lit (.int .u32 883997877), .lit (.int .u32 958139571), .lit (.int .u32 1322822218), .lit (.int .u32 1537002063), .lit (.int .u32 1747873779), .lit (.int .u32 1955562222), .lit (.int .u32 2024104815), .lit (.int .u32 2227730452), .lit (.int .u32 2361852424), .lit (.int .u32 2428436474), .lit (.int .u32 2756734187), .lit (.int .u32 3204031479), .lit (.int .u32 3329325298)]

/-- 'tribunallaw05.TreeHalves': WHATEVER THE INPUT: true; the input reads as it did. -/
def treeHalvesSpec : ChangeSpec := { name := "treeHalves", fn := fun _ => fun
  | [d1, d2, d3] => { results := [.lit (.bool true)], args := [d1, d2, d3] }
  | _ => none }
def treeHalvesRow : OpenClaim := { program := "ytehnaighaabbjaadoor", sum := "eed57a56444e23e88cdae7196c27815261b204c56eb13f0fa7866934c1015549", func := "tribunal/tribunallaw05.TreeHalves", spec := "treeHalves", recurses := true, named := ["tribunal/sha.start", "tribunal/sha.round"], apart := false, laid := [("tribunal/sha.start", laid_tribunal_sha_start), ("tribunal/sha.round", laid_tribunal_sha_round)] }
def TreeHalvesSaid : Prop := treeHalvesRow.holds Tryd.pinned (OpenSpec.ofChange treeHalvesSpec)

/-- ITS FALSE NEIGHBOUR: 'it returns false'. Refute it at one input. -/
def treeHalvesWrong : ChangeSpec := { name := "treeHalves", fn := fun _ => fun
  | [d1, d2, d3] => { results := [.lit (.bool false)], args := [d1, d2, d3] }
  | _ => none }
def TreeHalvesWrongFalsely : Prop := treeHalvesRow.holds Tryd.pinned (OpenSpec.ofChange treeHalvesWrong)

/-- 'tribunallaw04.OnceParts': WHATEVER THE INPUT: true; the input reads as it did. -/
def oncePartsSpec : ChangeSpec := { name := "onceParts", fn := fun _ => fun
  | [d1, d2, d3] => { results := [.lit (.bool true)], args := [d1, d2, d3] }
  | _ => none }
def oncePartsRow : OpenClaim := { program := "ytehnaighaabbjaadoor", sum := "eed57a56444e23e88cdae7196c27815261b204c56eb13f0fa7866934c1015549", func := "tribunal/tribunallaw04.OnceParts", spec := "onceParts", named := ["tribunal/sha.start", "tribunal/sha.round"], apart := false, laid := [("tribunal/sha.start", laid_tribunal_sha_start), ("tribunal/sha.round", laid_tribunal_sha_round)] }
def OncePartsSaid : Prop := oncePartsRow.holds Tryd.pinned (OpenSpec.ofChange oncePartsSpec)

/-- ITS FALSE NEIGHBOUR: 'it returns false'. Refute it at one input. -/
def oncePartsWrong : ChangeSpec := { name := "onceParts", fn := fun _ => fun
  | [d1, d2, d3] => { results := [.lit (.bool false)], args := [d1, d2, d3] }
  | _ => none }
def OncePartsWrongFalsely : Prop := oncePartsRow.holds Tryd.pinned (OpenSpec.ofChange oncePartsWrong)

/-- 'tribunallaw05.TreeRoots': WHATEVER THE INPUT: true; the input reads as it did. -/
def treeRootsSpec : ChangeSpec := { name := "treeRoots", fn := fun _ => fun
  | [d1, d2] => { results := [.lit (.bool true)], args := [d1, d2] }
  | _ => none }
def treeRootsRow : OpenClaim := { program := "ytehnaighaabbjaadoor", sum := "eed57a56444e23e88cdae7196c27815261b204c56eb13f0fa7866934c1015549", func := "tribunal/tribunallaw05.TreeRoots", spec := "treeRoots", recurses := true, named := ["tribunal/sha.start", "tribunal/sha.round"], apart := false, laid := [("tribunal/sha.start", laid_tribunal_sha_start), ("tribunal/sha.round", laid_tribunal_sha_round)] }
def TreeRootsSaid : Prop := treeRootsRow.holds Tryd.pinned (OpenSpec.ofChange treeRootsSpec)

/-- ITS FALSE NEIGHBOUR: 'it returns false'. Refute it at one input. -/
def treeRootsWrong : ChangeSpec := { name := "treeRoots", fn := fun _ => fun
  | [d1, d2] => { results := [.lit (.bool false)], args := [d1, d2] }
  | _ => none }
def TreeRootsWrongFalsely : Prop := treeRootsRow.holds Tryd.pinned (OpenSpec.ofChange treeRootsWrong)

/-- 'tribunallaw05.TreeClimbs': WHATEVER THE INPUT: true; the input reads as it did. -/
def treeClimbsSpec : ChangeSpec := { name := "treeClimbs", fn := fun _ => fun
  | [d1, d2, d3, d4] => { results := [.lit (.bool true)], args := [d1, d2, d3, d4] }
  | _ => none }
def treeClimbsRow : OpenClaim := { program := "ytehnaighaabbjaadoor", sum := "eed57a56444e23e88cdae7196c27815261b204c56eb13f0fa7866934c1015549", func := "tribunal/tribunallaw05.TreeClimbs", spec := "treeClimbs", named := ["tribunal/sha.start", "tribunal/sha.round"], apart := false, laid := [("tribunal/sha.start", laid_tribunal_sha_start), ("tribunal/sha.round", laid_tribunal_sha_round)] }
def TreeClimbsSaid : Prop := treeClimbsRow.holds Tryd.pinned (OpenSpec.ofChange treeClimbsSpec)

/-- ITS FALSE NEIGHBOUR: 'it returns false'. Refute it at one input. -/
def treeClimbsWrong : ChangeSpec := { name := "treeClimbs", fn := fun _ => fun
  | [d1, d2, d3, d4] => { results := [.lit (.bool false)], args := [d1, d2, d3, d4] }
  | _ => none }
def TreeClimbsWrongFalsely : Prop := treeClimbsRow.holds Tryd.pinned (OpenSpec.ofChange treeClimbsWrong)

/-- 'tribunallaw05.TreeKeeps': WHATEVER THE INPUT: true; the input reads as it did. -/
def treeKeepsSpec : ChangeSpec := { name := "treeKeeps", fn := fun _ => fun
  | [d1, d2] => { results := [.lit (.bool true)], args := [d1, d2] }
  | _ => none }
def treeKeepsRow : OpenClaim := { program := "ytehnaighaabbjaadoor", sum := "eed57a56444e23e88cdae7196c27815261b204c56eb13f0fa7866934c1015549", func := "tribunal/tribunallaw05.TreeKeeps", spec := "treeKeeps", named := ["tribunal/sha.start", "tribunal/sha.round"], apart := false, laid := [("tribunal/sha.start", laid_tribunal_sha_start), ("tribunal/sha.round", laid_tribunal_sha_round)] }
def TreeKeepsSaid : Prop := treeKeepsRow.holds Tryd.pinned (OpenSpec.ofChange treeKeepsSpec)

/-- ITS FALSE NEIGHBOUR: 'it returns false'. Refute it at one input. -/
def treeKeepsWrong : ChangeSpec := { name := "treeKeeps", fn := fun _ => fun
  | [d1, d2] => { results := [.lit (.bool false)], args := [d1, d2] }
  | _ => none }
def TreeKeepsWrongFalsely : Prop := treeKeepsRow.holds Tryd.pinned (OpenSpec.ofChange treeKeepsWrong)

/-- 'tribunallaw04.OnceKeys': WHATEVER THE INPUT: true; the input reads as it did. -/
def onceKeysSpec : ChangeSpec := { name := "onceKeys", fn := fun _ => fun
  | [d1, d2, d3] => { results := [.lit (.bool true)], args := [d1, d2, d3] }
  | _ => none }
def onceKeysRow : OpenClaim := { program := "ytehnaighaabbjaadoor", sum := "eed57a56444e23e88cdae7196c27815261b204c56eb13f0fa7866934c1015549", func := "tribunal/tribunallaw04.OnceKeys", spec := "onceKeys", named := ["tribunal/sha.start", "tribunal/sha.round"], apart := false, laid := [("tribunal/sha.start", laid_tribunal_sha_start), ("tribunal/sha.round", laid_tribunal_sha_round)] }
def OnceKeysSaid : Prop := onceKeysRow.holds Tryd.pinned (OpenSpec.ofChange onceKeysSpec)

/-- ITS FALSE NEIGHBOUR: 'it returns false'. Refute it at one input. -/
def onceKeysWrong : ChangeSpec := { name := "onceKeys", fn := fun _ => fun
  | [d1, d2, d3] => { results := [.lit (.bool false)], args := [d1, d2, d3] }
  | _ => none }
def OnceKeysWrongFalsely : Prop := onceKeysRow.holds Tryd.pinned (OpenSpec.ofChange onceKeysWrong)

/-- 'tribunallaw04.OnceMeets': WHATEVER THE INPUT: true; the input reads as it did. -/
def onceMeetsSpec : ChangeSpec := { name := "onceMeets", fn := fun _ => fun
  | [d1, d2, d3] => { results := [.lit (.bool true)], args := [d1, d2, d3] }
  | _ => none }
def onceMeetsRow : OpenClaim := { program := "ytehnaighaabbjaadoor", sum := "eed57a56444e23e88cdae7196c27815261b204c56eb13f0fa7866934c1015549", func := "tribunal/tribunallaw04.OnceMeets", spec := "onceMeets", named := ["tribunal/sha.start", "tribunal/sha.round"], apart := false, laid := [("tribunal/sha.start", laid_tribunal_sha_start), ("tribunal/sha.round", laid_tribunal_sha_round)] }
def OnceMeetsSaid : Prop := onceMeetsRow.holds Tryd.pinned (OpenSpec.ofChange onceMeetsSpec)

/-- ITS FALSE NEIGHBOUR: 'it returns false'. Refute it at one input. -/
def onceMeetsWrong : ChangeSpec := { name := "onceMeets", fn := fun _ => fun
  | [d1, d2, d3] => { results := [.lit (.bool false)], args := [d1, d2, d3] }
  | _ => none }
def OnceMeetsWrongFalsely : Prop := onceMeetsRow.holds Tryd.pinned (OpenSpec.ofChange onceMeetsWrong)

/-- 'tribunallaw05.TreeBack': WHATEVER THE INPUT: true; the input reads as it did. -/
def treeBackSpec : ChangeSpec := { name := "treeBack", fn := fun _ => fun
  | [d1, d2] => { results := [.lit (.bool true)], args := [d1, d2] }
  | _ => none }
def treeBackRow : OpenClaim := { program := "ytehnaighaabbjaadoor", sum := "eed57a56444e23e88cdae7196c27815261b204c56eb13f0fa7866934c1015549", func := "tribunal/tribunallaw05.TreeBack", spec := "treeBack", named := ["tribunal/sha.start", "tribunal/sha.round"], apart := false, laid := [("tribunal/sha.start", laid_tribunal_sha_start), ("tribunal/sha.round", laid_tribunal_sha_round)] }
def TreeBackSaid : Prop := treeBackRow.holds Tryd.pinned (OpenSpec.ofChange treeBackSpec)

/-- ITS FALSE NEIGHBOUR: 'it returns false'. Refute it at one input. -/
def treeBackWrong : ChangeSpec := { name := "treeBack", fn := fun _ => fun
  | [d1, d2] => { results := [.lit (.bool false)], args := [d1, d2] }
  | _ => none }
def TreeBackWrongFalsely : Prop := treeBackRow.holds Tryd.pinned (OpenSpec.ofChange treeBackWrong)

/-- 'tribunallaw04.OnceSigns': WHATEVER THE INPUT: true; the input reads as it did. -/
def onceSignsSpec : ChangeSpec := { name := "onceSigns", fn := fun _ => fun
  | [d1, d2, d3] => { results := [.lit (.bool true)], args := [d1, d2, d3] }
  | _ => none }
def onceSignsRow : OpenClaim := { program := "ytehnaighaabbjaadoor", sum := "eed57a56444e23e88cdae7196c27815261b204c56eb13f0fa7866934c1015549", func := "tribunal/tribunallaw04.OnceSigns", spec := "onceSigns", named := ["tribunal/sha.start", "tribunal/sha.round"], apart := false, laid := [("tribunal/sha.start", laid_tribunal_sha_start), ("tribunal/sha.round", laid_tribunal_sha_round)] }
def OnceSignsSaid : Prop := onceSignsRow.holds Tryd.pinned (OpenSpec.ofChange onceSignsSpec)

/-- ITS FALSE NEIGHBOUR: 'it returns false'. Refute it at one input. -/
def onceSignsWrong : ChangeSpec := { name := "onceSigns", fn := fun _ => fun
  | [d1, d2, d3] => { results := [.lit (.bool false)], args := [d1, d2, d3] }
  | _ => none }
def OnceSignsWrongFalsely : Prop := onceSignsRow.holds Tryd.pinned (OpenSpec.ofChange onceSignsWrong)

/-- 'tribunallaw04.OnceOther': WHATEVER THE INPUT: true; the input reads as it did. -/
def onceOtherSpec : ChangeSpec := { name := "onceOther", fn := fun _ => fun
  | [d1, d2, d3, d4, d5] => { results := [.lit (.bool true)], args := [d1, d2, d3, d4, d5] }
  | _ => none }
def onceOtherRow : OpenClaim := { program := "ytehnaighaabbjaadoor", sum := "eed57a56444e23e88cdae7196c27815261b204c56eb13f0fa7866934c1015549", func := "tribunal/tribunallaw04.OnceOther", spec := "onceOther", named := ["tribunal/sha.start", "tribunal/sha.round"], apart := false, laid := [("tribunal/sha.start", laid_tribunal_sha_start), ("tribunal/sha.round", laid_tribunal_sha_round)] }
def OnceOtherSaid : Prop := onceOtherRow.holds Tryd.pinned (OpenSpec.ofChange onceOtherSpec)

/-- ITS FALSE NEIGHBOUR: 'it returns false'. Refute it at one input. -/
def onceOtherWrong : ChangeSpec := { name := "onceOther", fn := fun _ => fun
  | [d1, d2, d3, d4, d5] => { results := [.lit (.bool false)], args := [d1, d2, d3, d4, d5] }
  | _ => none }
def OnceOtherWrongFalsely : Prop := onceOtherRow.holds Tryd.pinned (OpenSpec.ofChange onceOtherWrong)

/- THE SECOND FORM. 'bulk': how many values and letters a reading holds, each counted each time it is reached (what is shared counts as often as it is met; a slice's spare places count too). A statement '..UptoSaid' is the law's where the arguments, and the package variables that the reading takes, are together of bulk at most 1048576: NARROWER than '..Said'. Prove '..Said' where nothing that the law and all that it calls make is longer than what came in: it says more and counts as full. Else prove '..UptoSaid'. A law counts once. -/
mutual
def uptoBulk {H : Type} : DataW H → Nat
  | .lit (.string bytes) => bytes.length + 1
  | .lit _ => 1
  | .nil => 1
  | .ptr d => uptoBulk d + 1
  | .slice elems spare => uptoBulkAll elems + uptoBulkAll spare + 1
  | .agg parts => uptoBulkAll parts + 1
  | .iface _ d => uptoBulk d + 1
  | .map entries => uptoBulkEntries entries + 1
  | .held _ => 1
def uptoBulkAll {H : Type} : List (DataW H) → Nat
  | [] => 0
  | d :: r => uptoBulk d + uptoBulkAll r
def uptoBulkEntries {H : Type} : List (Lit × DataW H) → Nat
  | [] => 0
  | x :: r => uptoBulkEntry x + uptoBulkEntries r
def uptoBulkEntry {H : Type} : Lit × DataW H → Nat
  | (.string bytes, d) => bytes.length + uptoBulk d + 1
  | (_, d) => uptoBulk d + 1
 end
def uptoSmall : (H : Type) → List (DataW H) → Bool := fun _ ds => decide (uptoBulkAll ds ≤ 1048576)
def OpenSpec.upto (s : _root_.Go.ChangeSpec) : _root_.Go.OpenSpec := { _root_.Go.OpenSpec.ofChange s with cond := some uptoSmall }

/-- 'tribunallaw05.TreeHalves', WHERE WHAT IT READS IS OF BULK AT MOST 1048576: true; the input reads as it did. -/
def treeHalvesUptoRow : OpenClaim := { program := "ytehnaighaabbjaadoor", sum := "eed57a56444e23e88cdae7196c27815261b204c56eb13f0fa7866934c1015549", func := "tribunal/tribunallaw05.TreeHalves", spec := "treeHalves", recurses := true, named := ["tribunal/sha.start", "tribunal/sha.round"], apart := false, laid := [("tribunal/sha.start", laid_tribunal_sha_start), ("tribunal/sha.round", laid_tribunal_sha_round)], narrowed := true }
def TreeHalvesUptoSaid : Prop := treeHalvesUptoRow.holds Tryd.pinned (OpenSpec.upto treeHalvesSpec)

/-- 'tribunallaw04.OnceParts', WHERE WHAT IT READS IS OF BULK AT MOST 1048576: true; the input reads as it did. -/
def oncePartsUptoRow : OpenClaim := { program := "ytehnaighaabbjaadoor", sum := "eed57a56444e23e88cdae7196c27815261b204c56eb13f0fa7866934c1015549", func := "tribunal/tribunallaw04.OnceParts", spec := "onceParts", named := ["tribunal/sha.start", "tribunal/sha.round"], apart := false, laid := [("tribunal/sha.start", laid_tribunal_sha_start), ("tribunal/sha.round", laid_tribunal_sha_round)], narrowed := true }
def OncePartsUptoSaid : Prop := oncePartsUptoRow.holds Tryd.pinned (OpenSpec.upto oncePartsSpec)

/-- 'tribunallaw05.TreeRoots', WHERE WHAT IT READS IS OF BULK AT MOST 1048576: true; the input reads as it did. -/
def treeRootsUptoRow : OpenClaim := { program := "ytehnaighaabbjaadoor", sum := "eed57a56444e23e88cdae7196c27815261b204c56eb13f0fa7866934c1015549", func := "tribunal/tribunallaw05.TreeRoots", spec := "treeRoots", recurses := true, named := ["tribunal/sha.start", "tribunal/sha.round"], apart := false, laid := [("tribunal/sha.start", laid_tribunal_sha_start), ("tribunal/sha.round", laid_tribunal_sha_round)], narrowed := true }
def TreeRootsUptoSaid : Prop := treeRootsUptoRow.holds Tryd.pinned (OpenSpec.upto treeRootsSpec)

/-- 'tribunallaw05.TreeClimbs', WHERE WHAT IT READS IS OF BULK AT MOST 1048576: true; the input reads as it did. -/
def treeClimbsUptoRow : OpenClaim := { program := "ytehnaighaabbjaadoor", sum := "eed57a56444e23e88cdae7196c27815261b204c56eb13f0fa7866934c1015549", func := "tribunal/tribunallaw05.TreeClimbs", spec := "treeClimbs", named := ["tribunal/sha.start", "tribunal/sha.round"], apart := false, laid := [("tribunal/sha.start", laid_tribunal_sha_start), ("tribunal/sha.round", laid_tribunal_sha_round)], narrowed := true }
def TreeClimbsUptoSaid : Prop := treeClimbsUptoRow.holds Tryd.pinned (OpenSpec.upto treeClimbsSpec)

/-- 'tribunallaw05.TreeKeeps', WHERE WHAT IT READS IS OF BULK AT MOST 1048576: true; the input reads as it did. -/
def treeKeepsUptoRow : OpenClaim := { program := "ytehnaighaabbjaadoor", sum := "eed57a56444e23e88cdae7196c27815261b204c56eb13f0fa7866934c1015549", func := "tribunal/tribunallaw05.TreeKeeps", spec := "treeKeeps", named := ["tribunal/sha.start", "tribunal/sha.round"], apart := false, laid := [("tribunal/sha.start", laid_tribunal_sha_start), ("tribunal/sha.round", laid_tribunal_sha_round)], narrowed := true }
def TreeKeepsUptoSaid : Prop := treeKeepsUptoRow.holds Tryd.pinned (OpenSpec.upto treeKeepsSpec)

/-- 'tribunallaw04.OnceKeys', WHERE WHAT IT READS IS OF BULK AT MOST 1048576: true; the input reads as it did. -/
def onceKeysUptoRow : OpenClaim := { program := "ytehnaighaabbjaadoor", sum := "eed57a56444e23e88cdae7196c27815261b204c56eb13f0fa7866934c1015549", func := "tribunal/tribunallaw04.OnceKeys", spec := "onceKeys", named := ["tribunal/sha.start", "tribunal/sha.round"], apart := false, laid := [("tribunal/sha.start", laid_tribunal_sha_start), ("tribunal/sha.round", laid_tribunal_sha_round)], narrowed := true }
def OnceKeysUptoSaid : Prop := onceKeysUptoRow.holds Tryd.pinned (OpenSpec.upto onceKeysSpec)

/-- 'tribunallaw04.OnceMeets', WHERE WHAT IT READS IS OF BULK AT MOST 1048576: true; the input reads as it did. -/
def onceMeetsUptoRow : OpenClaim := { program := "ytehnaighaabbjaadoor", sum := "eed57a56444e23e88cdae7196c27815261b204c56eb13f0fa7866934c1015549", func := "tribunal/tribunallaw04.OnceMeets", spec := "onceMeets", named := ["tribunal/sha.start", "tribunal/sha.round"], apart := false, laid := [("tribunal/sha.start", laid_tribunal_sha_start), ("tribunal/sha.round", laid_tribunal_sha_round)], narrowed := true }
def OnceMeetsUptoSaid : Prop := onceMeetsUptoRow.holds Tryd.pinned (OpenSpec.upto onceMeetsSpec)

/-- 'tribunallaw05.TreeBack', WHERE WHAT IT READS IS OF BULK AT MOST 1048576: true; the input reads as it did. -/
def treeBackUptoRow : OpenClaim := { program := "ytehnaighaabbjaadoor", sum := "eed57a56444e23e88cdae7196c27815261b204c56eb13f0fa7866934c1015549", func := "tribunal/tribunallaw05.TreeBack", spec := "treeBack", named := ["tribunal/sha.start", "tribunal/sha.round"], apart := false, laid := [("tribunal/sha.start", laid_tribunal_sha_start), ("tribunal/sha.round", laid_tribunal_sha_round)], narrowed := true }
def TreeBackUptoSaid : Prop := treeBackUptoRow.holds Tryd.pinned (OpenSpec.upto treeBackSpec)

/-- 'tribunallaw04.OnceSigns', WHERE WHAT IT READS IS OF BULK AT MOST 1048576: true; the input reads as it did. -/
def onceSignsUptoRow : OpenClaim := { program := "ytehnaighaabbjaadoor", sum := "eed57a56444e23e88cdae7196c27815261b204c56eb13f0fa7866934c1015549", func := "tribunal/tribunallaw04.OnceSigns", spec := "onceSigns", named := ["tribunal/sha.start", "tribunal/sha.round"], apart := false, laid := [("tribunal/sha.start", laid_tribunal_sha_start), ("tribunal/sha.round", laid_tribunal_sha_round)], narrowed := true }
def OnceSignsUptoSaid : Prop := onceSignsUptoRow.holds Tryd.pinned (OpenSpec.upto onceSignsSpec)

/-- 'tribunallaw04.OnceOther', WHERE WHAT IT READS IS OF BULK AT MOST 1048576: true; the input reads as it did. -/
def onceOtherUptoRow : OpenClaim := { program := "ytehnaighaabbjaadoor", sum := "eed57a56444e23e88cdae7196c27815261b204c56eb13f0fa7866934c1015549", func := "tribunal/tribunallaw04.OnceOther", spec := "onceOther", named := ["tribunal/sha.start", "tribunal/sha.round"], apart := false, laid := [("tribunal/sha.start", laid_tribunal_sha_start), ("tribunal/sha.round", laid_tribunal_sha_round)], narrowed := true }
def OnceOtherUptoSaid : Prop := onceOtherUptoRow.holds Tryd.pinned (OpenSpec.upto onceOtherSpec)

end Rows
end Go.Proofs.YtehnaighaabbjaaDoor
