/-
  NARROWER THAN 'FOR EVERY INPUT', by the rows' own cells (each row's printed sentence says how): KeysAre: laid · KeysVerify: laid · KeysSign: laid · KeysOther: laid · KeysApart: laid · ChainOne: laid · ChainParts: laid · ChainChecks: laid · ChainWords: laid · ChainLogs: laid · ChainLinks: laid.
  DERIVED. THE GIVEN ROWS OF THIS SEAT. 11 by the template 'for every input the law returns true; each argument reads behind the call as it read before'; 0 by the template 'total and deterministic' (their statements: YtbceglggojnnaaaDoorTotals.lean).
  GIVEN WITH THE SEED: the statements are not yours to turn. If you find one false, say at which input.
  Laid BY PROGRAM, IN A SANDBOX (cutbox-rows.mjs): the forced cells as the released guide's own fill.sh prints them over the translation a0139d192081286b… (all of the seat's roots in one cut). By AI agents, Wed Nov 11 2026. No macro, syntax, notation, axiom, sorry.
-/
import Derived.Test.YtbceglggojnnaaaDoorChecked
import GoSem.Claim
import GoSem.ClaimJoined
import GoSem.ClaimMapViews
import Derived.JoinedTies
import Derived.KernelRfl
namespace Go.Proofs.YtbceglggojnnaaaDoor
/- THE CELL 'sum', in the pinned program and in every row, IS THE sha256 OF THE DUMP (.gsa) THAT YtbceglggojnnaaaDoorProg.lean LOADS. Nothing in Lean hashes anything: it is a label: what it is worth is what the hold of that sum in a sandbox is worth. -/
noncomputable def Tryd.pinned : Pinned := { name := "ytbceglggojnnaaadoor", sum := "a0139d192081286b30a0c567a5ad8078e89a744f9a950c6779fdd019ae669c6f", checked := Tryd.checked }
namespace Rows
def none {H : Type} : Left H := { results := [], args := [] }

/- WHAT THE LISTED PACKAGE-LEVEL VARIABLES READ AS WHEN THE CALL BEGINS. Each datum BY PROGRAM (the guide's laid-datum.mjs) off the statement by which the dump's own 'gosem.cut.vars' lays the variable. In a bare row this is a premise. The card (YtbceglggojnnaaaDoorCards.lean) ties it to the program's text. -/
def laid_tribunal_sha_start {H : Type} : DataW H := .agg [.lit (.int .u32 1779033703), .lit (.int .u32 3144134277), .lit (.int .u32 1013904242), .lit (.int .u32 2773480762), .lit (.int .u32 1359893119), .lit (.int .u32 2600822924), .lit (.int .u32 528734635), .lit (.int .u32 1541459225)]
def laid_tribunal_sha_round {H : Type} : DataW H := .agg [.lit (.int .u32 1116352408), .lit (.int .u32 1899447441), .lit (.int .u32 3049323471), .lit (.int .u32 3921009573), .lit (.int .u32 961987163), .lit (.int .u32 1508970993), .lit (.int .u32 2453635748), .lit (.int .u32 2870763221), .lit (.int .u32 3624381080), .lit (.int .u32 310598401), .lit (.int .u32 607225278), .lit (.int .u32 1426881987), .lit (.int .u32 1925078388), .lit (.int .u32 2162078206), .lit (.int .u32 2614888103), .lit (.int .u32 3248222580), .lit (.int .u32 3835390401), .lit (.int .u32 4022224774), .lit (.int .u32 264347078), .lit (.int .u32 604807628), .lit (.int .u32 770255983), .lit (.int .u32 1249150122), .lit (.int .u32 1555081692), .lit (.int .u32 1996064986), .lit (.int .u32 2554220882), .lit (.int .u32 2821834349), .lit (.int .u32 2952996808), .lit (.int .u32 3210313671), .lit (.int .u32 3336571891), .lit (.int .u32 3584528711), .lit (.int .u32 113926993), .lit (.int .u32 338241895), .lit (.int .u32 666307205), .lit (.int .u32 773529912), .lit (.int .u32 1294757372), .lit (.int .u32 1396182291), .lit (.int .u32 1695183700), .lit (.int .u32 1986661051), .lit (.int .u32 2177026350), .lit (.int .u32 2456956037), .lit (.int .u32 2730485921), .lit (.int .u32 2820302411), .lit (.int .u32 3259730800), .lit (.int .u32 3345764771), .lit (.int .u32 3516065817), .lit (.int .u32 3600352804), .lit (.int .u32 4094571909), .lit (.int .u32 275423344), .lit (.int .u32 430227734), .lit (.int .u32 506948616), .lit (.int .u32 659060556), .lit (.int .u32 883997877), .lit (.int .u32 958139571), .lit (.int .u32 1322822218), .lit (.int .u32 1537002063), .lit (.int .u32 1747873779), .lit (.int .u32 1955562222), .lit (.int .u32 2024104815), .lit (.int .u32 2227730452), .lit (.int .u32 2361852424), .lit (.int .u32 2428436474), .lit (.int .u32 2756734187), .lit (.int .u32 3204031479), .lit (.int .u32 3329325298)]

/-- 'tribunallaw06.KeysAre': WHATEVER THE INPUT: true; the input reads as it did. -/
def keysAreSpec : ChangeSpec := { name := "keysAre", fn := fun _ => fun
  | [d1, d2, d3, d4] => { results := [.lit (.bool true)], args := [d1, d2, d3, d4] }
  | _ => none }
def keysAreRow : OpenClaim := { program := "ytbceglggojnnaaadoor", sum := "a0139d192081286b30a0c567a5ad8078e89a744f9a950c6779fdd019ae669c6f", func := "tribunal/tribunallaw06.KeysAre", spec := "keysAre", recurses := true, named := ["tribunal/sha.start", "tribunal/sha.round"], apart := false, laid := [("tribunal/sha.start", laid_tribunal_sha_start), ("tribunal/sha.round", laid_tribunal_sha_round)] }
def KeysAreSaid : Prop := keysAreRow.holds Tryd.pinned (OpenSpec.ofChange keysAreSpec)

/-- ITS FALSE NEIGHBOUR: 'it returns false'. Refute it at one input. -/
def keysAreWrong : ChangeSpec := { name := "keysAre", fn := fun _ => fun
  | [d1, d2, d3, d4] => { results := [.lit (.bool false)], args := [d1, d2, d3, d4] }
  | _ => none }
def KeysAreWrongFalsely : Prop := keysAreRow.holds Tryd.pinned (OpenSpec.ofChange keysAreWrong)

/-- 'tribunallaw06.KeysVerify': WHATEVER THE INPUT: true; the input reads as it did. -/
def keysVerifySpec : ChangeSpec := { name := "keysVerify", fn := fun _ => fun
  | [d1, d2, d3, d4, d5] => { results := [.lit (.bool true)], args := [d1, d2, d3, d4, d5] }
  | _ => none }
def keysVerifyRow : OpenClaim := { program := "ytbceglggojnnaaadoor", sum := "a0139d192081286b30a0c567a5ad8078e89a744f9a950c6779fdd019ae669c6f", func := "tribunal/tribunallaw06.KeysVerify", spec := "keysVerify", named := ["tribunal/sha.start", "tribunal/sha.round"], apart := false, laid := [("tribunal/sha.start", laid_tribunal_sha_start), ("tribunal/sha.round", laid_tribunal_sha_round)] }
def KeysVerifySaid : Prop := keysVerifyRow.holds Tryd.pinned (OpenSpec.ofChange keysVerifySpec)

/-- ITS FALSE NEIGHBOUR: 'it returns false'. Refute it at one input. -/
def keysVerifyWrong : ChangeSpec := { name := "keysVerify", fn := fun _ => fun
  | [d1, d2, d3, d4, d5] => { results := [.lit (.bool false)], args := [d1, d2, d3, d4, d5] }
  | _ => none }
def KeysVerifyWrongFalsely : Prop := keysVerifyRow.holds Tryd.pinned (OpenSpec.ofChange keysVerifyWrong)

/-- 'tribunallaw06.KeysSign': WHATEVER THE INPUT: true; the input reads as it did. -/
def keysSignSpec : ChangeSpec := { name := "keysSign", fn := fun _ => fun
  | [d1, d2, d3, d4] => { results := [.lit (.bool true)], args := [d1, d2, d3, d4] }
  | _ => none }
def keysSignRow : OpenClaim := { program := "ytbceglggojnnaaadoor", sum := "a0139d192081286b30a0c567a5ad8078e89a744f9a950c6779fdd019ae669c6f", func := "tribunal/tribunallaw06.KeysSign", spec := "keysSign", recurses := true, named := ["tribunal/sha.start", "tribunal/sha.round"], apart := false, laid := [("tribunal/sha.start", laid_tribunal_sha_start), ("tribunal/sha.round", laid_tribunal_sha_round)] }
def KeysSignSaid : Prop := keysSignRow.holds Tryd.pinned (OpenSpec.ofChange keysSignSpec)

/-- ITS FALSE NEIGHBOUR: 'it returns false'. Refute it at one input. -/
def keysSignWrong : ChangeSpec := { name := "keysSign", fn := fun _ => fun
  | [d1, d2, d3, d4] => { results := [.lit (.bool false)], args := [d1, d2, d3, d4] }
  | _ => none }
def KeysSignWrongFalsely : Prop := keysSignRow.holds Tryd.pinned (OpenSpec.ofChange keysSignWrong)

/-- 'tribunallaw06.KeysOther': WHATEVER THE INPUT: true; the input reads as it did. -/
def keysOtherSpec : ChangeSpec := { name := "keysOther", fn := fun _ => fun
  | [d1, d2, d3, d4, d5, d6] => { results := [.lit (.bool true)], args := [d1, d2, d3, d4, d5, d6] }
  | _ => none }
def keysOtherRow : OpenClaim := { program := "ytbceglggojnnaaadoor", sum := "a0139d192081286b30a0c567a5ad8078e89a744f9a950c6779fdd019ae669c6f", func := "tribunal/tribunallaw06.KeysOther", spec := "keysOther", named := ["tribunal/sha.start", "tribunal/sha.round"], apart := false, laid := [("tribunal/sha.start", laid_tribunal_sha_start), ("tribunal/sha.round", laid_tribunal_sha_round)] }
def KeysOtherSaid : Prop := keysOtherRow.holds Tryd.pinned (OpenSpec.ofChange keysOtherSpec)

/-- ITS FALSE NEIGHBOUR: 'it returns false'. Refute it at one input. -/
def keysOtherWrong : ChangeSpec := { name := "keysOther", fn := fun _ => fun
  | [d1, d2, d3, d4, d5, d6] => { results := [.lit (.bool false)], args := [d1, d2, d3, d4, d5, d6] }
  | _ => none }
def KeysOtherWrongFalsely : Prop := keysOtherRow.holds Tryd.pinned (OpenSpec.ofChange keysOtherWrong)

/-- 'tribunallaw06.KeysApart': WHATEVER THE INPUT: true; the input reads as it did. -/
def keysApartSpec : ChangeSpec := { name := "keysApart", fn := fun _ => fun
  | [d1, d2, d3, d4, d5] => { results := [.lit (.bool true)], args := [d1, d2, d3, d4, d5] }
  | _ => none }
def keysApartRow : OpenClaim := { program := "ytbceglggojnnaaadoor", sum := "a0139d192081286b30a0c567a5ad8078e89a744f9a950c6779fdd019ae669c6f", func := "tribunal/tribunallaw06.KeysApart", spec := "keysApart", named := ["tribunal/sha.start", "tribunal/sha.round"], apart := false, laid := [("tribunal/sha.start", laid_tribunal_sha_start), ("tribunal/sha.round", laid_tribunal_sha_round)] }
def KeysApartSaid : Prop := keysApartRow.holds Tryd.pinned (OpenSpec.ofChange keysApartSpec)

/-- ITS FALSE NEIGHBOUR: 'it returns false'. Refute it at one input. -/
def keysApartWrong : ChangeSpec := { name := "keysApart", fn := fun _ => fun
  | [d1, d2, d3, d4, d5] => { results := [.lit (.bool false)], args := [d1, d2, d3, d4, d5] }
  | _ => none }
def KeysApartWrongFalsely : Prop := keysApartRow.holds Tryd.pinned (OpenSpec.ofChange keysApartWrong)

/-- 'tribunallaw16.ChainOne': WHATEVER THE INPUT: true; the input reads as it did. -/
def chainOneSpec : ChangeSpec := { name := "chainOne", fn := fun _ => fun
  | [d1, d2, d3, d4, d5, d6] => { results := [.lit (.bool true)], args := [d1, d2, d3, d4, d5, d6] }
  | _ => none }
def chainOneRow : OpenClaim := { program := "ytbceglggojnnaaadoor", sum := "a0139d192081286b30a0c567a5ad8078e89a744f9a950c6779fdd019ae669c6f", func := "tribunal/tribunallaw16.ChainOne", spec := "chainOne", unfollowed := true, recurses := true, named := ["tribunal/sha.start", "tribunal/sha.round"], apart := false, laid := [("tribunal/sha.start", laid_tribunal_sha_start), ("tribunal/sha.round", laid_tribunal_sha_round)] }
def ChainOneSaid : Prop := chainOneRow.holds Tryd.pinned (OpenSpec.ofChange chainOneSpec)

/-- ITS FALSE NEIGHBOUR: 'it returns false'. Refute it at one input. -/
def chainOneWrong : ChangeSpec := { name := "chainOne", fn := fun _ => fun
  | [d1, d2, d3, d4, d5, d6] => { results := [.lit (.bool false)], args := [d1, d2, d3, d4, d5, d6] }
  | _ => none }
def ChainOneWrongFalsely : Prop := chainOneRow.holds Tryd.pinned (OpenSpec.ofChange chainOneWrong)

/-- 'tribunallaw16.ChainParts': WHATEVER THE INPUT: true; the input reads as it did. -/
def chainPartsSpec : ChangeSpec := { name := "chainParts", fn := fun _ => fun
  | [d1, d2, d3, d4] => { results := [.lit (.bool true)], args := [d1, d2, d3, d4] }
  | _ => none }
def chainPartsRow : OpenClaim := { program := "ytbceglggojnnaaadoor", sum := "a0139d192081286b30a0c567a5ad8078e89a744f9a950c6779fdd019ae669c6f", func := "tribunal/tribunallaw16.ChainParts", spec := "chainParts", unfollowed := true, recurses := true, named := ["tribunal/sha.start", "tribunal/sha.round"], apart := false, laid := [("tribunal/sha.start", laid_tribunal_sha_start), ("tribunal/sha.round", laid_tribunal_sha_round)] }
def ChainPartsSaid : Prop := chainPartsRow.holds Tryd.pinned (OpenSpec.ofChange chainPartsSpec)

/-- ITS FALSE NEIGHBOUR: 'it returns false'. Refute it at one input. -/
def chainPartsWrong : ChangeSpec := { name := "chainParts", fn := fun _ => fun
  | [d1, d2, d3, d4] => { results := [.lit (.bool false)], args := [d1, d2, d3, d4] }
  | _ => none }
def ChainPartsWrongFalsely : Prop := chainPartsRow.holds Tryd.pinned (OpenSpec.ofChange chainPartsWrong)

/-- 'tribunallaw16.ChainChecks': WHATEVER THE INPUT: true; the input reads as it did. -/
def chainChecksSpec : ChangeSpec := { name := "chainChecks", fn := fun _ => fun
  | [d1, d2] => { results := [.lit (.bool true)], args := [d1, d2] }
  | _ => none }
def chainChecksRow : OpenClaim := { program := "ytbceglggojnnaaadoor", sum := "a0139d192081286b30a0c567a5ad8078e89a744f9a950c6779fdd019ae669c6f", func := "tribunal/tribunallaw16.ChainChecks", spec := "chainChecks", unfollowed := true, recurses := true, named := ["tribunal/sha.start", "tribunal/sha.round"], apart := false, laid := [("tribunal/sha.start", laid_tribunal_sha_start), ("tribunal/sha.round", laid_tribunal_sha_round)] }
def ChainChecksSaid : Prop := chainChecksRow.holds Tryd.pinned (OpenSpec.ofChange chainChecksSpec)

/-- ITS FALSE NEIGHBOUR: 'it returns false'. Refute it at one input. -/
def chainChecksWrong : ChangeSpec := { name := "chainChecks", fn := fun _ => fun
  | [d1, d2] => { results := [.lit (.bool false)], args := [d1, d2] }
  | _ => none }
def ChainChecksWrongFalsely : Prop := chainChecksRow.holds Tryd.pinned (OpenSpec.ofChange chainChecksWrong)

/-- 'tribunallaw16.ChainWords': WHATEVER THE INPUT: true; the input reads as it did. -/
def chainWordsSpec : ChangeSpec := { name := "chainWords", fn := fun _ => fun
  | [d1, d2, d3, d4] => { results := [.lit (.bool true)], args := [d1, d2, d3, d4] }
  | _ => none }
def chainWordsRow : OpenClaim := { program := "ytbceglggojnnaaadoor", sum := "a0139d192081286b30a0c567a5ad8078e89a744f9a950c6779fdd019ae669c6f", func := "tribunal/tribunallaw16.ChainWords", spec := "chainWords", unfollowed := true, recurses := true, named := ["tribunal/sha.start", "tribunal/sha.round"], apart := false, laid := [("tribunal/sha.start", laid_tribunal_sha_start), ("tribunal/sha.round", laid_tribunal_sha_round)] }
def ChainWordsSaid : Prop := chainWordsRow.holds Tryd.pinned (OpenSpec.ofChange chainWordsSpec)

/-- ITS FALSE NEIGHBOUR: 'it returns false'. Refute it at one input. -/
def chainWordsWrong : ChangeSpec := { name := "chainWords", fn := fun _ => fun
  | [d1, d2, d3, d4] => { results := [.lit (.bool false)], args := [d1, d2, d3, d4] }
  | _ => none }
def ChainWordsWrongFalsely : Prop := chainWordsRow.holds Tryd.pinned (OpenSpec.ofChange chainWordsWrong)

/-- 'tribunallaw16.ChainLogs': WHATEVER THE INPUT: true; the input reads as it did. -/
def chainLogsSpec : ChangeSpec := { name := "chainLogs", fn := fun _ => fun
  | [d1, d2, d3, d4] => { results := [.lit (.bool true)], args := [d1, d2, d3, d4] }
  | _ => none }
def chainLogsRow : OpenClaim := { program := "ytbceglggojnnaaadoor", sum := "a0139d192081286b30a0c567a5ad8078e89a744f9a950c6779fdd019ae669c6f", func := "tribunal/tribunallaw16.ChainLogs", spec := "chainLogs", unfollowed := true, recurses := true, named := ["tribunal/sha.start", "tribunal/sha.round"], apart := false, laid := [("tribunal/sha.start", laid_tribunal_sha_start), ("tribunal/sha.round", laid_tribunal_sha_round)] }
def ChainLogsSaid : Prop := chainLogsRow.holds Tryd.pinned (OpenSpec.ofChange chainLogsSpec)

/-- ITS FALSE NEIGHBOUR: 'it returns false'. Refute it at one input. -/
def chainLogsWrong : ChangeSpec := { name := "chainLogs", fn := fun _ => fun
  | [d1, d2, d3, d4] => { results := [.lit (.bool false)], args := [d1, d2, d3, d4] }
  | _ => none }
def ChainLogsWrongFalsely : Prop := chainLogsRow.holds Tryd.pinned (OpenSpec.ofChange chainLogsWrong)

/-- 'tribunallaw16.ChainLinks': WHATEVER THE INPUT: true; the input reads as it did. -/
def chainLinksSpec : ChangeSpec := { name := "chainLinks", fn := fun _ => fun
  | [d1, d2, d3, d4, d5] => { results := [.lit (.bool true)], args := [d1, d2, d3, d4, d5] }
  | _ => none }
def chainLinksRow : OpenClaim := { program := "ytbceglggojnnaaadoor", sum := "a0139d192081286b30a0c567a5ad8078e89a744f9a950c6779fdd019ae669c6f", func := "tribunal/tribunallaw16.ChainLinks", spec := "chainLinks", unfollowed := true, recurses := true, named := ["tribunal/sha.start", "tribunal/sha.round"], apart := false, laid := [("tribunal/sha.start", laid_tribunal_sha_start), ("tribunal/sha.round", laid_tribunal_sha_round)] }
def ChainLinksSaid : Prop := chainLinksRow.holds Tryd.pinned (OpenSpec.ofChange chainLinksSpec)

/-- ITS FALSE NEIGHBOUR: 'it returns false'. Refute it at one input. -/
def chainLinksWrong : ChangeSpec := { name := "chainLinks", fn := fun _ => fun
  | [d1, d2, d3, d4, d5] => { results := [.lit (.bool false)], args := [d1, d2, d3, d4, d5] }
  | _ => none }
def ChainLinksWrongFalsely : Prop := chainLinksRow.holds Tryd.pinned (OpenSpec.ofChange chainLinksWrong)

/- THE SECOND FORM. 'bulk': how many values and letters a reading holds, each counted each time it is reached (what is shared counts as often as it is met; a slice's spare places count too). A statement '..UptoSaid' is the law's where the arguments, and the package variables that the reading takes, are together of bulk at most 1048576: NARROWER than '..Said'. Prove '..Said' where nothing that the law and all that it calls make is longer than what came in: it says more and counts as full. Else prove '..UptoSaid'. A law counts once. -/
mutual
def uptoBulk {H : Type} : DataW H → Nat
  | .lit (.string bytes) => bytes.length + 1
  | .lit _ => 1
  | .nil => 1
  | .ptr d => uptoBulk d + 1
  | .slice elems spare => uptoBulkAll elems + uptoBulkAll spare + 1
  | .agg parts => uptoBulkAll parts + 1
  | .iface _ d => uptoBulk d + 1
  | .map entries => uptoBulkEntries entries + 1
  | .held _ => 1
def uptoBulkAll {H : Type} : List (DataW H) → Nat
  | [] => 0
  | d :: r => uptoBulk d + uptoBulkAll r
def uptoBulkEntries {H : Type} : List (Lit × DataW H) → Nat
  | [] => 0
  | x :: r => uptoBulkEntry x + uptoBulkEntries r
def uptoBulkEntry {H : Type} : Lit × DataW H → Nat
  | (.string bytes, d) => bytes.length + uptoBulk d + 1
  | (_, d) => uptoBulk d + 1
 end
def uptoSmall : (H : Type) → List (DataW H) → Bool := fun _ ds => decide (uptoBulkAll ds ≤ 1048576)
def OpenSpec.upto (s : _root_.Go.ChangeSpec) : _root_.Go.OpenSpec := { _root_.Go.OpenSpec.ofChange s with cond := some uptoSmall }

/-- 'tribunallaw06.KeysAre', WHERE WHAT IT READS IS OF BULK AT MOST 1048576: true; the input reads as it did. -/
def keysAreUptoRow : OpenClaim := { program := "ytbceglggojnnaaadoor", sum := "a0139d192081286b30a0c567a5ad8078e89a744f9a950c6779fdd019ae669c6f", func := "tribunal/tribunallaw06.KeysAre", spec := "keysAre", recurses := true, named := ["tribunal/sha.start", "tribunal/sha.round"], apart := false, laid := [("tribunal/sha.start", laid_tribunal_sha_start), ("tribunal/sha.round", laid_tribunal_sha_round)], narrowed := true }
def KeysAreUptoSaid : Prop := keysAreUptoRow.holds Tryd.pinned (OpenSpec.upto keysAreSpec)

/-- 'tribunallaw06.KeysVerify', WHERE WHAT IT READS IS OF BULK AT MOST 1048576: true; the input reads as it did. -/
def keysVerifyUptoRow : OpenClaim := { program := "ytbceglggojnnaaadoor", sum := "a0139d192081286b30a0c567a5ad8078e89a744f9a950c6779fdd019ae669c6f", func := "tribunal/tribunallaw06.KeysVerify", spec := "keysVerify", named := ["tribunal/sha.start", "tribunal/sha.round"], apart := false, laid := [("tribunal/sha.start", laid_tribunal_sha_start), ("tribunal/sha.round", laid_tribunal_sha_round)], narrowed := true }
def KeysVerifyUptoSaid : Prop := keysVerifyUptoRow.holds Tryd.pinned (OpenSpec.upto keysVerifySpec)

/-- 'tribunallaw06.KeysSign', WHERE WHAT IT READS IS OF BULK AT MOST 1048576: true; the input reads as it did. -/
def keysSignUptoRow : OpenClaim := { program := "ytbceglggojnnaaadoor", sum := "a0139d192081286b30a0c567a5ad8078e89a744f9a950c6779fdd019ae669c6f", func := "tribunal/tribunallaw06.KeysSign", spec := "keysSign", recurses := true, named := ["tribunal/sha.start", "tribunal/sha.round"], apart := false, laid := [("tribunal/sha.start", laid_tribunal_sha_start), ("tribunal/sha.round", laid_tribunal_sha_round)], narrowed := true }
def KeysSignUptoSaid : Prop := keysSignUptoRow.holds Tryd.pinned (OpenSpec.upto keysSignSpec)

/-- 'tribunallaw06.KeysOther', WHERE WHAT IT READS IS OF BULK AT MOST 1048576: true; the input reads as it did. -/
def keysOtherUptoRow : OpenClaim := { program := "ytbceglggojnnaaadoor", sum := "a0139d192081286b30a0c567a5ad8078e89a744f9a950c6779fdd019ae669c6f", func := "tribunal/tribunallaw06.KeysOther", spec := "keysOther", named := ["tribunal/sha.start", "tribunal/sha.round"], apart := false, laid := [("tribunal/sha.start", laid_tribunal_sha_start), ("tribunal/sha.round", laid_tribunal_sha_round)], narrowed := true }
def KeysOtherUptoSaid : Prop := keysOtherUptoRow.holds Tryd.pinned (OpenSpec.upto keysOtherSpec)

/-- 'tribunallaw06.KeysApart', WHERE WHAT IT READS IS OF BULK AT MOST 1048576: true; the input reads as it did. -/
def keysApartUptoRow : OpenClaim := { program := "ytbceglggojnnaaadoor", sum := "a0139d192081286b30a0c567a5ad8078e89a744f9a950c6779fdd019ae669c6f", func := "tribunal/tribunallaw06.KeysApart", spec := "keysApart", named := ["tribunal/sha.start", "tribunal/sha.round"], apart := false, laid := [("tribunal/sha.start", laid_tribunal_sha_start), ("tribunal/sha.round", laid_tribunal_sha_round)], narrowed := true }
def KeysApartUptoSaid : Prop := keysApartUptoRow.holds Tryd.pinned (OpenSpec.upto keysApartSpec)

/-- 'tribunallaw16.ChainOne', WHERE WHAT IT READS IS OF BULK AT MOST 1048576: true; the input reads as it did. -/
def chainOneUptoRow : OpenClaim := { program := "ytbceglggojnnaaadoor", sum := "a0139d192081286b30a0c567a5ad8078e89a744f9a950c6779fdd019ae669c6f", func := "tribunal/tribunallaw16.ChainOne", spec := "chainOne", unfollowed := true, recurses := true, named := ["tribunal/sha.start", "tribunal/sha.round"], apart := false, laid := [("tribunal/sha.start", laid_tribunal_sha_start), ("tribunal/sha.round", laid_tribunal_sha_round)], narrowed := true }
def ChainOneUptoSaid : Prop := chainOneUptoRow.holds Tryd.pinned (OpenSpec.upto chainOneSpec)

/-- 'tribunallaw16.ChainParts', WHERE WHAT IT READS IS OF BULK AT MOST 1048576: true; the input reads as it did. -/
def chainPartsUptoRow : OpenClaim := { program := "ytbceglggojnnaaadoor", sum := "a0139d192081286b30a0c567a5ad8078e89a744f9a950c6779fdd019ae669c6f", func := "tribunal/tribunallaw16.ChainParts", spec := "chainParts", unfollowed := true, recurses := true, named := ["tribunal/sha.start", "tribunal/sha.round"], apart := false, laid := [("tribunal/sha.start", laid_tribunal_sha_start), ("tribunal/sha.round", laid_tribunal_sha_round)], narrowed := true }
def ChainPartsUptoSaid : Prop := chainPartsUptoRow.holds Tryd.pinned (OpenSpec.upto chainPartsSpec)

/-- 'tribunallaw16.ChainChecks', WHERE WHAT IT READS IS OF BULK AT MOST 1048576: true; the input reads as it did. -/
def chainChecksUptoRow : OpenClaim := { program := "ytbceglggojnnaaadoor", sum := "a0139d192081286b30a0c567a5ad8078e89a744f9a950c6779fdd019ae669c6f", func := "tribunal/tribunallaw16.ChainChecks", spec := "chainChecks", unfollowed := true, recurses := true, named := ["tribunal/sha.start", "tribunal/sha.round"], apart := false, laid := [("tribunal/sha.start", laid_tribunal_sha_start), ("tribunal/sha.round", laid_tribunal_sha_round)], narrowed := true }
def ChainChecksUptoSaid : Prop := chainChecksUptoRow.holds Tryd.pinned (OpenSpec.upto chainChecksSpec)

/-- 'tribunallaw16.ChainWords', WHERE WHAT IT READS IS OF BULK AT MOST 1048576: true; the input reads as it did. -/
def chainWordsUptoRow : OpenClaim := { program := "ytbceglggojnnaaadoor", sum := "a0139d192081286b30a0c567a5ad8078e89a744f9a950c6779fdd019ae669c6f", func := "tribunal/tribunallaw16.ChainWords", spec := "chainWords", unfollowed := true, recurses := true, named := ["tribunal/sha.start", "tribunal/sha.round"], apart := false, laid := [("tribunal/sha.start", laid_tribunal_sha_start), ("tribunal/sha.round", laid_tribunal_sha_round)], narrowed := true }
def ChainWordsUptoSaid : Prop := chainWordsUptoRow.holds Tryd.pinned (OpenSpec.upto chainWordsSpec)

/-- 'tribunallaw16.ChainLogs', WHERE WHAT IT READS IS OF BULK AT MOST 1048576: true; the input reads as it did. -/
def chainLogsUptoRow : OpenClaim := { program := "ytbceglggojnnaaadoor", sum := "a0139d192081286b30a0c567a5ad8078e89a744f9a950c6779fdd019ae669c6f", func := "tribunal/tribunallaw16.ChainLogs", spec := "chainLogs", unfollowed := true, recurses := true, named := ["tribunal/sha.start", "tribunal/sha.round"], apart := false, laid := [("tribunal/sha.start", laid_tribunal_sha_start), ("tribunal/sha.round", laid_tribunal_sha_round)], narrowed := true }
def ChainLogsUptoSaid : Prop := chainLogsUptoRow.holds Tryd.pinned (OpenSpec.upto chainLogsSpec)

/-- 'tribunallaw16.ChainLinks', WHERE WHAT IT READS IS OF BULK AT MOST 1048576: true; the input reads as it did. -/
def chainLinksUptoRow : OpenClaim := { program := "ytbceglggojnnaaadoor", sum := "a0139d192081286b30a0c567a5ad8078e89a744f9a950c6779fdd019ae669c6f", func := "tribunal/tribunallaw16.ChainLinks", spec := "chainLinks", unfollowed := true, recurses := true, named := ["tribunal/sha.start", "tribunal/sha.round"], apart := false, laid := [("tribunal/sha.start", laid_tribunal_sha_start), ("tribunal/sha.round", laid_tribunal_sha_round)], narrowed := true }
def ChainLinksUptoSaid : Prop := chainLinksUptoRow.holds Tryd.pinned (OpenSpec.upto chainLinksSpec)

end Rows
end Go.Proofs.YtbceglggojnnaaaDoor
