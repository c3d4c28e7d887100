/-
  NARROWER THAN 'FOR EVERY INPUT', by the rows' own cells (each row's printed sentence says how): ShaIs: laid · ShaEnds: laid · ShaHex: laid · ShaParts: laid · ShaPurposes: laid · ShaSums: laid · StepsWalk: laid · StepsDigits: laid · StepsJoin: laid · StepsLess: laid · StepsPlaces: laid.
  DERIVED. THE GIVEN ROWS OF THIS SEAT. 11 by the template 'for every input the law returns true; each argument reads behind the call as it read before'; 0 by the template 'total and deterministic' (their statements: YtnejeeeliioopaaDoorTotals.lean).
  GIVEN WITH THE SEED: the statements are not yours to turn. If you find one false, say at which input.
  Laid BY PROGRAM, IN A SANDBOX (cutbox-rows.mjs): the forced cells as the released guide's own fill.sh prints them over the translation 1affaf63c7d1d2b6… (all of the seat's roots in one cut). By AI agents, Wed Nov 11 2026. No macro, syntax, notation, axiom, sorry.
-/
import Derived.Test.YtnejeeeliioopaaDoorChecked
import GoSem.Claim
import GoSem.ClaimJoined
import GoSem.ClaimMapViews
import Derived.JoinedTies
import Derived.KernelRfl
namespace Go.Proofs.YtnejeeeliioopaaDoor
/- THE CELL 'sum', in the pinned program and in every row, IS THE sha256 OF THE DUMP (.gsa) THAT YtnejeeeliioopaaDoorProg.lean LOADS. Nothing in Lean hashes anything: it is a label: what it is worth is what the hold of that sum in a sandbox is worth. -/
noncomputable def Tryd.pinned : Pinned := { name := "ytnejeeeliioopaadoor", sum := "1affaf63c7d1d2b68d579b797ec4f4a819a7071fec9b0d08483664e12920c718", checked := Tryd.checked }
namespace Rows
def none {H : Type} : Left H := { results := [], args := [] }

/- WHAT THE LISTED PACKAGE-LEVEL VARIABLES READ AS WHEN THE CALL BEGINS. Each datum BY PROGRAM (the guide's laid-datum.mjs) off the statement by which the dump's own 'gosem.cut.vars' lays the variable. In a bare row this is a premise. The card (YtnejeeeliioopaaDoorCards.lean) ties it to the program's text. -/
def laid_tribunal_sha_start {H : Type} : DataW H := .agg [.lit (.int .u32 1779033703), .lit (.int .u32 3144134277), .lit (.int .u32 1013904242), .lit (.int .u32 2773480762), .lit (.int .u32 1359893119), .lit (.int .u32 2600822924), .lit (.int .u32 528734635), .lit (.int .u32 1541459225)]
def laid_tribunal_sha_round {H : Type} : DataW H := .agg [.lit (.int .u32 1116352408), .lit (.int .u32 1899447441), .lit (.int .u32 3049323471), .lit (.int .u32 3921009573), .lit (.int .u32 961987163), .lit (.int .u32 1508970993), .lit (.int .u32 2453635748), .lit (.int .u32 2870763221), .lit (.int .u32 3624381080), .lit (.int .u32 310598401), .lit (.int .u32 607225278), .lit (.int .u32 1426881987), .lit (.int .u32 1925078388), .lit (.int .u32 2162078206), .lit (.int .u32 2614888103), .lit (.int .u32 3248222580), .lit (.int .u32 3835390401), .lit (.int .u32 4022224774), .lit (.int .u32 264347078), .lit (.int .u32 604807628), .lit (.int .u32 770255983), .lit (.int .u32 1249150122), .lit (.int .u32 1555081692), .lit (.int .u32 1996064986), .lit (.int .u32 2554220882), .lit (.int .u32 2821834349), .lit (.int .u32 2952996808), .lit (.int .u32 3210313671), .lit (.int .u32 3336571891), .lit (.int .u32 3584528711), .lit (.int .u32 113926993), .lit (.int .u32 338241895), .lit (.int .u32 666307205), .lit (.int .u32 773529912), .lit (.int .u32 1294757372), .lit (.int .u32 1396182291), .lit (.int .u32 1695183700), .lit (.int .u32 1986661051), .lit (.int .u32 2177026350), .lit (.int .u32 2456956037), .lit (.int .u32 2730485921), .lit (.int .u32 2820302411), .lit (.int .u32 3259730800), .lit (.int .u32 3345764771), .lit (.int .u32 3516065817), .lit (.int .u32 3600352804), .lit (.int .u32 4094571909), .lit (.int .u32 275423344), .lit (.int .u32 430227734), .lit (.int .u32 506948616), .lit (.int .u32 659060556), .lit (.int .u32 883997877), .lit (.int .u32 958139571), .lit (.int .u32 1322822218), .lit (.int .u32 1537002063), .lit (.int .u32 1747873779), .lit (.int .u32 1955562222), .lit (.int .u32 2024104815), .lit (.int .u32 2227730452), .lit (.int .u32 2361852424), .lit (.int .u32 2428436474), .lit (.int .u32 2756734187), .lit (.int .u32 3204031479), .lit (.int .u32 3329325298)]

/-- 'tribunallaw02.ShaIs': WHATEVER THE INPUT: true; the input reads as it did. -/
def shaIsSpec : ChangeSpec := { name := "shaIs", fn := fun _ => fun
  | [d] => { results := [.lit (.bool true)], args := [d] }
  | _ => none }
def shaIsRow : OpenClaim := { program := "ytnejeeeliioopaadoor", sum := "1affaf63c7d1d2b68d579b797ec4f4a819a7071fec9b0d08483664e12920c718", func := "tribunal/tribunallaw02.ShaIs", spec := "shaIs", named := ["tribunal/sha.start", "tribunal/sha.round"], apart := false, laid := [("tribunal/sha.start", laid_tribunal_sha_start), ("tribunal/sha.round", laid_tribunal_sha_round)] }
def ShaIsSaid : Prop := shaIsRow.holds Tryd.pinned (OpenSpec.ofChange shaIsSpec)

/-- ITS FALSE NEIGHBOUR: 'it returns false'. Refute it at one input. -/
def shaIsWrong : ChangeSpec := { name := "shaIs", fn := fun _ => fun
  | [d] => { results := [.lit (.bool false)], args := [d] }
  | _ => none }
def ShaIsWrongFalsely : Prop := shaIsRow.holds Tryd.pinned (OpenSpec.ofChange shaIsWrong)

/-- 'tribunallaw02.ShaEnds': WHATEVER THE INPUT: true; the input reads as it did. -/
def shaEndsSpec : ChangeSpec := { name := "shaEnds", fn := fun _ => fun
  | [d1, d2] => { results := [.lit (.bool true)], args := [d1, d2] }
  | _ => none }
def shaEndsRow : OpenClaim := { program := "ytnejeeeliioopaadoor", sum := "1affaf63c7d1d2b68d579b797ec4f4a819a7071fec9b0d08483664e12920c718", func := "tribunal/tribunallaw02.ShaEnds", spec := "shaEnds", named := ["tribunal/sha.start", "tribunal/sha.round"], apart := false, laid := [("tribunal/sha.start", laid_tribunal_sha_start), ("tribunal/sha.round", laid_tribunal_sha_round)] }
def ShaEndsSaid : Prop := shaEndsRow.holds Tryd.pinned (OpenSpec.ofChange shaEndsSpec)

/-- ITS FALSE NEIGHBOUR: 'it returns false'. Refute it at one input. -/
def shaEndsWrong : ChangeSpec := { name := "shaEnds", fn := fun _ => fun
  | [d1, d2] => { results := [.lit (.bool false)], args := [d1, d2] }
  | _ => none }
def ShaEndsWrongFalsely : Prop := shaEndsRow.holds Tryd.pinned (OpenSpec.ofChange shaEndsWrong)

/-- 'tribunallaw02.ShaHex': WHATEVER THE INPUT: true; the input reads as it did. -/
def shaHexSpec : ChangeSpec := { name := "shaHex", fn := fun _ => fun
  | [d1, d2] => { results := [.lit (.bool true)], args := [d1, d2] }
  | _ => none }
def shaHexRow : OpenClaim := { program := "ytnejeeeliioopaadoor", sum := "1affaf63c7d1d2b68d579b797ec4f4a819a7071fec9b0d08483664e12920c718", func := "tribunal/tribunallaw02.ShaHex", spec := "shaHex", named := ["tribunal/sha.start", "tribunal/sha.round"], apart := false, laid := [("tribunal/sha.start", laid_tribunal_sha_start), ("tribunal/sha.round", laid_tribunal_sha_round)] }
def ShaHexSaid : Prop := shaHexRow.holds Tryd.pinned (OpenSpec.ofChange shaHexSpec)

/-- ITS FALSE NEIGHBOUR: 'it returns false'. Refute it at one input. -/
def shaHexWrong : ChangeSpec := { name := "shaHex", fn := fun _ => fun
  | [d1, d2] => { results := [.lit (.bool false)], args := [d1, d2] }
  | _ => none }
def ShaHexWrongFalsely : Prop := shaHexRow.holds Tryd.pinned (OpenSpec.ofChange shaHexWrong)

/-- 'tribunallaw02.ShaParts': WHATEVER THE INPUT: true; the input reads as it did. -/
def shaPartsSpec : ChangeSpec := { name := "shaParts", fn := fun _ => fun
  | [d1, d2, d3, d4] => { results := [.lit (.bool true)], args := [d1, d2, d3, d4] }
  | _ => none }
def shaPartsRow : OpenClaim := { program := "ytnejeeeliioopaadoor", sum := "1affaf63c7d1d2b68d579b797ec4f4a819a7071fec9b0d08483664e12920c718", func := "tribunal/tribunallaw02.ShaParts", spec := "shaParts", named := ["tribunal/sha.start", "tribunal/sha.round"], apart := false, laid := [("tribunal/sha.start", laid_tribunal_sha_start), ("tribunal/sha.round", laid_tribunal_sha_round)] }
def ShaPartsSaid : Prop := shaPartsRow.holds Tryd.pinned (OpenSpec.ofChange shaPartsSpec)

/-- ITS FALSE NEIGHBOUR: 'it returns false'. Refute it at one input. -/
def shaPartsWrong : ChangeSpec := { name := "shaParts", fn := fun _ => fun
  | [d1, d2, d3, d4] => { results := [.lit (.bool false)], args := [d1, d2, d3, d4] }
  | _ => none }
def ShaPartsWrongFalsely : Prop := shaPartsRow.holds Tryd.pinned (OpenSpec.ofChange shaPartsWrong)

/-- 'tribunallaw02.ShaPurposes': WHATEVER THE INPUT: true; the input reads as it did. -/
def shaPurposesSpec : ChangeSpec := { name := "shaPurposes", fn := fun _ => fun
  | [d1, d2, d3] => { results := [.lit (.bool true)], args := [d1, d2, d3] }
  | _ => none }
def shaPurposesRow : OpenClaim := { program := "ytnejeeeliioopaadoor", sum := "1affaf63c7d1d2b68d579b797ec4f4a819a7071fec9b0d08483664e12920c718", func := "tribunal/tribunallaw02.ShaPurposes", spec := "shaPurposes", named := ["tribunal/sha.start", "tribunal/sha.round"], apart := false, laid := [("tribunal/sha.start", laid_tribunal_sha_start), ("tribunal/sha.round", laid_tribunal_sha_round)] }
def ShaPurposesSaid : Prop := shaPurposesRow.holds Tryd.pinned (OpenSpec.ofChange shaPurposesSpec)

/-- ITS FALSE NEIGHBOUR: 'it returns false'. Refute it at one input. -/
def shaPurposesWrong : ChangeSpec := { name := "shaPurposes", fn := fun _ => fun
  | [d1, d2, d3] => { results := [.lit (.bool false)], args := [d1, d2, d3] }
  | _ => none }
def ShaPurposesWrongFalsely : Prop := shaPurposesRow.holds Tryd.pinned (OpenSpec.ofChange shaPurposesWrong)

/-- 'tribunallaw02.ShaSums': WHATEVER THE INPUT: true; the input reads as it did. -/
def shaSumsSpec : ChangeSpec := { name := "shaSums", fn := fun _ => fun
  | [d1, d2, d3] => { results := [.lit (.bool true)], args := [d1, d2, d3] }
  | _ => none }
def shaSumsRow : OpenClaim := { program := "ytnejeeeliioopaadoor", sum := "1affaf63c7d1d2b68d579b797ec4f4a819a7071fec9b0d08483664e12920c718", func := "tribunal/tribunallaw02.ShaSums", spec := "shaSums", named := ["tribunal/sha.start", "tribunal/sha.round"], apart := false, laid := [("tribunal/sha.start", laid_tribunal_sha_start), ("tribunal/sha.round", laid_tribunal_sha_round)] }
def ShaSumsSaid : Prop := shaSumsRow.holds Tryd.pinned (OpenSpec.ofChange shaSumsSpec)

/-- ITS FALSE NEIGHBOUR: 'it returns false'. Refute it at one input. -/
def shaSumsWrong : ChangeSpec := { name := "shaSums", fn := fun _ => fun
  | [d1, d2, d3] => { results := [.lit (.bool false)], args := [d1, d2, d3] }
  | _ => none }
def ShaSumsWrongFalsely : Prop := shaSumsRow.holds Tryd.pinned (OpenSpec.ofChange shaSumsWrong)

/-- 'tribunallaw03.StepsWalk': WHATEVER THE INPUT: true; the input reads as it did. -/
def stepsWalkSpec : ChangeSpec := { name := "stepsWalk", fn := fun _ => fun
  | [d1, d2, d3, d4, d5] => { results := [.lit (.bool true)], args := [d1, d2, d3, d4, d5] }
  | _ => none }
def stepsWalkRow : OpenClaim := { program := "ytnejeeeliioopaadoor", sum := "1affaf63c7d1d2b68d579b797ec4f4a819a7071fec9b0d08483664e12920c718", func := "tribunal/tribunallaw03.StepsWalk", spec := "stepsWalk", named := ["tribunal/sha.start", "tribunal/sha.round"], apart := false, laid := [("tribunal/sha.start", laid_tribunal_sha_start), ("tribunal/sha.round", laid_tribunal_sha_round)] }
def StepsWalkSaid : Prop := stepsWalkRow.holds Tryd.pinned (OpenSpec.ofChange stepsWalkSpec)

/-- ITS FALSE NEIGHBOUR: 'it returns false'. Refute it at one input. -/
def stepsWalkWrong : ChangeSpec := { name := "stepsWalk", fn := fun _ => fun
  | [d1, d2, d3, d4, d5] => { results := [.lit (.bool false)], args := [d1, d2, d3, d4, d5] }
  | _ => none }
def StepsWalkWrongFalsely : Prop := stepsWalkRow.holds Tryd.pinned (OpenSpec.ofChange stepsWalkWrong)

/-- 'tribunallaw03.StepsDigits': WHATEVER THE INPUT: true; the input reads as it did. -/
def stepsDigitsSpec : ChangeSpec := { name := "stepsDigits", fn := fun _ => fun
  | [d] => { results := [.lit (.bool true)], args := [d] }
  | _ => none }
def stepsDigitsRow : OpenClaim := { program := "ytnejeeeliioopaadoor", sum := "1affaf63c7d1d2b68d579b797ec4f4a819a7071fec9b0d08483664e12920c718", func := "tribunal/tribunallaw03.StepsDigits", spec := "stepsDigits", named := ["tribunal/sha.start", "tribunal/sha.round"], apart := false, laid := [("tribunal/sha.start", laid_tribunal_sha_start), ("tribunal/sha.round", laid_tribunal_sha_round)] }
def StepsDigitsSaid : Prop := stepsDigitsRow.holds Tryd.pinned (OpenSpec.ofChange stepsDigitsSpec)

/-- ITS FALSE NEIGHBOUR: 'it returns false'. Refute it at one input. -/
def stepsDigitsWrong : ChangeSpec := { name := "stepsDigits", fn := fun _ => fun
  | [d] => { results := [.lit (.bool false)], args := [d] }
  | _ => none }
def StepsDigitsWrongFalsely : Prop := stepsDigitsRow.holds Tryd.pinned (OpenSpec.ofChange stepsDigitsWrong)

/-- 'tribunallaw03.StepsJoin': WHATEVER THE INPUT: true; the input reads as it did. -/
def stepsJoinSpec : ChangeSpec := { name := "stepsJoin", fn := fun _ => fun
  | [d1, d2, d3, d4, d5, d6] => { results := [.lit (.bool true)], args := [d1, d2, d3, d4, d5, d6] }
  | _ => none }
def stepsJoinRow : OpenClaim := { program := "ytnejeeeliioopaadoor", sum := "1affaf63c7d1d2b68d579b797ec4f4a819a7071fec9b0d08483664e12920c718", func := "tribunal/tribunallaw03.StepsJoin", spec := "stepsJoin", named := ["tribunal/sha.start", "tribunal/sha.round"], apart := false, laid := [("tribunal/sha.start", laid_tribunal_sha_start), ("tribunal/sha.round", laid_tribunal_sha_round)] }
def StepsJoinSaid : Prop := stepsJoinRow.holds Tryd.pinned (OpenSpec.ofChange stepsJoinSpec)

/-- ITS FALSE NEIGHBOUR: 'it returns false'. Refute it at one input. -/
def stepsJoinWrong : ChangeSpec := { name := "stepsJoin", fn := fun _ => fun
  | [d1, d2, d3, d4, d5, d6] => { results := [.lit (.bool false)], args := [d1, d2, d3, d4, d5, d6] }
  | _ => none }
def StepsJoinWrongFalsely : Prop := stepsJoinRow.holds Tryd.pinned (OpenSpec.ofChange stepsJoinWrong)

/-- 'tribunallaw03.StepsLess': WHATEVER THE INPUT: true; the input reads as it did. -/
def stepsLessSpec : ChangeSpec := { name := "stepsLess", fn := fun _ => fun
  | [d1, d2] => { results := [.lit (.bool true)], args := [d1, d2] }
  | _ => none }
def stepsLessRow : OpenClaim := { program := "ytnejeeeliioopaadoor", sum := "1affaf63c7d1d2b68d579b797ec4f4a819a7071fec9b0d08483664e12920c718", func := "tribunal/tribunallaw03.StepsLess", spec := "stepsLess", named := ["tribunal/sha.start", "tribunal/sha.round"], apart := false, laid := [("tribunal/sha.start", laid_tribunal_sha_start), ("tribunal/sha.round", laid_tribunal_sha_round)] }
def StepsLessSaid : Prop := stepsLessRow.holds Tryd.pinned (OpenSpec.ofChange stepsLessSpec)

/-- ITS FALSE NEIGHBOUR: 'it returns false'. Refute it at one input. -/
def stepsLessWrong : ChangeSpec := { name := "stepsLess", fn := fun _ => fun
  | [d1, d2] => { results := [.lit (.bool false)], args := [d1, d2] }
  | _ => none }
def StepsLessWrongFalsely : Prop := stepsLessRow.holds Tryd.pinned (OpenSpec.ofChange stepsLessWrong)

/-- 'tribunallaw03.StepsPlaces': WHATEVER THE INPUT: true; the input reads as it did. -/
def stepsPlacesSpec : ChangeSpec := { name := "stepsPlaces", fn := fun _ => fun
  | [d1, d2, d3, d4, d5] => { results := [.lit (.bool true)], args := [d1, d2, d3, d4, d5] }
  | _ => none }
def stepsPlacesRow : OpenClaim := { program := "ytnejeeeliioopaadoor", sum := "1affaf63c7d1d2b68d579b797ec4f4a819a7071fec9b0d08483664e12920c718", func := "tribunal/tribunallaw03.StepsPlaces", spec := "stepsPlaces", named := ["tribunal/sha.start", "tribunal/sha.round"], apart := false, laid := [("tribunal/sha.start", laid_tribunal_sha_start), ("tribunal/sha.round", laid_tribunal_sha_round)] }
def StepsPlacesSaid : Prop := stepsPlacesRow.holds Tryd.pinned (OpenSpec.ofChange stepsPlacesSpec)

/-- ITS FALSE NEIGHBOUR: 'it returns false'. Refute it at one input. -/
def stepsPlacesWrong : ChangeSpec := { name := "stepsPlaces", fn := fun _ => fun
  | [d1, d2, d3, d4, d5] => { results := [.lit (.bool false)], args := [d1, d2, d3, d4, d5] }
  | _ => none }
def StepsPlacesWrongFalsely : Prop := stepsPlacesRow.holds Tryd.pinned (OpenSpec.ofChange stepsPlacesWrong)

/- THE SECOND FORM. 'bulk': how many values and letters a reading holds, each counted each time it is reached (what is shared counts as often as it is met; a slice's spare places count too). A statement '..UptoSaid' is the law's where the arguments, and the package variables that the reading takes, are together of bulk at most 1048576: NARROWER than '..Said'. Prove '..Said' where nothing that the law and all that it calls make is longer than what came in: it says more and counts as full. Else prove '..UptoSaid'. A law counts once. -/
mutual
def uptoBulk {H : Type} : DataW H → Nat
  | .lit (.string bytes) => bytes.length + 1
  | .lit _ => 1
  | .nil => 1
  | .ptr d => uptoBulk d + 1
  | .slice elems spare => uptoBulkAll elems + uptoBulkAll spare + 1
  | .agg parts => uptoBulkAll parts + 1
  | .iface _ d => uptoBulk d + 1
  | .map entries => uptoBulkEntries entries + 1
  | .held _ => 1
def uptoBulkAll {H : Type} : List (DataW H) → Nat
  | [] => 0
  | d :: r => uptoBulk d + uptoBulkAll r
def uptoBulkEntries {H : Type} : List (Lit × DataW H) → Nat
  | [] => 0
  | x :: r => uptoBulkEntry x + uptoBulkEntries r
def uptoBulkEntry {H : Type} : Lit × DataW H → Nat
  | (.string bytes, d) => bytes.length + uptoBulk d + 1
  | (_, d) => uptoBulk d + 1
 end
def uptoSmall : (H : Type) → List (DataW H) → Bool := fun _ ds => decide (uptoBulkAll ds ≤ 1048576)
def OpenSpec.upto (s : _root_.Go.ChangeSpec) : _root_.Go.OpenSpec := { _root_.Go.OpenSpec.ofChange s with cond := some uptoSmall }

/-- 'tribunallaw02.ShaIs', WHERE WHAT IT READS IS OF BULK AT MOST 1048576: true; the input reads as it did. -/
def shaIsUptoRow : OpenClaim := { program := "ytnejeeeliioopaadoor", sum := "1affaf63c7d1d2b68d579b797ec4f4a819a7071fec9b0d08483664e12920c718", func := "tribunal/tribunallaw02.ShaIs", spec := "shaIs", named := ["tribunal/sha.start", "tribunal/sha.round"], apart := false, laid := [("tribunal/sha.start", laid_tribunal_sha_start), ("tribunal/sha.round", laid_tribunal_sha_round)], narrowed := true }
def ShaIsUptoSaid : Prop := shaIsUptoRow.holds Tryd.pinned (OpenSpec.upto shaIsSpec)

/-- 'tribunallaw02.ShaEnds', WHERE WHAT IT READS IS OF BULK AT MOST 1048576: true; the input reads as it did. -/
def shaEndsUptoRow : OpenClaim := { program := "ytnejeeeliioopaadoor", sum := "1affaf63c7d1d2b68d579b797ec4f4a819a7071fec9b0d08483664e12920c718", func := "tribunal/tribunallaw02.ShaEnds", spec := "shaEnds", named := ["tribunal/sha.start", "tribunal/sha.round"], apart := false, laid := [("tribunal/sha.start", laid_tribunal_sha_start), ("tribunal/sha.round", laid_tribunal_sha_round)], narrowed := true }
def ShaEndsUptoSaid : Prop := shaEndsUptoRow.holds Tryd.pinned (OpenSpec.upto shaEndsSpec)

/-- 'tribunallaw02.ShaHex', WHERE WHAT IT READS IS OF BULK AT MOST 1048576: true; the input reads as it did. -/
def shaHexUptoRow : OpenClaim := { program := "ytnejeeeliioopaadoor", sum := "1affaf63c7d1d2b68d579b797ec4f4a819a7071fec9b0d08483664e12920c718", func := "tribunal/tribunallaw02.ShaHex", spec := "shaHex", named := ["tribunal/sha.start", "tribunal/sha.round"], apart := false, laid := [("tribunal/sha.start", laid_tribunal_sha_start), ("tribunal/sha.round", laid_tribunal_sha_round)], narrowed := true }
def ShaHexUptoSaid : Prop := shaHexUptoRow.holds Tryd.pinned (OpenSpec.upto shaHexSpec)

/-- 'tribunallaw02.ShaParts', WHERE WHAT IT READS IS OF BULK AT MOST 1048576: true; the input reads as it did. -/
def shaPartsUptoRow : OpenClaim := { program := "ytnejeeeliioopaadoor", sum := "1affaf63c7d1d2b68d579b797ec4f4a819a7071fec9b0d08483664e12920c718", func := "tribunal/tribunallaw02.ShaParts", spec := "shaParts", named := ["tribunal/sha.start", "tribunal/sha.round"], apart := false, laid := [("tribunal/sha.start", laid_tribunal_sha_start), ("tribunal/sha.round", laid_tribunal_sha_round)], narrowed := true }
def ShaPartsUptoSaid : Prop := shaPartsUptoRow.holds Tryd.pinned (OpenSpec.upto shaPartsSpec)

/-- 'tribunallaw02.ShaPurposes', WHERE WHAT IT READS IS OF BULK AT MOST 1048576: true; the input reads as it did. -/
def shaPurposesUptoRow : OpenClaim := { program := "ytnejeeeliioopaadoor", sum := "1affaf63c7d1d2b68d579b797ec4f4a819a7071fec9b0d08483664e12920c718", func := "tribunal/tribunallaw02.ShaPurposes", spec := "shaPurposes", named := ["tribunal/sha.start", "tribunal/sha.round"], apart := false, laid := [("tribunal/sha.start", laid_tribunal_sha_start), ("tribunal/sha.round", laid_tribunal_sha_round)], narrowed := true }
def ShaPurposesUptoSaid : Prop := shaPurposesUptoRow.holds Tryd.pinned (OpenSpec.upto shaPurposesSpec)

/-- 'tribunallaw02.ShaSums', WHERE WHAT IT READS IS OF BULK AT MOST 1048576: true; the input reads as it did. -/
def shaSumsUptoRow : OpenClaim := { program := "ytnejeeeliioopaadoor", sum := "1affaf63c7d1d2b68d579b797ec4f4a819a7071fec9b0d08483664e12920c718", func := "tribunal/tribunallaw02.ShaSums", spec := "shaSums", named := ["tribunal/sha.start", "tribunal/sha.round"], apart := false, laid := [("tribunal/sha.start", laid_tribunal_sha_start), ("tribunal/sha.round", laid_tribunal_sha_round)], narrowed := true }
def ShaSumsUptoSaid : Prop := shaSumsUptoRow.holds Tryd.pinned (OpenSpec.upto shaSumsSpec)

/-- 'tribunallaw03.StepsWalk', WHERE WHAT IT READS IS OF BULK AT MOST 1048576: true; the input reads as it did. -/
def stepsWalkUptoRow : OpenClaim := { program := "ytnejeeeliioopaadoor", sum := "1affaf63c7d1d2b68d579b797ec4f4a819a7071fec9b0d08483664e12920c718", func := "tribunal/tribunallaw03.StepsWalk", spec := "stepsWalk", named := ["tribunal/sha.start", "tribunal/sha.round"], apart := false, laid := [("tribunal/sha.start", laid_tribunal_sha_start), ("tribunal/sha.round", laid_tribunal_sha_round)], narrowed := true }
def StepsWalkUptoSaid : Prop := stepsWalkUptoRow.holds Tryd.pinned (OpenSpec.upto stepsWalkSpec)

/-- 'tribunallaw03.StepsDigits', WHERE WHAT IT READS IS OF BULK AT MOST 1048576: true; the input reads as it did. -/
def stepsDigitsUptoRow : OpenClaim := { program := "ytnejeeeliioopaadoor", sum := "1affaf63c7d1d2b68d579b797ec4f4a819a7071fec9b0d08483664e12920c718", func := "tribunal/tribunallaw03.StepsDigits", spec := "stepsDigits", named := ["tribunal/sha.start", "tribunal/sha.round"], apart := false, laid := [("tribunal/sha.start", laid_tribunal_sha_start), ("tribunal/sha.round", laid_tribunal_sha_round)], narrowed := true }
def StepsDigitsUptoSaid : Prop := stepsDigitsUptoRow.holds Tryd.pinned (OpenSpec.upto stepsDigitsSpec)

/-- 'tribunallaw03.StepsJoin', WHERE WHAT IT READS IS OF BULK AT MOST 1048576: true; the input reads as it did. -/
def stepsJoinUptoRow : OpenClaim := { program := "ytnejeeeliioopaadoor", sum := "1affaf63c7d1d2b68d579b797ec4f4a819a7071fec9b0d08483664e12920c718", func := "tribunal/tribunallaw03.StepsJoin", spec := "stepsJoin", named := ["tribunal/sha.start", "tribunal/sha.round"], apart := false, laid := [("tribunal/sha.start", laid_tribunal_sha_start), ("tribunal/sha.round", laid_tribunal_sha_round)], narrowed := true }
def StepsJoinUptoSaid : Prop := stepsJoinUptoRow.holds Tryd.pinned (OpenSpec.upto stepsJoinSpec)

/-- 'tribunallaw03.StepsLess', WHERE WHAT IT READS IS OF BULK AT MOST 1048576: true; the input reads as it did. -/
def stepsLessUptoRow : OpenClaim := { program := "ytnejeeeliioopaadoor", sum := "1affaf63c7d1d2b68d579b797ec4f4a819a7071fec9b0d08483664e12920c718", func := "tribunal/tribunallaw03.StepsLess", spec := "stepsLess", named := ["tribunal/sha.start", "tribunal/sha.round"], apart := false, laid := [("tribunal/sha.start", laid_tribunal_sha_start), ("tribunal/sha.round", laid_tribunal_sha_round)], narrowed := true }
def StepsLessUptoSaid : Prop := stepsLessUptoRow.holds Tryd.pinned (OpenSpec.upto stepsLessSpec)

/-- 'tribunallaw03.StepsPlaces', WHERE WHAT IT READS IS OF BULK AT MOST 1048576: true; the input reads as it did. -/
def stepsPlacesUptoRow : OpenClaim := { program := "ytnejeeeliioopaadoor", sum := "1affaf63c7d1d2b68d579b797ec4f4a819a7071fec9b0d08483664e12920c718", func := "tribunal/tribunallaw03.StepsPlaces", spec := "stepsPlaces", named := ["tribunal/sha.start", "tribunal/sha.round"], apart := false, laid := [("tribunal/sha.start", laid_tribunal_sha_start), ("tribunal/sha.round", laid_tribunal_sha_round)], narrowed := true }
def StepsPlacesUptoSaid : Prop := stepsPlacesUptoRow.holds Tryd.pinned (OpenSpec.upto stepsPlacesSpec)

end Rows
end Go.Proofs.YtnejeeeliioopaaDoor
