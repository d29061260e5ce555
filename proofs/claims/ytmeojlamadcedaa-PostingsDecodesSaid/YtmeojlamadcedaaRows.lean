/-
  No cell of these rows narrows 'for every input' (looked for: loops, veiled, ifaces, maps, wideKeys, modest, calm, conditions, laid).
  DERIVED. THE GIVEN ROWS OF THIS SEAT. 24 by the template 'for every input the law returns true; each argument reads behind the call as it read before'; 0 by the template 'total and deterministic' (their statements: YtmeojlamadcedaaTotals.lean).
  GIVEN WITH THE SEED: the statements are not yours to turn. If you find one false, say at which input.
  Laid BY PROGRAM, IN A SANDBOX (cutbox-rows.mjs): the forced cells as the released guide's own fill.sh prints them over the translation 90dd7c462275cfc3… (all of the seat's roots in one cut). By AI agents, Wed Nov 11 2026. No macro, syntax, notation, axiom, sorry.
-/
import Derived.Test.YtmeojlamadcedaaChecked
import GoSem.Claim
import GoSem.ClaimJoined
import GoSem.ClaimMapViews
import Derived.JoinedTies
import Derived.KernelRfl
namespace Go.Proofs.Ytmeojlamadcedaa
/- THE CELL 'sum', in the pinned program and in every row, IS THE sha256 OF THE DUMP (.gsa) THAT YtmeojlamadcedaaProg.lean LOADS. Nothing in Lean hashes anything: it is a label: what it is worth is what the hold of that sum in a sandbox is worth. -/
noncomputable def Try.pinned : Pinned := { name := "ytmeojlamadcedaa", sum := "90dd7c462275cfc32332dd20954f4236ea09d6718455b25ec3e9f5bed23432ad", checked := Try.checked }
namespace Rows
def none {H : Type} : Left H := { results := [], args := [] }

/-- 'corporalaw03.ChecksumSums': WHATEVER THE INPUT: true; the input reads as it did. -/
def checksumSumsSpec : ChangeSpec := { name := "checksumSums", fn := fun _ => fun
  | [d] => { results := [.lit (.bool true)], args := [d] }
  | _ => none }
def checksumSumsRow : OpenClaim := { program := "ytmeojlamadcedaa", sum := "90dd7c462275cfc32332dd20954f4236ea09d6718455b25ec3e9f5bed23432ad", func := "corpora/corporalaw03.ChecksumSums", spec := "checksumSums", apart := false }
def ChecksumSumsSaid : Prop := checksumSumsRow.holds Try.pinned (OpenSpec.ofChange checksumSumsSpec)

/-- ITS FALSE NEIGHBOUR: 'it returns false'. Refute it at one input. -/
def checksumSumsWrong : ChangeSpec := { name := "checksumSums", fn := fun _ => fun
  | [d] => { results := [.lit (.bool false)], args := [d] }
  | _ => none }
def ChecksumSumsWrongFalsely : Prop := checksumSumsRow.holds Try.pinned (OpenSpec.ofChange checksumSumsWrong)

/-- 'corporalaw03.ChecksumLinear': WHATEVER THE INPUT: true; the input reads as it did. -/
def checksumLinearSpec : ChangeSpec := { name := "checksumLinear", fn := fun _ => fun
  | [d1, d2, d3] => { results := [.lit (.bool true)], args := [d1, d2, d3] }
  | _ => none }
def checksumLinearRow : OpenClaim := { program := "ytmeojlamadcedaa", sum := "90dd7c462275cfc32332dd20954f4236ea09d6718455b25ec3e9f5bed23432ad", func := "corpora/corporalaw03.ChecksumLinear", spec := "checksumLinear", apart := false }
def ChecksumLinearSaid : Prop := checksumLinearRow.holds Try.pinned (OpenSpec.ofChange checksumLinearSpec)

/-- ITS FALSE NEIGHBOUR: 'it returns false'. Refute it at one input. -/
def checksumLinearWrong : ChangeSpec := { name := "checksumLinear", fn := fun _ => fun
  | [d1, d2, d3] => { results := [.lit (.bool false)], args := [d1, d2, d3] }
  | _ => none }
def ChecksumLinearWrongFalsely : Prop := checksumLinearRow.holds Try.pinned (OpenSpec.ofChange checksumLinearWrong)

/-- 'corporalaw03.ChecksumSeals': WHATEVER THE INPUT: true; the input reads as it did. -/
def checksumSealsSpec : ChangeSpec := { name := "checksumSeals", fn := fun _ => fun
  | [d] => { results := [.lit (.bool true)], args := [d] }
  | _ => none }
def checksumSealsRow : OpenClaim := { program := "ytmeojlamadcedaa", sum := "90dd7c462275cfc32332dd20954f4236ea09d6718455b25ec3e9f5bed23432ad", func := "corpora/corporalaw03.ChecksumSeals", spec := "checksumSeals", apart := false }
def ChecksumSealsSaid : Prop := checksumSealsRow.holds Try.pinned (OpenSpec.ofChange checksumSealsSpec)

/-- ITS FALSE NEIGHBOUR: 'it returns false'. Refute it at one input. -/
def checksumSealsWrong : ChangeSpec := { name := "checksumSeals", fn := fun _ => fun
  | [d] => { results := [.lit (.bool false)], args := [d] }
  | _ => none }
def ChecksumSealsWrongFalsely : Prop := checksumSealsRow.holds Try.pinned (OpenSpec.ofChange checksumSealsWrong)

/-- 'corporalaw03.ChecksumUnseals': WHATEVER THE INPUT: true; the input reads as it did. -/
def checksumUnsealsSpec : ChangeSpec := { name := "checksumUnseals", fn := fun _ => fun
  | [d] => { results := [.lit (.bool true)], args := [d] }
  | _ => none }
def checksumUnsealsRow : OpenClaim := { program := "ytmeojlamadcedaa", sum := "90dd7c462275cfc32332dd20954f4236ea09d6718455b25ec3e9f5bed23432ad", func := "corpora/corporalaw03.ChecksumUnseals", spec := "checksumUnseals", apart := false }
def ChecksumUnsealsSaid : Prop := checksumUnsealsRow.holds Try.pinned (OpenSpec.ofChange checksumUnsealsSpec)

/-- ITS FALSE NEIGHBOUR: 'it returns false'. Refute it at one input. -/
def checksumUnsealsWrong : ChangeSpec := { name := "checksumUnseals", fn := fun _ => fun
  | [d] => { results := [.lit (.bool false)], args := [d] }
  | _ => none }
def ChecksumUnsealsWrongFalsely : Prop := checksumUnsealsRow.holds Try.pinned (OpenSpec.ofChange checksumUnsealsWrong)

/-- 'corporalaw03.ChecksumBursts': WHATEVER THE INPUT: true; the input reads as it did. -/
def checksumBurstsSpec : ChangeSpec := { name := "checksumBursts", fn := fun _ => fun
  | [d1, d2, d3] => { results := [.lit (.bool true)], args := [d1, d2, d3] }
  | _ => none }
def checksumBurstsRow : OpenClaim := { program := "ytmeojlamadcedaa", sum := "90dd7c462275cfc32332dd20954f4236ea09d6718455b25ec3e9f5bed23432ad", func := "corpora/corporalaw03.ChecksumBursts", spec := "checksumBursts", apart := false }
def ChecksumBurstsSaid : Prop := checksumBurstsRow.holds Try.pinned (OpenSpec.ofChange checksumBurstsSpec)

/-- ITS FALSE NEIGHBOUR: 'it returns false'. Refute it at one input. -/
def checksumBurstsWrong : ChangeSpec := { name := "checksumBursts", fn := fun _ => fun
  | [d1, d2, d3] => { results := [.lit (.bool false)], args := [d1, d2, d3] }
  | _ => none }
def ChecksumBurstsWrongFalsely : Prop := checksumBurstsRow.holds Try.pinned (OpenSpec.ofChange checksumBurstsWrong)

/-- 'corporalaw03.ChecksumCombines': WHATEVER THE INPUT: true; the input reads as it did. -/
def checksumCombinesSpec : ChangeSpec := { name := "checksumCombines", fn := fun _ => fun
  | [d1, d2] => { results := [.lit (.bool true)], args := [d1, d2] }
  | _ => none }
def checksumCombinesRow : OpenClaim := { program := "ytmeojlamadcedaa", sum := "90dd7c462275cfc32332dd20954f4236ea09d6718455b25ec3e9f5bed23432ad", func := "corpora/corporalaw03.ChecksumCombines", spec := "checksumCombines", apart := false }
def ChecksumCombinesSaid : Prop := checksumCombinesRow.holds Try.pinned (OpenSpec.ofChange checksumCombinesSpec)

/-- ITS FALSE NEIGHBOUR: 'it returns false'. Refute it at one input. -/
def checksumCombinesWrong : ChangeSpec := { name := "checksumCombines", fn := fun _ => fun
  | [d1, d2] => { results := [.lit (.bool false)], args := [d1, d2] }
  | _ => none }
def ChecksumCombinesWrongFalsely : Prop := checksumCombinesRow.holds Try.pinned (OpenSpec.ofChange checksumCombinesWrong)

/-- 'corporalaw17.PostingsEncodes': WHATEVER THE INPUT: true; the input reads as it did. -/
def postingsEncodesSpec : ChangeSpec := { name := "postingsEncodes", fn := fun _ => fun
  | [d1, d2] => { results := [.lit (.bool true)], args := [d1, d2] }
  | _ => none }
def postingsEncodesRow : OpenClaim := { program := "ytmeojlamadcedaa", sum := "90dd7c462275cfc32332dd20954f4236ea09d6718455b25ec3e9f5bed23432ad", func := "corpora/corporalaw17.PostingsEncodes", spec := "postingsEncodes", unfollowed := true, recurses := true, apart := false }
def PostingsEncodesSaid : Prop := postingsEncodesRow.holds Try.pinned (OpenSpec.ofChange postingsEncodesSpec)

/-- ITS FALSE NEIGHBOUR: 'it returns false'. Refute it at one input. -/
def postingsEncodesWrong : ChangeSpec := { name := "postingsEncodes", fn := fun _ => fun
  | [d1, d2] => { results := [.lit (.bool false)], args := [d1, d2] }
  | _ => none }
def PostingsEncodesWrongFalsely : Prop := postingsEncodesRow.holds Try.pinned (OpenSpec.ofChange postingsEncodesWrong)

/-- 'corporalaw03.ChecksumCombined': WHATEVER THE INPUT: true; the input reads as it did. -/
def checksumCombinedSpec : ChangeSpec := { name := "checksumCombined", fn := fun _ => fun
  | [d1, d2, d3] => { results := [.lit (.bool true)], args := [d1, d2, d3] }
  | _ => none }
def checksumCombinedRow : OpenClaim := { program := "ytmeojlamadcedaa", sum := "90dd7c462275cfc32332dd20954f4236ea09d6718455b25ec3e9f5bed23432ad", func := "corpora/corporalaw03.ChecksumCombined", spec := "checksumCombined", apart := false }
def ChecksumCombinedSaid : Prop := checksumCombinedRow.holds Try.pinned (OpenSpec.ofChange checksumCombinedSpec)

/-- ITS FALSE NEIGHBOUR: 'it returns false'. Refute it at one input. -/
def checksumCombinedWrong : ChangeSpec := { name := "checksumCombined", fn := fun _ => fun
  | [d1, d2, d3] => { results := [.lit (.bool false)], args := [d1, d2, d3] }
  | _ => none }
def ChecksumCombinedWrongFalsely : Prop := checksumCombinedRow.holds Try.pinned (OpenSpec.ofChange checksumCombinedWrong)

/-- 'corporalaw03.ChecksumChains': WHATEVER THE INPUT: true; the input reads as it did. -/
def checksumChainsSpec : ChangeSpec := { name := "checksumChains", fn := fun _ => fun
  | [d] => { results := [.lit (.bool true)], args := [d] }
  | _ => none }
def checksumChainsRow : OpenClaim := { program := "ytmeojlamadcedaa", sum := "90dd7c462275cfc32332dd20954f4236ea09d6718455b25ec3e9f5bed23432ad", func := "corpora/corporalaw03.ChecksumChains", spec := "checksumChains", apart := false }
def ChecksumChainsSaid : Prop := checksumChainsRow.holds Try.pinned (OpenSpec.ofChange checksumChainsSpec)

/-- ITS FALSE NEIGHBOUR: 'it returns false'. Refute it at one input. -/
def checksumChainsWrong : ChangeSpec := { name := "checksumChains", fn := fun _ => fun
  | [d] => { results := [.lit (.bool false)], args := [d] }
  | _ => none }
def ChecksumChainsWrongFalsely : Prop := checksumChainsRow.holds Try.pinned (OpenSpec.ofChange checksumChainsWrong)

/-- 'corporalaw17.PostingsDecodes': WHATEVER THE INPUT: true; the input reads as it did. -/
def postingsDecodesSpec : ChangeSpec := { name := "postingsDecodes", fn := fun _ => fun
  | [d] => { results := [.lit (.bool true)], args := [d] }
  | _ => none }
def postingsDecodesRow : OpenClaim := { program := "ytmeojlamadcedaa", sum := "90dd7c462275cfc32332dd20954f4236ea09d6718455b25ec3e9f5bed23432ad", func := "corpora/corporalaw17.PostingsDecodes", spec := "postingsDecodes", unfollowed := true, recurses := true, apart := false }
def PostingsDecodesSaid : Prop := postingsDecodesRow.holds Try.pinned (OpenSpec.ofChange postingsDecodesSpec)

/-- ITS FALSE NEIGHBOUR: 'it returns false'. Refute it at one input. -/
def postingsDecodesWrong : ChangeSpec := { name := "postingsDecodes", fn := fun _ => fun
  | [d] => { results := [.lit (.bool false)], args := [d] }
  | _ => none }
def PostingsDecodesWrongFalsely : Prop := postingsDecodesRow.holds Try.pinned (OpenSpec.ofChange postingsDecodesWrong)

/-- 'corporalaw18.ListsChecks': WHATEVER THE INPUT: true; the input reads as it did. -/
def listsChecksSpec : ChangeSpec := { name := "listsChecks", fn := fun _ => fun
  | [d] => { results := [.lit (.bool true)], args := [d] }
  | _ => none }
def listsChecksRow : OpenClaim := { program := "ytmeojlamadcedaa", sum := "90dd7c462275cfc32332dd20954f4236ea09d6718455b25ec3e9f5bed23432ad", func := "corpora/corporalaw18.ListsChecks", spec := "listsChecks", unfollowed := true, recurses := true, apart := false }
def ListsChecksSaid : Prop := listsChecksRow.holds Try.pinned (OpenSpec.ofChange listsChecksSpec)

/-- ITS FALSE NEIGHBOUR: 'it returns false'. Refute it at one input. -/
def listsChecksWrong : ChangeSpec := { name := "listsChecks", fn := fun _ => fun
  | [d] => { results := [.lit (.bool false)], args := [d] }
  | _ => none }
def ListsChecksWrongFalsely : Prop := listsChecksRow.holds Try.pinned (OpenSpec.ofChange listsChecksWrong)

/-- 'corporalaw18.ListsLimits': WHATEVER THE INPUT: true; the input reads as it did. -/
def listsLimitsSpec : ChangeSpec := { name := "listsLimits", fn := fun _ => fun
  | [d1, d2, d3] => { results := [.lit (.bool true)], args := [d1, d2, d3] }
  | _ => none }
def listsLimitsRow : OpenClaim := { program := "ytmeojlamadcedaa", sum := "90dd7c462275cfc32332dd20954f4236ea09d6718455b25ec3e9f5bed23432ad", func := "corpora/corporalaw18.ListsLimits", spec := "listsLimits", unfollowed := true, recurses := true, apart := false }
def ListsLimitsSaid : Prop := listsLimitsRow.holds Try.pinned (OpenSpec.ofChange listsLimitsSpec)

/-- ITS FALSE NEIGHBOUR: 'it returns false'. Refute it at one input. -/
def listsLimitsWrong : ChangeSpec := { name := "listsLimits", fn := fun _ => fun
  | [d1, d2, d3] => { results := [.lit (.bool false)], args := [d1, d2, d3] }
  | _ => none }
def ListsLimitsWrongFalsely : Prop := listsLimitsRow.holds Try.pinned (OpenSpec.ofChange listsLimitsWrong)

/-- 'corporalaw18.ListsMerges': WHATEVER THE INPUT: true; the input reads as it did. -/
def listsMergesSpec : ChangeSpec := { name := "listsMerges", fn := fun _ => fun
  | [d] => { results := [.lit (.bool true)], args := [d] }
  | _ => none }
def listsMergesRow : OpenClaim := { program := "ytmeojlamadcedaa", sum := "90dd7c462275cfc32332dd20954f4236ea09d6718455b25ec3e9f5bed23432ad", func := "corpora/corporalaw18.ListsMerges", spec := "listsMerges", unfollowed := true, recurses := true, apart := false }
def ListsMergesSaid : Prop := listsMergesRow.holds Try.pinned (OpenSpec.ofChange listsMergesSpec)

/-- ITS FALSE NEIGHBOUR: 'it returns false'. Refute it at one input. -/
def listsMergesWrong : ChangeSpec := { name := "listsMerges", fn := fun _ => fun
  | [d] => { results := [.lit (.bool false)], args := [d] }
  | _ => none }
def ListsMergesWrongFalsely : Prop := listsMergesRow.holds Try.pinned (OpenSpec.ofChange listsMergesWrong)

/-- 'corporalaw18.ListsPhrases': WHATEVER THE INPUT: true; the input reads as it did. -/
def listsPhrasesSpec : ChangeSpec := { name := "listsPhrases", fn := fun _ => fun
  | [d1, d2] => { results := [.lit (.bool true)], args := [d1, d2] }
  | _ => none }
def listsPhrasesRow : OpenClaim := { program := "ytmeojlamadcedaa", sum := "90dd7c462275cfc32332dd20954f4236ea09d6718455b25ec3e9f5bed23432ad", func := "corpora/corporalaw18.ListsPhrases", spec := "listsPhrases", unfollowed := true, recurses := true, apart := false }
def ListsPhrasesSaid : Prop := listsPhrasesRow.holds Try.pinned (OpenSpec.ofChange listsPhrasesSpec)

/-- ITS FALSE NEIGHBOUR: 'it returns false'. Refute it at one input. -/
def listsPhrasesWrong : ChangeSpec := { name := "listsPhrases", fn := fun _ => fun
  | [d1, d2] => { results := [.lit (.bool false)], args := [d1, d2] }
  | _ => none }
def ListsPhrasesWrongFalsely : Prop := listsPhrasesRow.holds Try.pinned (OpenSpec.ofChange listsPhrasesWrong)

/-- 'corporalaw18.ListsCombines': WHATEVER THE INPUT: true; the input reads as it did. -/
def listsCombinesSpec : ChangeSpec := { name := "listsCombines", fn := fun _ => fun
  | [d1, d2] => { results := [.lit (.bool true)], args := [d1, d2] }
  | _ => none }
def listsCombinesRow : OpenClaim := { program := "ytmeojlamadcedaa", sum := "90dd7c462275cfc32332dd20954f4236ea09d6718455b25ec3e9f5bed23432ad", func := "corpora/corporalaw18.ListsCombines", spec := "listsCombines", unfollowed := true, recurses := true, apart := false }
def ListsCombinesSaid : Prop := listsCombinesRow.holds Try.pinned (OpenSpec.ofChange listsCombinesSpec)

/-- ITS FALSE NEIGHBOUR: 'it returns false'. Refute it at one input. -/
def listsCombinesWrong : ChangeSpec := { name := "listsCombines", fn := fun _ => fun
  | [d1, d2] => { results := [.lit (.bool false)], args := [d1, d2] }
  | _ => none }
def ListsCombinesWrongFalsely : Prop := listsCombinesRow.holds Try.pinned (OpenSpec.ofChange listsCombinesWrong)

/-- 'corporalaw18.ListsBoolean': WHATEVER THE INPUT: true; the input reads as it did. -/
def listsBooleanSpec : ChangeSpec := { name := "listsBoolean", fn := fun _ => fun
  | [d1, d2, d3] => { results := [.lit (.bool true)], args := [d1, d2, d3] }
  | _ => none }
def listsBooleanRow : OpenClaim := { program := "ytmeojlamadcedaa", sum := "90dd7c462275cfc32332dd20954f4236ea09d6718455b25ec3e9f5bed23432ad", func := "corpora/corporalaw18.ListsBoolean", spec := "listsBoolean", unfollowed := true, recurses := true, apart := false }
def ListsBooleanSaid : Prop := listsBooleanRow.holds Try.pinned (OpenSpec.ofChange listsBooleanSpec)

/-- ITS FALSE NEIGHBOUR: 'it returns false'. Refute it at one input. -/
def listsBooleanWrong : ChangeSpec := { name := "listsBoolean", fn := fun _ => fun
  | [d1, d2, d3] => { results := [.lit (.bool false)], args := [d1, d2, d3] }
  | _ => none }
def ListsBooleanWrongFalsely : Prop := listsBooleanRow.holds Try.pinned (OpenSpec.ofChange listsBooleanWrong)

/-- 'corporalaw18.ListsShifts': WHATEVER THE INPUT: true; the input reads as it did. -/
def listsShiftsSpec : ChangeSpec := { name := "listsShifts", fn := fun _ => fun
  | [d1, d2, d3] => { results := [.lit (.bool true)], args := [d1, d2, d3] }
  | _ => none }
def listsShiftsRow : OpenClaim := { program := "ytmeojlamadcedaa", sum := "90dd7c462275cfc32332dd20954f4236ea09d6718455b25ec3e9f5bed23432ad", func := "corpora/corporalaw18.ListsShifts", spec := "listsShifts", unfollowed := true, recurses := true, apart := false }
def ListsShiftsSaid : Prop := listsShiftsRow.holds Try.pinned (OpenSpec.ofChange listsShiftsSpec)

/-- ITS FALSE NEIGHBOUR: 'it returns false'. Refute it at one input. -/
def listsShiftsWrong : ChangeSpec := { name := "listsShifts", fn := fun _ => fun
  | [d1, d2, d3] => { results := [.lit (.bool false)], args := [d1, d2, d3] }
  | _ => none }
def ListsShiftsWrongFalsely : Prop := listsShiftsRow.holds Try.pinned (OpenSpec.ofChange listsShiftsWrong)

/-- 'corporalaw18.ListsJoins': WHATEVER THE INPUT: true; the input reads as it did. -/
def listsJoinsSpec : ChangeSpec := { name := "listsJoins", fn := fun _ => fun
  | [d1, d2, d3] => { results := [.lit (.bool true)], args := [d1, d2, d3] }
  | _ => none }
def listsJoinsRow : OpenClaim := { program := "ytmeojlamadcedaa", sum := "90dd7c462275cfc32332dd20954f4236ea09d6718455b25ec3e9f5bed23432ad", func := "corpora/corporalaw18.ListsJoins", spec := "listsJoins", unfollowed := true, recurses := true, apart := false }
def ListsJoinsSaid : Prop := listsJoinsRow.holds Try.pinned (OpenSpec.ofChange listsJoinsSpec)

/-- ITS FALSE NEIGHBOUR: 'it returns false'. Refute it at one input. -/
def listsJoinsWrong : ChangeSpec := { name := "listsJoins", fn := fun _ => fun
  | [d1, d2, d3] => { results := [.lit (.bool false)], args := [d1, d2, d3] }
  | _ => none }
def ListsJoinsWrongFalsely : Prop := listsJoinsRow.holds Try.pinned (OpenSpec.ofChange listsJoinsWrong)

/-- 'corporalaw17.PostingsSeeks': WHATEVER THE INPUT: true; the input reads as it did. -/
def postingsSeeksSpec : ChangeSpec := { name := "postingsSeeks", fn := fun _ => fun
  | [d1, d2] => { results := [.lit (.bool true)], args := [d1, d2] }
  | _ => none }
def postingsSeeksRow : OpenClaim := { program := "ytmeojlamadcedaa", sum := "90dd7c462275cfc32332dd20954f4236ea09d6718455b25ec3e9f5bed23432ad", func := "corpora/corporalaw17.PostingsSeeks", spec := "postingsSeeks", unfollowed := true, recurses := true, apart := false }
def PostingsSeeksSaid : Prop := postingsSeeksRow.holds Try.pinned (OpenSpec.ofChange postingsSeeksSpec)

/-- ITS FALSE NEIGHBOUR: 'it returns false'. Refute it at one input. -/
def postingsSeeksWrong : ChangeSpec := { name := "postingsSeeks", fn := fun _ => fun
  | [d1, d2] => { results := [.lit (.bool false)], args := [d1, d2] }
  | _ => none }
def PostingsSeeksWrongFalsely : Prop := postingsSeeksRow.holds Try.pinned (OpenSpec.ofChange postingsSeeksWrong)

/-- 'corporalaw17.PostingsLimits': WHATEVER THE INPUT: true; the input reads as it did. -/
def postingsLimitsSpec : ChangeSpec := { name := "postingsLimits", fn := fun _ => fun
  | [d1, d2] => { results := [.lit (.bool true)], args := [d1, d2] }
  | _ => none }
def postingsLimitsRow : OpenClaim := { program := "ytmeojlamadcedaa", sum := "90dd7c462275cfc32332dd20954f4236ea09d6718455b25ec3e9f5bed23432ad", func := "corpora/corporalaw17.PostingsLimits", spec := "postingsLimits", unfollowed := true, recurses := true, apart := false }
def PostingsLimitsSaid : Prop := postingsLimitsRow.holds Try.pinned (OpenSpec.ofChange postingsLimitsSpec)

/-- ITS FALSE NEIGHBOUR: 'it returns false'. Refute it at one input. -/
def postingsLimitsWrong : ChangeSpec := { name := "postingsLimits", fn := fun _ => fun
  | [d1, d2] => { results := [.lit (.bool false)], args := [d1, d2] }
  | _ => none }
def PostingsLimitsWrongFalsely : Prop := postingsLimitsRow.holds Try.pinned (OpenSpec.ofChange postingsLimitsWrong)

/-- 'corporalaw17.PostingsReads': WHATEVER THE INPUT: true; the input reads as it did. -/
def postingsReadsSpec : ChangeSpec := { name := "postingsReads", fn := fun _ => fun
  | [d1, d2] => { results := [.lit (.bool true)], args := [d1, d2] }
  | _ => none }
def postingsReadsRow : OpenClaim := { program := "ytmeojlamadcedaa", sum := "90dd7c462275cfc32332dd20954f4236ea09d6718455b25ec3e9f5bed23432ad", func := "corpora/corporalaw17.PostingsReads", spec := "postingsReads", unfollowed := true, recurses := true, apart := false }
def PostingsReadsSaid : Prop := postingsReadsRow.holds Try.pinned (OpenSpec.ofChange postingsReadsSpec)

/-- ITS FALSE NEIGHBOUR: 'it returns false'. Refute it at one input. -/
def postingsReadsWrong : ChangeSpec := { name := "postingsReads", fn := fun _ => fun
  | [d1, d2] => { results := [.lit (.bool false)], args := [d1, d2] }
  | _ => none }
def PostingsReadsWrongFalsely : Prop := postingsReadsRow.holds Try.pinned (OpenSpec.ofChange postingsReadsWrong)

/-- 'corporalaw17.PostingsWalks': WHATEVER THE INPUT: true; the input reads as it did. -/
def postingsWalksSpec : ChangeSpec := { name := "postingsWalks", fn := fun _ => fun
  | [d] => { results := [.lit (.bool true)], args := [d] }
  | _ => none }
def postingsWalksRow : OpenClaim := { program := "ytmeojlamadcedaa", sum := "90dd7c462275cfc32332dd20954f4236ea09d6718455b25ec3e9f5bed23432ad", func := "corpora/corporalaw17.PostingsWalks", spec := "postingsWalks", unfollowed := true, recurses := true, apart := false }
def PostingsWalksSaid : Prop := postingsWalksRow.holds Try.pinned (OpenSpec.ofChange postingsWalksSpec)

/-- ITS FALSE NEIGHBOUR: 'it returns false'. Refute it at one input. -/
def postingsWalksWrong : ChangeSpec := { name := "postingsWalks", fn := fun _ => fun
  | [d] => { results := [.lit (.bool false)], args := [d] }
  | _ => none }
def PostingsWalksWrongFalsely : Prop := postingsWalksRow.holds Try.pinned (OpenSpec.ofChange postingsWalksWrong)

/-- 'corporalaw17.PostingsBuilds': WHATEVER THE INPUT: true; the input reads as it did. -/
def postingsBuildsSpec : ChangeSpec := { name := "postingsBuilds", fn := fun _ => fun
  | [d] => { results := [.lit (.bool true)], args := [d] }
  | _ => none }
def postingsBuildsRow : OpenClaim := { program := "ytmeojlamadcedaa", sum := "90dd7c462275cfc32332dd20954f4236ea09d6718455b25ec3e9f5bed23432ad", func := "corpora/corporalaw17.PostingsBuilds", spec := "postingsBuilds", unfollowed := true, recurses := true, apart := false }
def PostingsBuildsSaid : Prop := postingsBuildsRow.holds Try.pinned (OpenSpec.ofChange postingsBuildsSpec)

/-- ITS FALSE NEIGHBOUR: 'it returns false'. Refute it at one input. -/
def postingsBuildsWrong : ChangeSpec := { name := "postingsBuilds", fn := fun _ => fun
  | [d] => { results := [.lit (.bool false)], args := [d] }
  | _ => none }
def PostingsBuildsWrongFalsely : Prop := postingsBuildsRow.holds Try.pinned (OpenSpec.ofChange postingsBuildsWrong)

/-- 'corporalaw18.ListsPostings': WHATEVER THE INPUT: true; the input reads as it did. -/
def listsPostingsSpec : ChangeSpec := { name := "listsPostings", fn := fun _ => fun
  | [d1, d2] => { results := [.lit (.bool true)], args := [d1, d2] }
  | _ => none }
def listsPostingsRow : OpenClaim := { program := "ytmeojlamadcedaa", sum := "90dd7c462275cfc32332dd20954f4236ea09d6718455b25ec3e9f5bed23432ad", func := "corpora/corporalaw18.ListsPostings", spec := "listsPostings", unfollowed := true, recurses := true, apart := false }
def ListsPostingsSaid : Prop := listsPostingsRow.holds Try.pinned (OpenSpec.ofChange listsPostingsSpec)

/-- ITS FALSE NEIGHBOUR: 'it returns false'. Refute it at one input. -/
def listsPostingsWrong : ChangeSpec := { name := "listsPostings", fn := fun _ => fun
  | [d1, d2] => { results := [.lit (.bool false)], args := [d1, d2] }
  | _ => none }
def ListsPostingsWrongFalsely : Prop := listsPostingsRow.holds Try.pinned (OpenSpec.ofChange listsPostingsWrong)

/- THE SECOND FORM. 'bulk': how many values and letters a reading holds, each counted each time it is reached (what is shared counts as often as it is met; a slice's spare places count too). A statement '..UptoSaid' is the law's where the arguments, and the package variables that the reading takes, are together of bulk at most 1048576: NARROWER than '..Said'. Prove '..Said' where nothing that the law and all that it calls make is longer than what came in: it says more and counts as full. Else prove '..UptoSaid'. A law counts once. -/
mutual
def uptoBulk {H : Type} : DataW H → Nat
  | .lit (.string bytes) => bytes.length + 1
  | .lit _ => 1
  | .nil => 1
  | .ptr d => uptoBulk d + 1
  | .slice elems spare => uptoBulkAll elems + uptoBulkAll spare + 1
  | .agg parts => uptoBulkAll parts + 1
  | .iface _ d => uptoBulk d + 1
  | .map entries => uptoBulkEntries entries + 1
  | .held _ => 1
def uptoBulkAll {H : Type} : List (DataW H) → Nat
  | [] => 0
  | d :: r => uptoBulk d + uptoBulkAll r
def uptoBulkEntries {H : Type} : List (Lit × DataW H) → Nat
  | [] => 0
  | x :: r => uptoBulkEntry x + uptoBulkEntries r
def uptoBulkEntry {H : Type} : Lit × DataW H → Nat
  | (.string bytes, d) => bytes.length + uptoBulk d + 1
  | (_, d) => uptoBulk d + 1
 end
def uptoSmall : (H : Type) → List (DataW H) → Bool := fun _ ds => decide (uptoBulkAll ds ≤ 1048576)
def OpenSpec.upto (s : _root_.Go.ChangeSpec) : _root_.Go.OpenSpec := { _root_.Go.OpenSpec.ofChange s with cond := some uptoSmall }

/-- 'corporalaw03.ChecksumSums', WHERE WHAT IT READS IS OF BULK AT MOST 1048576: true; the input reads as it did. -/
def checksumSumsUptoRow : OpenClaim := { program := "ytmeojlamadcedaa", sum := "90dd7c462275cfc32332dd20954f4236ea09d6718455b25ec3e9f5bed23432ad", func := "corpora/corporalaw03.ChecksumSums", spec := "checksumSums", apart := false, narrowed := true }
def ChecksumSumsUptoSaid : Prop := checksumSumsUptoRow.holds Try.pinned (OpenSpec.upto checksumSumsSpec)

/-- 'corporalaw03.ChecksumLinear', WHERE WHAT IT READS IS OF BULK AT MOST 1048576: true; the input reads as it did. -/
def checksumLinearUptoRow : OpenClaim := { program := "ytmeojlamadcedaa", sum := "90dd7c462275cfc32332dd20954f4236ea09d6718455b25ec3e9f5bed23432ad", func := "corpora/corporalaw03.ChecksumLinear", spec := "checksumLinear", apart := false, narrowed := true }
def ChecksumLinearUptoSaid : Prop := checksumLinearUptoRow.holds Try.pinned (OpenSpec.upto checksumLinearSpec)

/-- 'corporalaw03.ChecksumSeals', WHERE WHAT IT READS IS OF BULK AT MOST 1048576: true; the input reads as it did. -/
def checksumSealsUptoRow : OpenClaim := { program := "ytmeojlamadcedaa", sum := "90dd7c462275cfc32332dd20954f4236ea09d6718455b25ec3e9f5bed23432ad", func := "corpora/corporalaw03.ChecksumSeals", spec := "checksumSeals", apart := false, narrowed := true }
def ChecksumSealsUptoSaid : Prop := checksumSealsUptoRow.holds Try.pinned (OpenSpec.upto checksumSealsSpec)

/-- 'corporalaw03.ChecksumUnseals', WHERE WHAT IT READS IS OF BULK AT MOST 1048576: true; the input reads as it did. -/
def checksumUnsealsUptoRow : OpenClaim := { program := "ytmeojlamadcedaa", sum := "90dd7c462275cfc32332dd20954f4236ea09d6718455b25ec3e9f5bed23432ad", func := "corpora/corporalaw03.ChecksumUnseals", spec := "checksumUnseals", apart := false, narrowed := true }
def ChecksumUnsealsUptoSaid : Prop := checksumUnsealsUptoRow.holds Try.pinned (OpenSpec.upto checksumUnsealsSpec)

/-- 'corporalaw03.ChecksumBursts', WHERE WHAT IT READS IS OF BULK AT MOST 1048576: true; the input reads as it did. -/
def checksumBurstsUptoRow : OpenClaim := { program := "ytmeojlamadcedaa", sum := "90dd7c462275cfc32332dd20954f4236ea09d6718455b25ec3e9f5bed23432ad", func := "corpora/corporalaw03.ChecksumBursts", spec := "checksumBursts", apart := false, narrowed := true }
def ChecksumBurstsUptoSaid : Prop := checksumBurstsUptoRow.holds Try.pinned (OpenSpec.upto checksumBurstsSpec)

/-- 'corporalaw03.ChecksumCombines', WHERE WHAT IT READS IS OF BULK AT MOST 1048576: true; the input reads as it did. -/
def checksumCombinesUptoRow : OpenClaim := { program := "ytmeojlamadcedaa", sum := "90dd7c462275cfc32332dd20954f4236ea09d6718455b25ec3e9f5bed23432ad", func := "corpora/corporalaw03.ChecksumCombines", spec := "checksumCombines", apart := false, narrowed := true }
def ChecksumCombinesUptoSaid : Prop := checksumCombinesUptoRow.holds Try.pinned (OpenSpec.upto checksumCombinesSpec)

/-- 'corporalaw17.PostingsEncodes', WHERE WHAT IT READS IS OF BULK AT MOST 1048576: true; the input reads as it did. -/
def postingsEncodesUptoRow : OpenClaim := { program := "ytmeojlamadcedaa", sum := "90dd7c462275cfc32332dd20954f4236ea09d6718455b25ec3e9f5bed23432ad", func := "corpora/corporalaw17.PostingsEncodes", spec := "postingsEncodes", unfollowed := true, recurses := true, apart := false, narrowed := true }
def PostingsEncodesUptoSaid : Prop := postingsEncodesUptoRow.holds Try.pinned (OpenSpec.upto postingsEncodesSpec)

/-- 'corporalaw03.ChecksumCombined', WHERE WHAT IT READS IS OF BULK AT MOST 1048576: true; the input reads as it did. -/
def checksumCombinedUptoRow : OpenClaim := { program := "ytmeojlamadcedaa", sum := "90dd7c462275cfc32332dd20954f4236ea09d6718455b25ec3e9f5bed23432ad", func := "corpora/corporalaw03.ChecksumCombined", spec := "checksumCombined", apart := false, narrowed := true }
def ChecksumCombinedUptoSaid : Prop := checksumCombinedUptoRow.holds Try.pinned (OpenSpec.upto checksumCombinedSpec)

/-- 'corporalaw03.ChecksumChains', WHERE WHAT IT READS IS OF BULK AT MOST 1048576: true; the input reads as it did. -/
def checksumChainsUptoRow : OpenClaim := { program := "ytmeojlamadcedaa", sum := "90dd7c462275cfc32332dd20954f4236ea09d6718455b25ec3e9f5bed23432ad", func := "corpora/corporalaw03.ChecksumChains", spec := "checksumChains", apart := false, narrowed := true }
def ChecksumChainsUptoSaid : Prop := checksumChainsUptoRow.holds Try.pinned (OpenSpec.upto checksumChainsSpec)

/-- 'corporalaw17.PostingsDecodes', WHERE WHAT IT READS IS OF BULK AT MOST 1048576: true; the input reads as it did. -/
def postingsDecodesUptoRow : OpenClaim := { program := "ytmeojlamadcedaa", sum := "90dd7c462275cfc32332dd20954f4236ea09d6718455b25ec3e9f5bed23432ad", func := "corpora/corporalaw17.PostingsDecodes", spec := "postingsDecodes", unfollowed := true, recurses := true, apart := false, narrowed := true }
def PostingsDecodesUptoSaid : Prop := postingsDecodesUptoRow.holds Try.pinned (OpenSpec.upto postingsDecodesSpec)

/-- 'corporalaw18.ListsChecks', WHERE WHAT IT READS IS OF BULK AT MOST 1048576: true; the input reads as it did. -/
def listsChecksUptoRow : OpenClaim := { program := "ytmeojlamadcedaa", sum := "90dd7c462275cfc32332dd20954f4236ea09d6718455b25ec3e9f5bed23432ad", func := "corpora/corporalaw18.ListsChecks", spec := "listsChecks", unfollowed := true, recurses := true, apart := false, narrowed := true }
def ListsChecksUptoSaid : Prop := listsChecksUptoRow.holds Try.pinned (OpenSpec.upto listsChecksSpec)

/-- 'corporalaw18.ListsLimits', WHERE WHAT IT READS IS OF BULK AT MOST 1048576: true; the input reads as it did. -/
def listsLimitsUptoRow : OpenClaim := { program := "ytmeojlamadcedaa", sum := "90dd7c462275cfc32332dd20954f4236ea09d6718455b25ec3e9f5bed23432ad", func := "corpora/corporalaw18.ListsLimits", spec := "listsLimits", unfollowed := true, recurses := true, apart := false, narrowed := true }
def ListsLimitsUptoSaid : Prop := listsLimitsUptoRow.holds Try.pinned (OpenSpec.upto listsLimitsSpec)

/-- 'corporalaw18.ListsMerges', WHERE WHAT IT READS IS OF BULK AT MOST 1048576: true; the input reads as it did. -/
def listsMergesUptoRow : OpenClaim := { program := "ytmeojlamadcedaa", sum := "90dd7c462275cfc32332dd20954f4236ea09d6718455b25ec3e9f5bed23432ad", func := "corpora/corporalaw18.ListsMerges", spec := "listsMerges", unfollowed := true, recurses := true, apart := false, narrowed := true }
def ListsMergesUptoSaid : Prop := listsMergesUptoRow.holds Try.pinned (OpenSpec.upto listsMergesSpec)

/-- 'corporalaw18.ListsPhrases', WHERE WHAT IT READS IS OF BULK AT MOST 1048576: true; the input reads as it did. -/
def listsPhrasesUptoRow : OpenClaim := { program := "ytmeojlamadcedaa", sum := "90dd7c462275cfc32332dd20954f4236ea09d6718455b25ec3e9f5bed23432ad", func := "corpora/corporalaw18.ListsPhrases", spec := "listsPhrases", unfollowed := true, recurses := true, apart := false, narrowed := true }
def ListsPhrasesUptoSaid : Prop := listsPhrasesUptoRow.holds Try.pinned (OpenSpec.upto listsPhrasesSpec)

/-- 'corporalaw18.ListsCombines', WHERE WHAT IT READS IS OF BULK AT MOST 1048576: true; the input reads as it did. -/
def listsCombinesUptoRow : OpenClaim := { program := "ytmeojlamadcedaa", sum := "90dd7c462275cfc32332dd20954f4236ea09d6718455b25ec3e9f5bed23432ad", func := "corpora/corporalaw18.ListsCombines", spec := "listsCombines", unfollowed := true, recurses := true, apart := false, narrowed := true }
def ListsCombinesUptoSaid : Prop := listsCombinesUptoRow.holds Try.pinned (OpenSpec.upto listsCombinesSpec)

/-- 'corporalaw18.ListsBoolean', WHERE WHAT IT READS IS OF BULK AT MOST 1048576: true; the input reads as it did. -/
def listsBooleanUptoRow : OpenClaim := { program := "ytmeojlamadcedaa", sum := "90dd7c462275cfc32332dd20954f4236ea09d6718455b25ec3e9f5bed23432ad", func := "corpora/corporalaw18.ListsBoolean", spec := "listsBoolean", unfollowed := true, recurses := true, apart := false, narrowed := true }
def ListsBooleanUptoSaid : Prop := listsBooleanUptoRow.holds Try.pinned (OpenSpec.upto listsBooleanSpec)

/-- 'corporalaw18.ListsShifts', WHERE WHAT IT READS IS OF BULK AT MOST 1048576: true; the input reads as it did. -/
def listsShiftsUptoRow : OpenClaim := { program := "ytmeojlamadcedaa", sum := "90dd7c462275cfc32332dd20954f4236ea09d6718455b25ec3e9f5bed23432ad", func := "corpora/corporalaw18.ListsShifts", spec := "listsShifts", unfollowed := true, recurses := true, apart := false, narrowed := true }
def ListsShiftsUptoSaid : Prop := listsShiftsUptoRow.holds Try.pinned (OpenSpec.upto listsShiftsSpec)

/-- 'corporalaw18.ListsJoins', WHERE WHAT IT READS IS OF BULK AT MOST 1048576: true; the input reads as it did. -/
def listsJoinsUptoRow : OpenClaim := { program := "ytmeojlamadcedaa", sum := "90dd7c462275cfc32332dd20954f4236ea09d6718455b25ec3e9f5bed23432ad", func := "corpora/corporalaw18.ListsJoins", spec := "listsJoins", unfollowed := true, recurses := true, apart := false, narrowed := true }
def ListsJoinsUptoSaid : Prop := listsJoinsUptoRow.holds Try.pinned (OpenSpec.upto listsJoinsSpec)

/-- 'corporalaw17.PostingsSeeks', WHERE WHAT IT READS IS OF BULK AT MOST 1048576: true; the input reads as it did. -/
def postingsSeeksUptoRow : OpenClaim := { program := "ytmeojlamadcedaa", sum := "90dd7c462275cfc32332dd20954f4236ea09d6718455b25ec3e9f5bed23432ad", func := "corpora/corporalaw17.PostingsSeeks", spec := "postingsSeeks", unfollowed := true, recurses := true, apart := false, narrowed := true }
def PostingsSeeksUptoSaid : Prop := postingsSeeksUptoRow.holds Try.pinned (OpenSpec.upto postingsSeeksSpec)

/-- 'corporalaw17.PostingsLimits', WHERE WHAT IT READS IS OF BULK AT MOST 1048576: true; the input reads as it did. -/
def postingsLimitsUptoRow : OpenClaim := { program := "ytmeojlamadcedaa", sum := "90dd7c462275cfc32332dd20954f4236ea09d6718455b25ec3e9f5bed23432ad", func := "corpora/corporalaw17.PostingsLimits", spec := "postingsLimits", unfollowed := true, recurses := true, apart := false, narrowed := true }
def PostingsLimitsUptoSaid : Prop := postingsLimitsUptoRow.holds Try.pinned (OpenSpec.upto postingsLimitsSpec)

/-- 'corporalaw17.PostingsReads', WHERE WHAT IT READS IS OF BULK AT MOST 1048576: true; the input reads as it did. -/
def postingsReadsUptoRow : OpenClaim := { program := "ytmeojlamadcedaa", sum := "90dd7c462275cfc32332dd20954f4236ea09d6718455b25ec3e9f5bed23432ad", func := "corpora/corporalaw17.PostingsReads", spec := "postingsReads", unfollowed := true, recurses := true, apart := false, narrowed := true }
def PostingsReadsUptoSaid : Prop := postingsReadsUptoRow.holds Try.pinned (OpenSpec.upto postingsReadsSpec)

/-- 'corporalaw17.PostingsWalks', WHERE WHAT IT READS IS OF BULK AT MOST 1048576: true; the input reads as it did. -/
def postingsWalksUptoRow : OpenClaim := { program := "ytmeojlamadcedaa", sum := "90dd7c462275cfc32332dd20954f4236ea09d6718455b25ec3e9f5bed23432ad", func := "corpora/corporalaw17.PostingsWalks", spec := "postingsWalks", unfollowed := true, recurses := true, apart := false, narrowed := true }
def PostingsWalksUptoSaid : Prop := postingsWalksUptoRow.holds Try.pinned (OpenSpec.upto postingsWalksSpec)

/-- 'corporalaw17.PostingsBuilds', WHERE WHAT IT READS IS OF BULK AT MOST 1048576: true; the input reads as it did. -/
def postingsBuildsUptoRow : OpenClaim := { program := "ytmeojlamadcedaa", sum := "90dd7c462275cfc32332dd20954f4236ea09d6718455b25ec3e9f5bed23432ad", func := "corpora/corporalaw17.PostingsBuilds", spec := "postingsBuilds", unfollowed := true, recurses := true, apart := false, narrowed := true }
def PostingsBuildsUptoSaid : Prop := postingsBuildsUptoRow.holds Try.pinned (OpenSpec.upto postingsBuildsSpec)

/-- 'corporalaw18.ListsPostings', WHERE WHAT IT READS IS OF BULK AT MOST 1048576: true; the input reads as it did. -/
def listsPostingsUptoRow : OpenClaim := { program := "ytmeojlamadcedaa", sum := "90dd7c462275cfc32332dd20954f4236ea09d6718455b25ec3e9f5bed23432ad", func := "corpora/corporalaw18.ListsPostings", spec := "listsPostings", unfollowed := true, recurses := true, apart := false, narrowed := true }
def ListsPostingsUptoSaid : Prop := listsPostingsUptoRow.holds Try.pinned (OpenSpec.upto listsPostingsSpec)

end Rows
end Go.Proofs.Ytmeojlamadcedaa
