/-
  No cell of these rows narrows 'for every input' (looked for: loops, veiled, ifaces, maps, wideKeys, modest, calm, conditions, laid).
  DERIVED. THE GIVEN ROWS OF THIS SEAT. 27 by the template 'for every input the law returns true; each argument reads behind the call as it read before'; 0 by the template 'total and deterministic' (their statements: YtahafepgmkiabaaTotals.lean).
  GIVEN WITH THE SEED: the statements are not yours to turn. If you find one false, say at which input.
  Laid BY PROGRAM, IN A SANDBOX (cutbox-rows.mjs): the forced cells as the released guide's own fill.sh prints them over the translation edbaa5dba919e9d6… (all of the seat's roots in one cut). By AI agents, Wed Nov 11 2026. No macro, syntax, notation, axiom, sorry.
-/
import Derived.Test.YtahafepgmkiabaaChecked
import GoSem.Claim
import GoSem.ClaimJoined
import GoSem.ClaimMapViews
import Derived.JoinedTies
import Derived.KernelRfl
namespace Go.Proofs.Ytahafepgmkiabaa
/- THE CELL 'sum', in the pinned program and in every row, IS THE sha256 OF THE DUMP (.gsa) THAT YtahafepgmkiabaaProg.lean LOADS. Nothing in Lean hashes anything: it is a label: what it is worth is what the hold of that sum in a sandbox is worth. -/
noncomputable def Try.pinned : Pinned := { name := "ytahafepgmkiabaa", sum := "edbaa5dba919e9d6321bce9d3a0810a185b48ff4ba12d6e6634b1666e5b4b62b", checked := Try.checked }
namespace Rows
def none {H : Type} : Left H := { results := [], args := [] }

/-- 'stemmalaw5.HuffCodes': WHATEVER THE INPUT: true; the input reads as it did. -/
def huffCodesSpec : ChangeSpec := { name := "huffCodes", fn := fun _ => fun
  | [d] => { results := [.lit (.bool true)], args := [d] }
  | _ => none }
def huffCodesRow : OpenClaim := { program := "ytahafepgmkiabaa", sum := "edbaa5dba919e9d6321bce9d3a0810a185b48ff4ba12d6e6634b1666e5b4b62b", func := "stemma/stemmalaw5.HuffCodes", spec := "huffCodes", apart := false }
def HuffCodesSaid : Prop := huffCodesRow.holds Try.pinned (OpenSpec.ofChange huffCodesSpec)

/-- ITS FALSE NEIGHBOUR: 'it returns false'. Refute it at one input. -/
def huffCodesWrong : ChangeSpec := { name := "huffCodes", fn := fun _ => fun
  | [d] => { results := [.lit (.bool false)], args := [d] }
  | _ => none }
def HuffCodesWrongFalsely : Prop := huffCodesRow.holds Try.pinned (OpenSpec.ofChange huffCodesWrong)

/-- 'stemmalaw5.HuffReads': WHATEVER THE INPUT: true; the input reads as it did. -/
def huffReadsSpec : ChangeSpec := { name := "huffReads", fn := fun _ => fun
  | [d1, d2] => { results := [.lit (.bool true)], args := [d1, d2] }
  | _ => none }
def huffReadsRow : OpenClaim := { program := "ytahafepgmkiabaa", sum := "edbaa5dba919e9d6321bce9d3a0810a185b48ff4ba12d6e6634b1666e5b4b62b", func := "stemma/stemmalaw5.HuffReads", spec := "huffReads", apart := false }
def HuffReadsSaid : Prop := huffReadsRow.holds Try.pinned (OpenSpec.ofChange huffReadsSpec)

/-- ITS FALSE NEIGHBOUR: 'it returns false'. Refute it at one input. -/
def huffReadsWrong : ChangeSpec := { name := "huffReads", fn := fun _ => fun
  | [d1, d2] => { results := [.lit (.bool false)], args := [d1, d2] }
  | _ => none }
def HuffReadsWrongFalsely : Prop := huffReadsRow.holds Try.pinned (OpenSpec.ofChange huffReadsWrong)

/-- 'stemmalaw3.SumParts': WHATEVER THE INPUT: true; the input reads as it did. -/
def sumPartsSpec : ChangeSpec := { name := "sumParts", fn := fun _ => fun
  | [d1, d2] => { results := [.lit (.bool true)], args := [d1, d2] }
  | _ => none }
def sumPartsRow : OpenClaim := { program := "ytahafepgmkiabaa", sum := "edbaa5dba919e9d6321bce9d3a0810a185b48ff4ba12d6e6634b1666e5b4b62b", func := "stemma/stemmalaw3.SumParts", spec := "sumParts", unfollowed := true, recurses := true, apart := false }
def SumPartsSaid : Prop := sumPartsRow.holds Try.pinned (OpenSpec.ofChange sumPartsSpec)

/-- ITS FALSE NEIGHBOUR: 'it returns false'. Refute it at one input. -/
def sumPartsWrong : ChangeSpec := { name := "sumParts", fn := fun _ => fun
  | [d1, d2] => { results := [.lit (.bool false)], args := [d1, d2] }
  | _ => none }
def SumPartsWrongFalsely : Prop := sumPartsRow.holds Try.pinned (OpenSpec.ofChange sumPartsWrong)

/-- 'stemmalaw3.SumIs': WHATEVER THE INPUT: true; the input reads as it did. -/
def sumIsSpec : ChangeSpec := { name := "sumIs", fn := fun _ => fun
  | [d] => { results := [.lit (.bool true)], args := [d] }
  | _ => none }
def sumIsRow : OpenClaim := { program := "ytahafepgmkiabaa", sum := "edbaa5dba919e9d6321bce9d3a0810a185b48ff4ba12d6e6634b1666e5b4b62b", func := "stemma/stemmalaw3.SumIs", spec := "sumIs", unfollowed := true, recurses := true, apart := false }
def SumIsSaid : Prop := sumIsRow.holds Try.pinned (OpenSpec.ofChange sumIsSpec)

/-- ITS FALSE NEIGHBOUR: 'it returns false'. Refute it at one input. -/
def sumIsWrong : ChangeSpec := { name := "sumIs", fn := fun _ => fun
  | [d] => { results := [.lit (.bool false)], args := [d] }
  | _ => none }
def SumIsWrongFalsely : Prop := sumIsRow.holds Try.pinned (OpenSpec.ofChange sumIsWrong)

/-- 'stemmalaw3.SumBursts': WHATEVER THE INPUT: true; the input reads as it did. -/
def sumBurstsSpec : ChangeSpec := { name := "sumBursts", fn := fun _ => fun
  | [d1, d2, d3] => { results := [.lit (.bool true)], args := [d1, d2, d3] }
  | _ => none }
def sumBurstsRow : OpenClaim := { program := "ytahafepgmkiabaa", sum := "edbaa5dba919e9d6321bce9d3a0810a185b48ff4ba12d6e6634b1666e5b4b62b", func := "stemma/stemmalaw3.SumBursts", spec := "sumBursts", unfollowed := true, recurses := true, apart := false }
def SumBurstsSaid : Prop := sumBurstsRow.holds Try.pinned (OpenSpec.ofChange sumBurstsSpec)

/-- ITS FALSE NEIGHBOUR: 'it returns false'. Refute it at one input. -/
def sumBurstsWrong : ChangeSpec := { name := "sumBursts", fn := fun _ => fun
  | [d1, d2, d3] => { results := [.lit (.bool false)], args := [d1, d2, d3] }
  | _ => none }
def SumBurstsWrongFalsely : Prop := sumBurstsRow.holds Try.pinned (OpenSpec.ofChange sumBurstsWrong)

/-- 'stemmalaw3.SumCuts': WHATEVER THE INPUT: true; the input reads as it did. -/
def sumCutsSpec : ChangeSpec := { name := "sumCuts", fn := fun _ => fun
  | [d1, d2] => { results := [.lit (.bool true)], args := [d1, d2] }
  | _ => none }
def sumCutsRow : OpenClaim := { program := "ytahafepgmkiabaa", sum := "edbaa5dba919e9d6321bce9d3a0810a185b48ff4ba12d6e6634b1666e5b4b62b", func := "stemma/stemmalaw3.SumCuts", spec := "sumCuts", unfollowed := true, recurses := true, apart := false }
def SumCutsSaid : Prop := sumCutsRow.holds Try.pinned (OpenSpec.ofChange sumCutsSpec)

/-- ITS FALSE NEIGHBOUR: 'it returns false'. Refute it at one input. -/
def sumCutsWrong : ChangeSpec := { name := "sumCuts", fn := fun _ => fun
  | [d1, d2] => { results := [.lit (.bool false)], args := [d1, d2] }
  | _ => none }
def SumCutsWrongFalsely : Prop := sumCutsRow.holds Try.pinned (OpenSpec.ofChange sumCutsWrong)

/-- 'stemmalaw6.InflateZlib': WHATEVER THE INPUT: true; the input reads as it did. -/
def inflateZlibSpec : ChangeSpec := { name := "inflateZlib", fn := fun _ => fun
  | [d1, d2] => { results := [.lit (.bool true)], args := [d1, d2] }
  | _ => none }
def inflateZlibRow : OpenClaim := { program := "ytahafepgmkiabaa", sum := "edbaa5dba919e9d6321bce9d3a0810a185b48ff4ba12d6e6634b1666e5b4b62b", func := "stemma/stemmalaw6.InflateZlib", spec := "inflateZlib", unfollowed := true, recurses := true, apart := false }
def InflateZlibSaid : Prop := inflateZlibRow.holds Try.pinned (OpenSpec.ofChange inflateZlibSpec)

/-- ITS FALSE NEIGHBOUR: 'it returns false'. Refute it at one input. -/
def inflateZlibWrong : ChangeSpec := { name := "inflateZlib", fn := fun _ => fun
  | [d1, d2] => { results := [.lit (.bool false)], args := [d1, d2] }
  | _ => none }
def InflateZlibWrongFalsely : Prop := inflateZlibRow.holds Try.pinned (OpenSpec.ofChange inflateZlibWrong)

/-- 'stemmalaw3.SumHex': WHATEVER THE INPUT: true; the input reads as it did. -/
def sumHexSpec : ChangeSpec := { name := "sumHex", fn := fun _ => fun
  | [d1, d2] => { results := [.lit (.bool true)], args := [d1, d2] }
  | _ => none }
def sumHexRow : OpenClaim := { program := "ytahafepgmkiabaa", sum := "edbaa5dba919e9d6321bce9d3a0810a185b48ff4ba12d6e6634b1666e5b4b62b", func := "stemma/stemmalaw3.SumHex", spec := "sumHex", unfollowed := true, recurses := true, apart := false }
def SumHexSaid : Prop := sumHexRow.holds Try.pinned (OpenSpec.ofChange sumHexSpec)

/-- ITS FALSE NEIGHBOUR: 'it returns false'. Refute it at one input. -/
def sumHexWrong : ChangeSpec := { name := "sumHex", fn := fun _ => fun
  | [d1, d2] => { results := [.lit (.bool false)], args := [d1, d2] }
  | _ => none }
def SumHexWrongFalsely : Prop := sumHexRow.holds Try.pinned (OpenSpec.ofChange sumHexWrong)

/-- 'stemmalaw18.SegmentBytes': WHATEVER THE INPUT: true; the input reads as it did. -/
def segmentBytesSpec : ChangeSpec := { name := "segmentBytes", fn := fun _ => fun
  | [d1, d2] => { results := [.lit (.bool true)], args := [d1, d2] }
  | _ => none }
def segmentBytesRow : OpenClaim := { program := "ytahafepgmkiabaa", sum := "edbaa5dba919e9d6321bce9d3a0810a185b48ff4ba12d6e6634b1666e5b4b62b", func := "stemma/stemmalaw18.SegmentBytes", spec := "segmentBytes", unfollowed := true, recurses := true, apart := false }
def SegmentBytesSaid : Prop := segmentBytesRow.holds Try.pinned (OpenSpec.ofChange segmentBytesSpec)

/-- ITS FALSE NEIGHBOUR: 'it returns false'. Refute it at one input. -/
def segmentBytesWrong : ChangeSpec := { name := "segmentBytes", fn := fun _ => fun
  | [d1, d2] => { results := [.lit (.bool false)], args := [d1, d2] }
  | _ => none }
def SegmentBytesWrongFalsely : Prop := segmentBytesRow.holds Try.pinned (OpenSpec.ofChange segmentBytesWrong)

/-- 'stemmalaw6.InflateBound': WHATEVER THE INPUT: true; the input reads as it did. -/
def inflateBoundSpec : ChangeSpec := { name := "inflateBound", fn := fun _ => fun
  | [d1, d2] => { results := [.lit (.bool true)], args := [d1, d2] }
  | _ => none }
def inflateBoundRow : OpenClaim := { program := "ytahafepgmkiabaa", sum := "edbaa5dba919e9d6321bce9d3a0810a185b48ff4ba12d6e6634b1666e5b4b62b", func := "stemma/stemmalaw6.InflateBound", spec := "inflateBound", unfollowed := true, recurses := true, apart := false }
def InflateBoundSaid : Prop := inflateBoundRow.holds Try.pinned (OpenSpec.ofChange inflateBoundSpec)

/-- ITS FALSE NEIGHBOUR: 'it returns false'. Refute it at one input. -/
def inflateBoundWrong : ChangeSpec := { name := "inflateBound", fn := fun _ => fun
  | [d1, d2] => { results := [.lit (.bool false)], args := [d1, d2] }
  | _ => none }
def InflateBoundWrongFalsely : Prop := inflateBoundRow.holds Try.pinned (OpenSpec.ofChange inflateBoundWrong)

/-- 'stemmalaw18.StreamWindow': WHATEVER THE INPUT: true; the input reads as it did. -/
def streamWindowSpec : ChangeSpec := { name := "streamWindow", fn := fun _ => fun
  | [d1, d2] => { results := [.lit (.bool true)], args := [d1, d2] }
  | _ => none }
def streamWindowRow : OpenClaim := { program := "ytahafepgmkiabaa", sum := "edbaa5dba919e9d6321bce9d3a0810a185b48ff4ba12d6e6634b1666e5b4b62b", func := "stemma/stemmalaw18.StreamWindow", spec := "streamWindow", unfollowed := true, recurses := true, apart := false }
def StreamWindowSaid : Prop := streamWindowRow.holds Try.pinned (OpenSpec.ofChange streamWindowSpec)

/-- ITS FALSE NEIGHBOUR: 'it returns false'. Refute it at one input. -/
def streamWindowWrong : ChangeSpec := { name := "streamWindow", fn := fun _ => fun
  | [d1, d2] => { results := [.lit (.bool false)], args := [d1, d2] }
  | _ => none }
def StreamWindowWrongFalsely : Prop := streamWindowRow.holds Try.pinned (OpenSpec.ofChange streamWindowWrong)

/-- 'stemmalaw5.HuffFlat': WHATEVER THE INPUT: true; the input reads as it did. -/
def huffFlatSpec : ChangeSpec := { name := "huffFlat", fn := fun _ => fun
  | [d1, d2, d3] => { results := [.lit (.bool true)], args := [d1, d2, d3] }
  | _ => none }
def huffFlatRow : OpenClaim := { program := "ytahafepgmkiabaa", sum := "edbaa5dba919e9d6321bce9d3a0810a185b48ff4ba12d6e6634b1666e5b4b62b", func := "stemma/stemmalaw5.HuffFlat", spec := "huffFlat", unfollowed := true, recurses := true, apart := false }
def HuffFlatSaid : Prop := huffFlatRow.holds Try.pinned (OpenSpec.ofChange huffFlatSpec)

/-- ITS FALSE NEIGHBOUR: 'it returns false'. Refute it at one input. -/
def huffFlatWrong : ChangeSpec := { name := "huffFlat", fn := fun _ => fun
  | [d1, d2, d3] => { results := [.lit (.bool false)], args := [d1, d2, d3] }
  | _ => none }
def HuffFlatWrongFalsely : Prop := huffFlatRow.holds Try.pinned (OpenSpec.ofChange huffFlatWrong)

/-- 'stemmalaw5.HuffLeast': WHATEVER THE INPUT: true; the input reads as it did. -/
def huffLeastSpec : ChangeSpec := { name := "huffLeast", fn := fun _ => fun
  | [d1, d2] => { results := [.lit (.bool true)], args := [d1, d2] }
  | _ => none }
def huffLeastRow : OpenClaim := { program := "ytahafepgmkiabaa", sum := "edbaa5dba919e9d6321bce9d3a0810a185b48ff4ba12d6e6634b1666e5b4b62b", func := "stemma/stemmalaw5.HuffLeast", spec := "huffLeast", unfollowed := true, recurses := true, apart := false }
def HuffLeastSaid : Prop := huffLeastRow.holds Try.pinned (OpenSpec.ofChange huffLeastSpec)

/-- ITS FALSE NEIGHBOUR: 'it returns false'. Refute it at one input. -/
def huffLeastWrong : ChangeSpec := { name := "huffLeast", fn := fun _ => fun
  | [d1, d2] => { results := [.lit (.bool false)], args := [d1, d2] }
  | _ => none }
def HuffLeastWrongFalsely : Prop := huffLeastRow.holds Try.pinned (OpenSpec.ofChange huffLeastWrong)

/-- 'stemmalaw5.HuffOften': WHATEVER THE INPUT: true; the input reads as it did. -/
def huffOftenSpec : ChangeSpec := { name := "huffOften", fn := fun _ => fun
  | [d1, d2] => { results := [.lit (.bool true)], args := [d1, d2] }
  | _ => none }
def huffOftenRow : OpenClaim := { program := "ytahafepgmkiabaa", sum := "edbaa5dba919e9d6321bce9d3a0810a185b48ff4ba12d6e6634b1666e5b4b62b", func := "stemma/stemmalaw5.HuffOften", spec := "huffOften", unfollowed := true, recurses := true, apart := false }
def HuffOftenSaid : Prop := huffOftenRow.holds Try.pinned (OpenSpec.ofChange huffOftenSpec)

/-- ITS FALSE NEIGHBOUR: 'it returns false'. Refute it at one input. -/
def huffOftenWrong : ChangeSpec := { name := "huffOften", fn := fun _ => fun
  | [d1, d2] => { results := [.lit (.bool false)], args := [d1, d2] }
  | _ => none }
def HuffOftenWrongFalsely : Prop := huffOftenRow.holds Try.pinned (OpenSpec.ofChange huffOftenWrong)

/-- 'stemmalaw18.StreamStrange': WHATEVER THE INPUT: true; the input reads as it did. -/
def streamStrangeSpec : ChangeSpec := { name := "streamStrange", fn := fun _ => fun
  | [d1, d2, d3] => { results := [.lit (.bool true)], args := [d1, d2, d3] }
  | _ => none }
def streamStrangeRow : OpenClaim := { program := "ytahafepgmkiabaa", sum := "edbaa5dba919e9d6321bce9d3a0810a185b48ff4ba12d6e6634b1666e5b4b62b", func := "stemma/stemmalaw18.StreamStrange", spec := "streamStrange", unfollowed := true, recurses := true, apart := false }
def StreamStrangeSaid : Prop := streamStrangeRow.holds Try.pinned (OpenSpec.ofChange streamStrangeSpec)

/-- ITS FALSE NEIGHBOUR: 'it returns false'. Refute it at one input. -/
def streamStrangeWrong : ChangeSpec := { name := "streamStrange", fn := fun _ => fun
  | [d1, d2, d3] => { results := [.lit (.bool false)], args := [d1, d2, d3] }
  | _ => none }
def StreamStrangeWrongFalsely : Prop := streamStrangeRow.holds Try.pinned (OpenSpec.ofChange streamStrangeWrong)

/-- 'stemmalaw18.StreamOrder': WHATEVER THE INPUT: true; the input reads as it did. -/
def streamOrderSpec : ChangeSpec := { name := "streamOrder", fn := fun _ => fun
  | [d] => { results := [.lit (.bool true)], args := [d] }
  | _ => none }
def streamOrderRow : OpenClaim := { program := "ytahafepgmkiabaa", sum := "edbaa5dba919e9d6321bce9d3a0810a185b48ff4ba12d6e6634b1666e5b4b62b", func := "stemma/stemmalaw18.StreamOrder", spec := "streamOrder", unfollowed := true, recurses := true, apart := false }
def StreamOrderSaid : Prop := streamOrderRow.holds Try.pinned (OpenSpec.ofChange streamOrderSpec)

/-- ITS FALSE NEIGHBOUR: 'it returns false'. Refute it at one input. -/
def streamOrderWrong : ChangeSpec := { name := "streamOrder", fn := fun _ => fun
  | [d] => { results := [.lit (.bool false)], args := [d] }
  | _ => none }
def StreamOrderWrongFalsely : Prop := streamOrderRow.holds Try.pinned (OpenSpec.ofChange streamOrderWrong)

/-- 'stemmalaw18.StreamPlays': WHATEVER THE INPUT: true; the input reads as it did. -/
def streamPlaysSpec : ChangeSpec := { name := "streamPlays", fn := fun _ => fun
  | [d1, d2] => { results := [.lit (.bool true)], args := [d1, d2] }
  | _ => none }
def streamPlaysRow : OpenClaim := { program := "ytahafepgmkiabaa", sum := "edbaa5dba919e9d6321bce9d3a0810a185b48ff4ba12d6e6634b1666e5b4b62b", func := "stemma/stemmalaw18.StreamPlays", spec := "streamPlays", unfollowed := true, recurses := true, apart := false }
def StreamPlaysSaid : Prop := streamPlaysRow.holds Try.pinned (OpenSpec.ofChange streamPlaysSpec)

/-- ITS FALSE NEIGHBOUR: 'it returns false'. Refute it at one input. -/
def streamPlaysWrong : ChangeSpec := { name := "streamPlays", fn := fun _ => fun
  | [d1, d2] => { results := [.lit (.bool false)], args := [d1, d2] }
  | _ => none }
def StreamPlaysWrongFalsely : Prop := streamPlaysRow.holds Try.pinned (OpenSpec.ofChange streamPlaysWrong)

/-- 'stemmalaw18.StreamEnds': WHATEVER THE INPUT: true; the input reads as it did. -/
def streamEndsSpec : ChangeSpec := { name := "streamEnds", fn := fun _ => fun
  | [d1, d2, d3, d4] => { results := [.lit (.bool true)], args := [d1, d2, d3, d4] }
  | _ => none }
def streamEndsRow : OpenClaim := { program := "ytahafepgmkiabaa", sum := "edbaa5dba919e9d6321bce9d3a0810a185b48ff4ba12d6e6634b1666e5b4b62b", func := "stemma/stemmalaw18.StreamEnds", spec := "streamEnds", unfollowed := true, recurses := true, apart := false }
def StreamEndsSaid : Prop := streamEndsRow.holds Try.pinned (OpenSpec.ofChange streamEndsSpec)

/-- ITS FALSE NEIGHBOUR: 'it returns false'. Refute it at one input. -/
def streamEndsWrong : ChangeSpec := { name := "streamEnds", fn := fun _ => fun
  | [d1, d2, d3, d4] => { results := [.lit (.bool false)], args := [d1, d2, d3, d4] }
  | _ => none }
def StreamEndsWrongFalsely : Prop := streamEndsRow.holds Try.pinned (OpenSpec.ofChange streamEndsWrong)

/-- 'stemmalaw5.HuffBack': WHATEVER THE INPUT: true; the input reads as it did. -/
def huffBackSpec : ChangeSpec := { name := "huffBack", fn := fun _ => fun
  | [d1, d2] => { results := [.lit (.bool true)], args := [d1, d2] }
  | _ => none }
def huffBackRow : OpenClaim := { program := "ytahafepgmkiabaa", sum := "edbaa5dba919e9d6321bce9d3a0810a185b48ff4ba12d6e6634b1666e5b4b62b", func := "stemma/stemmalaw5.HuffBack", spec := "huffBack", unfollowed := true, recurses := true, apart := false }
def HuffBackSaid : Prop := huffBackRow.holds Try.pinned (OpenSpec.ofChange huffBackSpec)

/-- ITS FALSE NEIGHBOUR: 'it returns false'. Refute it at one input. -/
def huffBackWrong : ChangeSpec := { name := "huffBack", fn := fun _ => fun
  | [d1, d2] => { results := [.lit (.bool false)], args := [d1, d2] }
  | _ => none }
def HuffBackWrongFalsely : Prop := huffBackRow.holds Try.pinned (OpenSpec.ofChange huffBackWrong)

/-- 'stemmalaw12.IdxFan': WHATEVER THE INPUT: true; the input reads as it did. -/
def idxFanSpec : ChangeSpec := { name := "idxFan", fn := fun _ => fun
  | [d1, d2] => { results := [.lit (.bool true)], args := [d1, d2] }
  | _ => none }
def idxFanRow : OpenClaim := { program := "ytahafepgmkiabaa", sum := "edbaa5dba919e9d6321bce9d3a0810a185b48ff4ba12d6e6634b1666e5b4b62b", func := "stemma/stemmalaw12.IdxFan", spec := "idxFan", inPlace := ["internal/bytealg.abigen_runtime_cmpstring"], unfollowed := true, recurses := true, apart := false }
def IdxFanSaid : Prop := idxFanRow.holds Try.pinned (OpenSpec.ofChange idxFanSpec)

/-- ITS FALSE NEIGHBOUR: 'it returns false'. Refute it at one input. -/
def idxFanWrong : ChangeSpec := { name := "idxFan", fn := fun _ => fun
  | [d1, d2] => { results := [.lit (.bool false)], args := [d1, d2] }
  | _ => none }
def IdxFanWrongFalsely : Prop := idxFanRow.holds Try.pinned (OpenSpec.ofChange idxFanWrong)

/-- 'stemmalaw12.IdxBuilds': WHATEVER THE INPUT: true; the input reads as it did. -/
def idxBuildsSpec : ChangeSpec := { name := "idxBuilds", fn := fun _ => fun
  | [d1, d2] => { results := [.lit (.bool true)], args := [d1, d2] }
  | _ => none }
def idxBuildsRow : OpenClaim := { program := "ytahafepgmkiabaa", sum := "edbaa5dba919e9d6321bce9d3a0810a185b48ff4ba12d6e6634b1666e5b4b62b", func := "stemma/stemmalaw12.IdxBuilds", spec := "idxBuilds", inPlace := ["internal/bytealg.abigen_runtime_cmpstring"], unfollowed := true, recurses := true, apart := false }
def IdxBuildsSaid : Prop := idxBuildsRow.holds Try.pinned (OpenSpec.ofChange idxBuildsSpec)

/-- ITS FALSE NEIGHBOUR: 'it returns false'. Refute it at one input. -/
def idxBuildsWrong : ChangeSpec := { name := "idxBuilds", fn := fun _ => fun
  | [d1, d2] => { results := [.lit (.bool false)], args := [d1, d2] }
  | _ => none }
def IdxBuildsWrongFalsely : Prop := idxBuildsRow.holds Try.pinned (OpenSpec.ofChange idxBuildsWrong)

/-- 'stemmalaw12.IdxParses': WHATEVER THE INPUT: true; the input reads as it did. -/
def idxParsesSpec : ChangeSpec := { name := "idxParses", fn := fun _ => fun
  | [d] => { results := [.lit (.bool true)], args := [d] }
  | _ => none }
def idxParsesRow : OpenClaim := { program := "ytahafepgmkiabaa", sum := "edbaa5dba919e9d6321bce9d3a0810a185b48ff4ba12d6e6634b1666e5b4b62b", func := "stemma/stemmalaw12.IdxParses", spec := "idxParses", inPlace := ["internal/bytealg.abigen_runtime_cmpstring"], unfollowed := true, recurses := true, apart := false }
def IdxParsesSaid : Prop := idxParsesRow.holds Try.pinned (OpenSpec.ofChange idxParsesSpec)

/-- ITS FALSE NEIGHBOUR: 'it returns false'. Refute it at one input. -/
def idxParsesWrong : ChangeSpec := { name := "idxParses", fn := fun _ => fun
  | [d] => { results := [.lit (.bool false)], args := [d] }
  | _ => none }
def IdxParsesWrongFalsely : Prop := idxParsesRow.holds Try.pinned (OpenSpec.ofChange idxParsesWrong)

/-- 'stemmalaw12.IdxBack': WHATEVER THE INPUT: true; the input reads as it did. -/
def idxBackSpec : ChangeSpec := { name := "idxBack", fn := fun _ => fun
  | [d1, d2, d3] => { results := [.lit (.bool true)], args := [d1, d2, d3] }
  | _ => none }
def idxBackRow : OpenClaim := { program := "ytahafepgmkiabaa", sum := "edbaa5dba919e9d6321bce9d3a0810a185b48ff4ba12d6e6634b1666e5b4b62b", func := "stemma/stemmalaw12.IdxBack", spec := "idxBack", inPlace := ["internal/bytealg.abigen_runtime_cmpstring"], unfollowed := true, recurses := true, apart := false }
def IdxBackSaid : Prop := idxBackRow.holds Try.pinned (OpenSpec.ofChange idxBackSpec)

/-- ITS FALSE NEIGHBOUR: 'it returns false'. Refute it at one input. -/
def idxBackWrong : ChangeSpec := { name := "idxBack", fn := fun _ => fun
  | [d1, d2, d3] => { results := [.lit (.bool false)], args := [d1, d2, d3] }
  | _ => none }
def IdxBackWrongFalsely : Prop := idxBackRow.holds Try.pinned (OpenSpec.ofChange idxBackWrong)

/-- 'stemmalaw6.InflateFixed': WHATEVER THE INPUT: true; the input reads as it did. -/
def inflateFixedSpec : ChangeSpec := { name := "inflateFixed", fn := fun _ => fun
  | [d] => { results := [.lit (.bool true)], args := [d] }
  | _ => none }
def inflateFixedRow : OpenClaim := { program := "ytahafepgmkiabaa", sum := "edbaa5dba919e9d6321bce9d3a0810a185b48ff4ba12d6e6634b1666e5b4b62b", func := "stemma/stemmalaw6.InflateFixed", spec := "inflateFixed", unfollowed := true, recurses := true, apart := false }
def InflateFixedSaid : Prop := inflateFixedRow.holds Try.pinned (OpenSpec.ofChange inflateFixedSpec)

/-- ITS FALSE NEIGHBOUR: 'it returns false'. Refute it at one input. -/
def inflateFixedWrong : ChangeSpec := { name := "inflateFixed", fn := fun _ => fun
  | [d] => { results := [.lit (.bool false)], args := [d] }
  | _ => none }
def InflateFixedWrongFalsely : Prop := inflateFixedRow.holds Try.pinned (OpenSpec.ofChange inflateFixedWrong)

/-- 'stemmalaw6.InflateMatches': WHATEVER THE INPUT: true; the input reads as it did. -/
def inflateMatchesSpec : ChangeSpec := { name := "inflateMatches", fn := fun _ => fun
  | [d1, d2, d3] => { results := [.lit (.bool true)], args := [d1, d2, d3] }
  | _ => none }
def inflateMatchesRow : OpenClaim := { program := "ytahafepgmkiabaa", sum := "edbaa5dba919e9d6321bce9d3a0810a185b48ff4ba12d6e6634b1666e5b4b62b", func := "stemma/stemmalaw6.InflateMatches", spec := "inflateMatches", unfollowed := true, recurses := true, apart := false }
def InflateMatchesSaid : Prop := inflateMatchesRow.holds Try.pinned (OpenSpec.ofChange inflateMatchesSpec)

/-- ITS FALSE NEIGHBOUR: 'it returns false'. Refute it at one input. -/
def inflateMatchesWrong : ChangeSpec := { name := "inflateMatches", fn := fun _ => fun
  | [d1, d2, d3] => { results := [.lit (.bool false)], args := [d1, d2, d3] }
  | _ => none }
def InflateMatchesWrongFalsely : Prop := inflateMatchesRow.holds Try.pinned (OpenSpec.ofChange inflateMatchesWrong)

/-- 'stemmalaw6.InflateBlocks': WHATEVER THE INPUT: true; the input reads as it did. -/
def inflateBlocksSpec : ChangeSpec := { name := "inflateBlocks", fn := fun _ => fun
  | [d1, d2] => { results := [.lit (.bool true)], args := [d1, d2] }
  | _ => none }
def inflateBlocksRow : OpenClaim := { program := "ytahafepgmkiabaa", sum := "edbaa5dba919e9d6321bce9d3a0810a185b48ff4ba12d6e6634b1666e5b4b62b", func := "stemma/stemmalaw6.InflateBlocks", spec := "inflateBlocks", unfollowed := true, recurses := true, apart := false }
def InflateBlocksSaid : Prop := inflateBlocksRow.holds Try.pinned (OpenSpec.ofChange inflateBlocksSpec)

/-- ITS FALSE NEIGHBOUR: 'it returns false'. Refute it at one input. -/
def inflateBlocksWrong : ChangeSpec := { name := "inflateBlocks", fn := fun _ => fun
  | [d1, d2] => { results := [.lit (.bool false)], args := [d1, d2] }
  | _ => none }
def InflateBlocksWrongFalsely : Prop := inflateBlocksRow.holds Try.pinned (OpenSpec.ofChange inflateBlocksWrong)

/-- 'stemmalaw6.InflateRaw': WHATEVER THE INPUT: true; the input reads as it did. -/
def inflateRawSpec : ChangeSpec := { name := "inflateRaw", fn := fun _ => fun
  | [d1, d2] => { results := [.lit (.bool true)], args := [d1, d2] }
  | _ => none }
def inflateRawRow : OpenClaim := { program := "ytahafepgmkiabaa", sum := "edbaa5dba919e9d6321bce9d3a0810a185b48ff4ba12d6e6634b1666e5b4b62b", func := "stemma/stemmalaw6.InflateRaw", spec := "inflateRaw", unfollowed := true, recurses := true, apart := false }
def InflateRawSaid : Prop := inflateRawRow.holds Try.pinned (OpenSpec.ofChange inflateRawSpec)

/-- ITS FALSE NEIGHBOUR: 'it returns false'. Refute it at one input. -/
def inflateRawWrong : ChangeSpec := { name := "inflateRaw", fn := fun _ => fun
  | [d1, d2] => { results := [.lit (.bool false)], args := [d1, d2] }
  | _ => none }
def InflateRawWrongFalsely : Prop := inflateRawRow.holds Try.pinned (OpenSpec.ofChange inflateRawWrong)

/- THE SECOND FORM. 'bulk': how many values and letters a reading holds, each counted each time it is reached (what is shared counts as often as it is met; a slice's spare places count too). A statement '..UptoSaid' is the law's where the arguments, and the package variables that the reading takes, are together of bulk at most 1048576: NARROWER than '..Said'. Prove '..Said' where nothing that the law and all that it calls make is longer than what came in: it says more and counts as full. Else prove '..UptoSaid'. A law counts once. -/
mutual
def uptoBulk {H : Type} : DataW H → Nat
  | .lit (.string bytes) => bytes.length + 1
  | .lit _ => 1
  | .nil => 1
  | .ptr d => uptoBulk d + 1
  | .slice elems spare => uptoBulkAll elems + uptoBulkAll spare + 1
  | .agg parts => uptoBulkAll parts + 1
  | .iface _ d => uptoBulk d + 1
  | .map entries => uptoBulkEntries entries + 1
  | .held _ => 1
def uptoBulkAll {H : Type} : List (DataW H) → Nat
  | [] => 0
  | d :: r => uptoBulk d + uptoBulkAll r
def uptoBulkEntries {H : Type} : List (Lit × DataW H) → Nat
  | [] => 0
  | x :: r => uptoBulkEntry x + uptoBulkEntries r
def uptoBulkEntry {H : Type} : Lit × DataW H → Nat
  | (.string bytes, d) => bytes.length + uptoBulk d + 1
  | (_, d) => uptoBulk d + 1
 end
def uptoSmall : (H : Type) → List (DataW H) → Bool := fun _ ds => decide (uptoBulkAll ds ≤ 1048576)
def OpenSpec.upto (s : _root_.Go.ChangeSpec) : _root_.Go.OpenSpec := { _root_.Go.OpenSpec.ofChange s with cond := some uptoSmall }

/-- 'stemmalaw5.HuffCodes', WHERE WHAT IT READS IS OF BULK AT MOST 1048576: true; the input reads as it did. -/
def huffCodesUptoRow : OpenClaim := { program := "ytahafepgmkiabaa", sum := "edbaa5dba919e9d6321bce9d3a0810a185b48ff4ba12d6e6634b1666e5b4b62b", func := "stemma/stemmalaw5.HuffCodes", spec := "huffCodes", apart := false, narrowed := true }
def HuffCodesUptoSaid : Prop := huffCodesUptoRow.holds Try.pinned (OpenSpec.upto huffCodesSpec)

/-- 'stemmalaw5.HuffReads', WHERE WHAT IT READS IS OF BULK AT MOST 1048576: true; the input reads as it did. -/
def huffReadsUptoRow : OpenClaim := { program := "ytahafepgmkiabaa", sum := "edbaa5dba919e9d6321bce9d3a0810a185b48ff4ba12d6e6634b1666e5b4b62b", func := "stemma/stemmalaw5.HuffReads", spec := "huffReads", apart := false, narrowed := true }
def HuffReadsUptoSaid : Prop := huffReadsUptoRow.holds Try.pinned (OpenSpec.upto huffReadsSpec)

/-- 'stemmalaw3.SumParts', WHERE WHAT IT READS IS OF BULK AT MOST 1048576: true; the input reads as it did. -/
def sumPartsUptoRow : OpenClaim := { program := "ytahafepgmkiabaa", sum := "edbaa5dba919e9d6321bce9d3a0810a185b48ff4ba12d6e6634b1666e5b4b62b", func := "stemma/stemmalaw3.SumParts", spec := "sumParts", unfollowed := true, recurses := true, apart := false, narrowed := true }
def SumPartsUptoSaid : Prop := sumPartsUptoRow.holds Try.pinned (OpenSpec.upto sumPartsSpec)

/-- 'stemmalaw3.SumIs', WHERE WHAT IT READS IS OF BULK AT MOST 1048576: true; the input reads as it did. -/
def sumIsUptoRow : OpenClaim := { program := "ytahafepgmkiabaa", sum := "edbaa5dba919e9d6321bce9d3a0810a185b48ff4ba12d6e6634b1666e5b4b62b", func := "stemma/stemmalaw3.SumIs", spec := "sumIs", unfollowed := true, recurses := true, apart := false, narrowed := true }
def SumIsUptoSaid : Prop := sumIsUptoRow.holds Try.pinned (OpenSpec.upto sumIsSpec)

/-- 'stemmalaw3.SumBursts', WHERE WHAT IT READS IS OF BULK AT MOST 1048576: true; the input reads as it did. -/
def sumBurstsUptoRow : OpenClaim := { program := "ytahafepgmkiabaa", sum := "edbaa5dba919e9d6321bce9d3a0810a185b48ff4ba12d6e6634b1666e5b4b62b", func := "stemma/stemmalaw3.SumBursts", spec := "sumBursts", unfollowed := true, recurses := true, apart := false, narrowed := true }
def SumBurstsUptoSaid : Prop := sumBurstsUptoRow.holds Try.pinned (OpenSpec.upto sumBurstsSpec)

/-- 'stemmalaw3.SumCuts', WHERE WHAT IT READS IS OF BULK AT MOST 1048576: true; the input reads as it did. -/
def sumCutsUptoRow : OpenClaim := { program := "ytahafepgmkiabaa", sum := "edbaa5dba919e9d6321bce9d3a0810a185b48ff4ba12d6e6634b1666e5b4b62b", func := "stemma/stemmalaw3.SumCuts", spec := "sumCuts", unfollowed := true, recurses := true, apart := false, narrowed := true }
def SumCutsUptoSaid : Prop := sumCutsUptoRow.holds Try.pinned (OpenSpec.upto sumCutsSpec)

/-- 'stemmalaw6.InflateZlib', WHERE WHAT IT READS IS OF BULK AT MOST 1048576: true; the input reads as it did. -/
def inflateZlibUptoRow : OpenClaim := { program := "ytahafepgmkiabaa", sum := "edbaa5dba919e9d6321bce9d3a0810a185b48ff4ba12d6e6634b1666e5b4b62b", func := "stemma/stemmalaw6.InflateZlib", spec := "inflateZlib", unfollowed := true, recurses := true, apart := false, narrowed := true }
def InflateZlibUptoSaid : Prop := inflateZlibUptoRow.holds Try.pinned (OpenSpec.upto inflateZlibSpec)

/-- 'stemmalaw3.SumHex', WHERE WHAT IT READS IS OF BULK AT MOST 1048576: true; the input reads as it did. -/
def sumHexUptoRow : OpenClaim := { program := "ytahafepgmkiabaa", sum := "edbaa5dba919e9d6321bce9d3a0810a185b48ff4ba12d6e6634b1666e5b4b62b", func := "stemma/stemmalaw3.SumHex", spec := "sumHex", unfollowed := true, recurses := true, apart := false, narrowed := true }
def SumHexUptoSaid : Prop := sumHexUptoRow.holds Try.pinned (OpenSpec.upto sumHexSpec)

/-- 'stemmalaw18.SegmentBytes', WHERE WHAT IT READS IS OF BULK AT MOST 1048576: true; the input reads as it did. -/
def segmentBytesUptoRow : OpenClaim := { program := "ytahafepgmkiabaa", sum := "edbaa5dba919e9d6321bce9d3a0810a185b48ff4ba12d6e6634b1666e5b4b62b", func := "stemma/stemmalaw18.SegmentBytes", spec := "segmentBytes", unfollowed := true, recurses := true, apart := false, narrowed := true }
def SegmentBytesUptoSaid : Prop := segmentBytesUptoRow.holds Try.pinned (OpenSpec.upto segmentBytesSpec)

/-- 'stemmalaw6.InflateBound', WHERE WHAT IT READS IS OF BULK AT MOST 1048576: true; the input reads as it did. -/
def inflateBoundUptoRow : OpenClaim := { program := "ytahafepgmkiabaa", sum := "edbaa5dba919e9d6321bce9d3a0810a185b48ff4ba12d6e6634b1666e5b4b62b", func := "stemma/stemmalaw6.InflateBound", spec := "inflateBound", unfollowed := true, recurses := true, apart := false, narrowed := true }
def InflateBoundUptoSaid : Prop := inflateBoundUptoRow.holds Try.pinned (OpenSpec.upto inflateBoundSpec)

/-- 'stemmalaw18.StreamWindow', WHERE WHAT IT READS IS OF BULK AT MOST 1048576: true; the input reads as it did. -/
def streamWindowUptoRow : OpenClaim := { program := "ytahafepgmkiabaa", sum := "edbaa5dba919e9d6321bce9d3a0810a185b48ff4ba12d6e6634b1666e5b4b62b", func := "stemma/stemmalaw18.StreamWindow", spec := "streamWindow", unfollowed := true, recurses := true, apart := false, narrowed := true }
def StreamWindowUptoSaid : Prop := streamWindowUptoRow.holds Try.pinned (OpenSpec.upto streamWindowSpec)

/-- 'stemmalaw5.HuffFlat', WHERE WHAT IT READS IS OF BULK AT MOST 1048576: true; the input reads as it did. -/
def huffFlatUptoRow : OpenClaim := { program := "ytahafepgmkiabaa", sum := "edbaa5dba919e9d6321bce9d3a0810a185b48ff4ba12d6e6634b1666e5b4b62b", func := "stemma/stemmalaw5.HuffFlat", spec := "huffFlat", unfollowed := true, recurses := true, apart := false, narrowed := true }
def HuffFlatUptoSaid : Prop := huffFlatUptoRow.holds Try.pinned (OpenSpec.upto huffFlatSpec)

/-- 'stemmalaw5.HuffLeast', WHERE WHAT IT READS IS OF BULK AT MOST 1048576: true; the input reads as it did. -/
def huffLeastUptoRow : OpenClaim := { program := "ytahafepgmkiabaa", sum := "edbaa5dba919e9d6321bce9d3a0810a185b48ff4ba12d6e6634b1666e5b4b62b", func := "stemma/stemmalaw5.HuffLeast", spec := "huffLeast", unfollowed := true, recurses := true, apart := false, narrowed := true }
def HuffLeastUptoSaid : Prop := huffLeastUptoRow.holds Try.pinned (OpenSpec.upto huffLeastSpec)

/-- 'stemmalaw5.HuffOften', WHERE WHAT IT READS IS OF BULK AT MOST 1048576: true; the input reads as it did. -/
def huffOftenUptoRow : OpenClaim := { program := "ytahafepgmkiabaa", sum := "edbaa5dba919e9d6321bce9d3a0810a185b48ff4ba12d6e6634b1666e5b4b62b", func := "stemma/stemmalaw5.HuffOften", spec := "huffOften", unfollowed := true, recurses := true, apart := false, narrowed := true }
def HuffOftenUptoSaid : Prop := huffOftenUptoRow.holds Try.pinned (OpenSpec.upto huffOftenSpec)

/-- 'stemmalaw18.StreamStrange', WHERE WHAT IT READS IS OF BULK AT MOST 1048576: true; the input reads as it did. -/
def streamStrangeUptoRow : OpenClaim := { program := "ytahafepgmkiabaa", sum := "edbaa5dba919e9d6321bce9d3a0810a185b48ff4ba12d6e6634b1666e5b4b62b", func := "stemma/stemmalaw18.StreamStrange", spec := "streamStrange", unfollowed := true, recurses := true, apart := false, narrowed := true }
def StreamStrangeUptoSaid : Prop := streamStrangeUptoRow.holds Try.pinned (OpenSpec.upto streamStrangeSpec)

/-- 'stemmalaw18.StreamOrder', WHERE WHAT IT READS IS OF BULK AT MOST 1048576: true; the input reads as it did. -/
def streamOrderUptoRow : OpenClaim := { program := "ytahafepgmkiabaa", sum := "edbaa5dba919e9d6321bce9d3a0810a185b48ff4ba12d6e6634b1666e5b4b62b", func := "stemma/stemmalaw18.StreamOrder", spec := "streamOrder", unfollowed := true, recurses := true, apart := false, narrowed := true }
def StreamOrderUptoSaid : Prop := streamOrderUptoRow.holds Try.pinned (OpenSpec.upto streamOrderSpec)

/-- 'stemmalaw18.StreamPlays', WHERE WHAT IT READS IS OF BULK AT MOST 1048576: true; the input reads as it did. -/
def streamPlaysUptoRow : OpenClaim := { program := "ytahafepgmkiabaa", sum := "edbaa5dba919e9d6321bce9d3a0810a185b48ff4ba12d6e6634b1666e5b4b62b", func := "stemma/stemmalaw18.StreamPlays", spec := "streamPlays", unfollowed := true, recurses := true, apart := false, narrowed := true }
def StreamPlaysUptoSaid : Prop := streamPlaysUptoRow.holds Try.pinned (OpenSpec.upto streamPlaysSpec)

/-- 'stemmalaw18.StreamEnds', WHERE WHAT IT READS IS OF BULK AT MOST 1048576: true; the input reads as it did. -/
def streamEndsUptoRow : OpenClaim := { program := "ytahafepgmkiabaa", sum := "edbaa5dba919e9d6321bce9d3a0810a185b48ff4ba12d6e6634b1666e5b4b62b", func := "stemma/stemmalaw18.StreamEnds", spec := "streamEnds", unfollowed := true, recurses := true, apart := false, narrowed := true }
def StreamEndsUptoSaid : Prop := streamEndsUptoRow.holds Try.pinned (OpenSpec.upto streamEndsSpec)

/-- 'stemmalaw5.HuffBack', WHERE WHAT IT READS IS OF BULK AT MOST 1048576: true; the input reads as it did. -/
def huffBackUptoRow : OpenClaim := { program := "ytahafepgmkiabaa", sum := "edbaa5dba919e9d6321bce9d3a0810a185b48ff4ba12d6e6634b1666e5b4b62b", func := "stemma/stemmalaw5.HuffBack", spec := "huffBack", unfollowed := true, recurses := true, apart := false, narrowed := true }
def HuffBackUptoSaid : Prop := huffBackUptoRow.holds Try.pinned (OpenSpec.upto huffBackSpec)

/-- 'stemmalaw12.IdxFan', WHERE WHAT IT READS IS OF BULK AT MOST 1048576: true; the input reads as it did. -/
def idxFanUptoRow : OpenClaim := { program := "ytahafepgmkiabaa", sum := "edbaa5dba919e9d6321bce9d3a0810a185b48ff4ba12d6e6634b1666e5b4b62b", func := "stemma/stemmalaw12.IdxFan", spec := "idxFan", inPlace := ["internal/bytealg.abigen_runtime_cmpstring"], unfollowed := true, recurses := true, apart := false, narrowed := true }
def IdxFanUptoSaid : Prop := idxFanUptoRow.holds Try.pinned (OpenSpec.upto idxFanSpec)

/-- 'stemmalaw12.IdxBuilds', WHERE WHAT IT READS IS OF BULK AT MOST 1048576: true; the input reads as it did. -/
def idxBuildsUptoRow : OpenClaim := { program := "ytahafepgmkiabaa", sum := "edbaa5dba919e9d6321bce9d3a0810a185b48ff4ba12d6e6634b1666e5b4b62b", func := "stemma/stemmalaw12.IdxBuilds", spec := "idxBuilds", inPlace := ["internal/bytealg.abigen_runtime_cmpstring"], unfollowed := true, recurses := true, apart := false, narrowed := true }
def IdxBuildsUptoSaid : Prop := idxBuildsUptoRow.holds Try.pinned (OpenSpec.upto idxBuildsSpec)

/-- 'stemmalaw12.IdxParses', WHERE WHAT IT READS IS OF BULK AT MOST 1048576: true; the input reads as it did. -/
def idxParsesUptoRow : OpenClaim := { program := "ytahafepgmkiabaa", sum := "edbaa5dba919e9d6321bce9d3a0810a185b48ff4ba12d6e6634b1666e5b4b62b", func := "stemma/stemmalaw12.IdxParses", spec := "idxParses", inPlace := ["internal/bytealg.abigen_runtime_cmpstring"], unfollowed := true, recurses := true, apart := false, narrowed := true }
def IdxParsesUptoSaid : Prop := idxParsesUptoRow.holds Try.pinned (OpenSpec.upto idxParsesSpec)

/-- 'stemmalaw12.IdxBack', WHERE WHAT IT READS IS OF BULK AT MOST 1048576: true; the input reads as it did. -/
def idxBackUptoRow : OpenClaim := { program := "ytahafepgmkiabaa", sum := "edbaa5dba919e9d6321bce9d3a0810a185b48ff4ba12d6e6634b1666e5b4b62b", func := "stemma/stemmalaw12.IdxBack", spec := "idxBack", inPlace := ["internal/bytealg.abigen_runtime_cmpstring"], unfollowed := true, recurses := true, apart := false, narrowed := true }
def IdxBackUptoSaid : Prop := idxBackUptoRow.holds Try.pinned (OpenSpec.upto idxBackSpec)

/-- 'stemmalaw6.InflateFixed', WHERE WHAT IT READS IS OF BULK AT MOST 1048576: true; the input reads as it did. -/
def inflateFixedUptoRow : OpenClaim := { program := "ytahafepgmkiabaa", sum := "edbaa5dba919e9d6321bce9d3a0810a185b48ff4ba12d6e6634b1666e5b4b62b", func := "stemma/stemmalaw6.InflateFixed", spec := "inflateFixed", unfollowed := true, recurses := true, apart := false, narrowed := true }
def InflateFixedUptoSaid : Prop := inflateFixedUptoRow.holds Try.pinned (OpenSpec.upto inflateFixedSpec)

/-- 'stemmalaw6.InflateMatches', WHERE WHAT IT READS IS OF BULK AT MOST 1048576: true; the input reads as it did. -/
def inflateMatchesUptoRow : OpenClaim := { program := "ytahafepgmkiabaa", sum := "edbaa5dba919e9d6321bce9d3a0810a185b48ff4ba12d6e6634b1666e5b4b62b", func := "stemma/stemmalaw6.InflateMatches", spec := "inflateMatches", unfollowed := true, recurses := true, apart := false, narrowed := true }
def InflateMatchesUptoSaid : Prop := inflateMatchesUptoRow.holds Try.pinned (OpenSpec.upto inflateMatchesSpec)

/-- 'stemmalaw6.InflateBlocks', WHERE WHAT IT READS IS OF BULK AT MOST 1048576: true; the input reads as it did. -/
def inflateBlocksUptoRow : OpenClaim := { program := "ytahafepgmkiabaa", sum := "edbaa5dba919e9d6321bce9d3a0810a185b48ff4ba12d6e6634b1666e5b4b62b", func := "stemma/stemmalaw6.InflateBlocks", spec := "inflateBlocks", unfollowed := true, recurses := true, apart := false, narrowed := true }
def InflateBlocksUptoSaid : Prop := inflateBlocksUptoRow.holds Try.pinned (OpenSpec.upto inflateBlocksSpec)

/-- 'stemmalaw6.InflateRaw', WHERE WHAT IT READS IS OF BULK AT MOST 1048576: true; the input reads as it did. -/
def inflateRawUptoRow : OpenClaim := { program := "ytahafepgmkiabaa", sum := "edbaa5dba919e9d6321bce9d3a0810a185b48ff4ba12d6e6634b1666e5b4b62b", func := "stemma/stemmalaw6.InflateRaw", spec := "inflateRaw", unfollowed := true, recurses := true, apart := false, narrowed := true }
def InflateRawUptoSaid : Prop := inflateRawUptoRow.holds Try.pinned (OpenSpec.upto inflateRawSpec)

end Rows
end Go.Proofs.Ytahafepgmkiabaa
