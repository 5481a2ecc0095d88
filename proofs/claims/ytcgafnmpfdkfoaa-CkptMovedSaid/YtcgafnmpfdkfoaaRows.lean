/-
  No cell of these rows narrows 'for every input' (looked for: loops, veiled, ifaces, maps, wideKeys, modest, calm, conditions, laid).
  DERIVED. THE GIVEN ROWS OF THIS SEAT. 21 by the template 'for every input the law returns true; each argument reads behind the call as it read before'; 0 by the template 'total and deterministic' (their statements: YtcgafnmpfdkfoaaTotals.lean).
  GIVEN WITH THE SEED: the statements are not yours to turn. If you find one false, say at which input.
  Laid BY PROGRAM, IN A SANDBOX (cutbox-rows.mjs): the forced cells as the released guide's own fill.sh prints them over the translation df717ac8425d71bb… (all of the seat's roots in one cut). By AI agents, Wed Nov 11 2026. No macro, syntax, notation, axiom, sorry.
-/
import Derived.Test.YtcgafnmpfdkfoaaChecked
import GoSem.Claim
import GoSem.ClaimJoined
import GoSem.ClaimMapViews
import Derived.JoinedTies
import Derived.KernelRfl
namespace Go.Proofs.Ytcgafnmpfdkfoaa
/- THE CELL 'sum', in the pinned program and in every row, IS THE sha256 OF THE DUMP (.gsa) THAT YtcgafnmpfdkfoaaProg.lean LOADS. Nothing in Lean hashes anything: it is a label: what it is worth is what the hold of that sum in a sandbox is worth. -/
noncomputable def Try.pinned : Pinned := { name := "ytcgafnmpfdkfoaa", sum := "df717ac8425d71bb4e53744a81a8ef539fc0245bbd6bf74805e3dc3634437703", checked := Try.checked }
namespace Rows
def none {H : Type} : Left H := { results := [], args := [] }

/-- 'revetmentlaw11.BmapSums': WHATEVER THE INPUT: true; the input reads as it did. -/
def bmapSumsSpec : ChangeSpec := { name := "bmapSums", fn := fun _ => fun
  | [d1, d2] => { results := [.lit (.bool true)], args := [d1, d2] }
  | _ => none }
def bmapSumsRow : OpenClaim := { program := "ytcgafnmpfdkfoaa", sum := "df717ac8425d71bb4e53744a81a8ef539fc0245bbd6bf74805e3dc3634437703", func := "revetment/revetmentlaw11.BmapSums", spec := "bmapSums", apart := false }
def BmapSumsSaid : Prop := bmapSumsRow.holds Try.pinned (OpenSpec.ofChange bmapSumsSpec)

/-- ITS FALSE NEIGHBOUR: 'it returns false'. Refute it at one input. -/
def bmapSumsWrong : ChangeSpec := { name := "bmapSums", fn := fun _ => fun
  | [d1, d2] => { results := [.lit (.bool false)], args := [d1, d2] }
  | _ => none }
def BmapSumsWrongFalsely : Prop := bmapSumsRow.holds Try.pinned (OpenSpec.ofChange bmapSumsWrong)

/-- 'revetmentlaw11.BmapOver': WHATEVER THE INPUT: true; the input reads as it did. -/
def bmapOverSpec : ChangeSpec := { name := "bmapOver", fn := fun _ => fun
  | [d1, d2, d3] => { results := [.lit (.bool true)], args := [d1, d2, d3] }
  | _ => none }
def bmapOverRow : OpenClaim := { program := "ytcgafnmpfdkfoaa", sum := "df717ac8425d71bb4e53744a81a8ef539fc0245bbd6bf74805e3dc3634437703", func := "revetment/revetmentlaw11.BmapOver", spec := "bmapOver", apart := false }
def BmapOverSaid : Prop := bmapOverRow.holds Try.pinned (OpenSpec.ofChange bmapOverSpec)

/-- ITS FALSE NEIGHBOUR: 'it returns false'. Refute it at one input. -/
def bmapOverWrong : ChangeSpec := { name := "bmapOver", fn := fun _ => fun
  | [d1, d2, d3] => { results := [.lit (.bool false)], args := [d1, d2, d3] }
  | _ => none }
def BmapOverWrongFalsely : Prop := bmapOverRow.holds Try.pinned (OpenSpec.ofChange bmapOverWrong)

/-- 'revetmentlaw11.BmapPlays': WHATEVER THE INPUT: true; the input reads as it did. -/
def bmapPlaysSpec : ChangeSpec := { name := "bmapPlays", fn := fun _ => fun
  | [d1, d2, d3, d4] => { results := [.lit (.bool true)], args := [d1, d2, d3, d4] }
  | _ => none }
def bmapPlaysRow : OpenClaim := { program := "ytcgafnmpfdkfoaa", sum := "df717ac8425d71bb4e53744a81a8ef539fc0245bbd6bf74805e3dc3634437703", func := "revetment/revetmentlaw11.BmapPlays", spec := "bmapPlays", unfollowed := true, recurses := true, apart := false }
def BmapPlaysSaid : Prop := bmapPlaysRow.holds Try.pinned (OpenSpec.ofChange bmapPlaysSpec)

/-- ITS FALSE NEIGHBOUR: 'it returns false'. Refute it at one input. -/
def bmapPlaysWrong : ChangeSpec := { name := "bmapPlays", fn := fun _ => fun
  | [d1, d2, d3, d4] => { results := [.lit (.bool false)], args := [d1, d2, d3, d4] }
  | _ => none }
def BmapPlaysWrongFalsely : Prop := bmapPlaysRow.holds Try.pinned (OpenSpec.ofChange bmapPlaysWrong)

/-- 'revetmentlaw12.SnapZones': WHATEVER THE INPUT: true; the input reads as it did. -/
def snapZonesSpec : ChangeSpec := { name := "snapZones", fn := fun _ => fun
  | [d1, d2, d3, d4] => { results := [.lit (.bool true)], args := [d1, d2, d3, d4] }
  | _ => none }
def snapZonesRow : OpenClaim := { program := "ytcgafnmpfdkfoaa", sum := "df717ac8425d71bb4e53744a81a8ef539fc0245bbd6bf74805e3dc3634437703", func := "revetment/revetmentlaw12.SnapZones", spec := "snapZones", unfollowed := true, recurses := true, apart := false }
def SnapZonesSaid : Prop := snapZonesRow.holds Try.pinned (OpenSpec.ofChange snapZonesSpec)

/-- ITS FALSE NEIGHBOUR: 'it returns false'. Refute it at one input. -/
def snapZonesWrong : ChangeSpec := { name := "snapZones", fn := fun _ => fun
  | [d1, d2, d3, d4] => { results := [.lit (.bool false)], args := [d1, d2, d3, d4] }
  | _ => none }
def SnapZonesWrongFalsely : Prop := snapZonesRow.holds Try.pinned (OpenSpec.ofChange snapZonesWrong)

/-- 'revetmentlaw12.SnapSame': WHATEVER THE INPUT: true; the input reads as it did. -/
def snapSameSpec : ChangeSpec := { name := "snapSame", fn := fun _ => fun
  | [d1, d2, d3, d4, d5, d6] => { results := [.lit (.bool true)], args := [d1, d2, d3, d4, d5, d6] }
  | _ => none }
def snapSameRow : OpenClaim := { program := "ytcgafnmpfdkfoaa", sum := "df717ac8425d71bb4e53744a81a8ef539fc0245bbd6bf74805e3dc3634437703", func := "revetment/revetmentlaw12.SnapSame", spec := "snapSame", unfollowed := true, recurses := true, apart := false }
def SnapSameSaid : Prop := snapSameRow.holds Try.pinned (OpenSpec.ofChange snapSameSpec)

/-- ITS FALSE NEIGHBOUR: 'it returns false'. Refute it at one input. -/
def snapSameWrong : ChangeSpec := { name := "snapSame", fn := fun _ => fun
  | [d1, d2, d3, d4, d5, d6] => { results := [.lit (.bool false)], args := [d1, d2, d3, d4, d5, d6] }
  | _ => none }
def SnapSameWrongFalsely : Prop := snapSameRow.holds Try.pinned (OpenSpec.ofChange snapSameWrong)

/-- 'revetmentlaw12.SnapReads': WHATEVER THE INPUT: true; the input reads as it did. -/
def snapReadsSpec : ChangeSpec := { name := "snapReads", fn := fun _ => fun
  | [d] => { results := [.lit (.bool true)], args := [d] }
  | _ => none }
def snapReadsRow : OpenClaim := { program := "ytcgafnmpfdkfoaa", sum := "df717ac8425d71bb4e53744a81a8ef539fc0245bbd6bf74805e3dc3634437703", func := "revetment/revetmentlaw12.SnapReads", spec := "snapReads", unfollowed := true, recurses := true, apart := false }
def SnapReadsSaid : Prop := snapReadsRow.holds Try.pinned (OpenSpec.ofChange snapReadsSpec)

/-- ITS FALSE NEIGHBOUR: 'it returns false'. Refute it at one input. -/
def snapReadsWrong : ChangeSpec := { name := "snapReads", fn := fun _ => fun
  | [d] => { results := [.lit (.bool false)], args := [d] }
  | _ => none }
def SnapReadsWrongFalsely : Prop := snapReadsRow.holds Try.pinned (OpenSpec.ofChange snapReadsWrong)

/-- 'revetmentlaw12.SnapMixed': WHATEVER THE INPUT: true; the input reads as it did. -/
def snapMixedSpec : ChangeSpec := { name := "snapMixed", fn := fun _ => fun
  | [d1, d2, d3, d4] => { results := [.lit (.bool true)], args := [d1, d2, d3, d4] }
  | _ => none }
def snapMixedRow : OpenClaim := { program := "ytcgafnmpfdkfoaa", sum := "df717ac8425d71bb4e53744a81a8ef539fc0245bbd6bf74805e3dc3634437703", func := "revetment/revetmentlaw12.SnapMixed", spec := "snapMixed", unfollowed := true, recurses := true, apart := false }
def SnapMixedSaid : Prop := snapMixedRow.holds Try.pinned (OpenSpec.ofChange snapMixedSpec)

/-- ITS FALSE NEIGHBOUR: 'it returns false'. Refute it at one input. -/
def snapMixedWrong : ChangeSpec := { name := "snapMixed", fn := fun _ => fun
  | [d1, d2, d3, d4] => { results := [.lit (.bool false)], args := [d1, d2, d3, d4] }
  | _ => none }
def SnapMixedWrongFalsely : Prop := snapMixedRow.holds Try.pinned (OpenSpec.ofChange snapMixedWrong)

/-- 'revetmentlaw12.SnapLost': WHATEVER THE INPUT: true; the input reads as it did. -/
def snapLostSpec : ChangeSpec := { name := "snapLost", fn := fun _ => fun
  | [d1, d2] => { results := [.lit (.bool true)], args := [d1, d2] }
  | _ => none }
def snapLostRow : OpenClaim := { program := "ytcgafnmpfdkfoaa", sum := "df717ac8425d71bb4e53744a81a8ef539fc0245bbd6bf74805e3dc3634437703", func := "revetment/revetmentlaw12.SnapLost", spec := "snapLost", unfollowed := true, recurses := true, apart := false }
def SnapLostSaid : Prop := snapLostRow.holds Try.pinned (OpenSpec.ofChange snapLostSpec)

/-- ITS FALSE NEIGHBOUR: 'it returns false'. Refute it at one input. -/
def snapLostWrong : ChangeSpec := { name := "snapLost", fn := fun _ => fun
  | [d1, d2] => { results := [.lit (.bool false)], args := [d1, d2] }
  | _ => none }
def SnapLostWrongFalsely : Prop := snapLostRow.holds Try.pinned (OpenSpec.ofChange snapLostWrong)

/-- 'revetmentlaw12.SnapFrames': WHATEVER THE INPUT: true; the input reads as it did. -/
def snapFramesSpec : ChangeSpec := { name := "snapFrames", fn := fun _ => fun
  | [d1, d2, d3, d4, d5, d6, d7] => { results := [.lit (.bool true)], args := [d1, d2, d3, d4, d5, d6, d7] }
  | _ => none }
def snapFramesRow : OpenClaim := { program := "ytcgafnmpfdkfoaa", sum := "df717ac8425d71bb4e53744a81a8ef539fc0245bbd6bf74805e3dc3634437703", func := "revetment/revetmentlaw12.SnapFrames", spec := "snapFrames", unfollowed := true, recurses := true, apart := false }
def SnapFramesSaid : Prop := snapFramesRow.holds Try.pinned (OpenSpec.ofChange snapFramesSpec)

/-- ITS FALSE NEIGHBOUR: 'it returns false'. Refute it at one input. -/
def snapFramesWrong : ChangeSpec := { name := "snapFrames", fn := fun _ => fun
  | [d1, d2, d3, d4, d5, d6, d7] => { results := [.lit (.bool false)], args := [d1, d2, d3, d4, d5, d6, d7] }
  | _ => none }
def SnapFramesWrongFalsely : Prop := snapFramesRow.holds Try.pinned (OpenSpec.ofChange snapFramesWrong)

/-- 'revetmentlaw13.CkptUnlike': WHATEVER THE INPUT: true; the input reads as it did. -/
def ckptUnlikeSpec : ChangeSpec := { name := "ckptUnlike", fn := fun _ => fun
  | [d1, d2, d3, d4, d5, d6] => { results := [.lit (.bool true)], args := [d1, d2, d3, d4, d5, d6] }
  | _ => none }
def ckptUnlikeRow : OpenClaim := { program := "ytcgafnmpfdkfoaa", sum := "df717ac8425d71bb4e53744a81a8ef539fc0245bbd6bf74805e3dc3634437703", func := "revetment/revetmentlaw13.CkptUnlike", spec := "ckptUnlike", unfollowed := true, recurses := true, apart := false }
def CkptUnlikeSaid : Prop := ckptUnlikeRow.holds Try.pinned (OpenSpec.ofChange ckptUnlikeSpec)

/-- ITS FALSE NEIGHBOUR: 'it returns false'. Refute it at one input. -/
def ckptUnlikeWrong : ChangeSpec := { name := "ckptUnlike", fn := fun _ => fun
  | [d1, d2, d3, d4, d5, d6] => { results := [.lit (.bool false)], args := [d1, d2, d3, d4, d5, d6] }
  | _ => none }
def CkptUnlikeWrongFalsely : Prop := ckptUnlikeRow.holds Try.pinned (OpenSpec.ofChange ckptUnlikeWrong)

/-- 'revetmentlaw13.CkptVotes': WHATEVER THE INPUT: true; the input reads as it did. -/
def ckptVotesSpec : ChangeSpec := { name := "ckptVotes", fn := fun _ => fun
  | [d1, d2, d3] => { results := [.lit (.bool true)], args := [d1, d2, d3] }
  | _ => none }
def ckptVotesRow : OpenClaim := { program := "ytcgafnmpfdkfoaa", sum := "df717ac8425d71bb4e53744a81a8ef539fc0245bbd6bf74805e3dc3634437703", func := "revetment/revetmentlaw13.CkptVotes", spec := "ckptVotes", unfollowed := true, recurses := true, apart := false }
def CkptVotesSaid : Prop := ckptVotesRow.holds Try.pinned (OpenSpec.ofChange ckptVotesSpec)

/-- ITS FALSE NEIGHBOUR: 'it returns false'. Refute it at one input. -/
def ckptVotesWrong : ChangeSpec := { name := "ckptVotes", fn := fun _ => fun
  | [d1, d2, d3] => { results := [.lit (.bool false)], args := [d1, d2, d3] }
  | _ => none }
def CkptVotesWrongFalsely : Prop := ckptVotesRow.holds Try.pinned (OpenSpec.ofChange ckptVotesWrong)

/-- 'revetmentlaw13.CkptParses': WHATEVER THE INPUT: true; the input reads as it did. -/
def ckptParsesSpec : ChangeSpec := { name := "ckptParses", fn := fun _ => fun
  | [d1, d2] => { results := [.lit (.bool true)], args := [d1, d2] }
  | _ => none }
def ckptParsesRow : OpenClaim := { program := "ytcgafnmpfdkfoaa", sum := "df717ac8425d71bb4e53744a81a8ef539fc0245bbd6bf74805e3dc3634437703", func := "revetment/revetmentlaw13.CkptParses", spec := "ckptParses", unfollowed := true, recurses := true, apart := false }
def CkptParsesSaid : Prop := ckptParsesRow.holds Try.pinned (OpenSpec.ofChange ckptParsesSpec)

/-- ITS FALSE NEIGHBOUR: 'it returns false'. Refute it at one input. -/
def ckptParsesWrong : ChangeSpec := { name := "ckptParses", fn := fun _ => fun
  | [d1, d2] => { results := [.lit (.bool false)], args := [d1, d2] }
  | _ => none }
def CkptParsesWrongFalsely : Prop := ckptParsesRow.holds Try.pinned (OpenSpec.ofChange ckptParsesWrong)

/-- 'revetmentlaw13.CkptMoved': WHATEVER THE INPUT: true; the input reads as it did. -/
def ckptMovedSpec : ChangeSpec := { name := "ckptMoved", fn := fun _ => fun
  | [d1, d2, d3, d4, d5, d6, d7] => { results := [.lit (.bool true)], args := [d1, d2, d3, d4, d5, d6, d7] }
  | _ => none }
def ckptMovedRow : OpenClaim := { program := "ytcgafnmpfdkfoaa", sum := "df717ac8425d71bb4e53744a81a8ef539fc0245bbd6bf74805e3dc3634437703", func := "revetment/revetmentlaw13.CkptMoved", spec := "ckptMoved", unfollowed := true, recurses := true, apart := false }
def CkptMovedSaid : Prop := ckptMovedRow.holds Try.pinned (OpenSpec.ofChange ckptMovedSpec)

/-- ITS FALSE NEIGHBOUR: 'it returns false'. Refute it at one input. -/
def ckptMovedWrong : ChangeSpec := { name := "ckptMoved", fn := fun _ => fun
  | [d1, d2, d3, d4, d5, d6, d7] => { results := [.lit (.bool false)], args := [d1, d2, d3, d4, d5, d6, d7] }
  | _ => none }
def CkptMovedWrongFalsely : Prop := ckptMovedRow.holds Try.pinned (OpenSpec.ofChange ckptMovedWrong)

/-- 'revetmentlaw13.CkptSpoilt': WHATEVER THE INPUT: true; the input reads as it did. -/
def ckptSpoiltSpec : ChangeSpec := { name := "ckptSpoilt", fn := fun _ => fun
  | [d1, d2, d3, d4, d5, d6, d7, d8] => { results := [.lit (.bool true)], args := [d1, d2, d3, d4, d5, d6, d7, d8] }
  | _ => none }
def ckptSpoiltRow : OpenClaim := { program := "ytcgafnmpfdkfoaa", sum := "df717ac8425d71bb4e53744a81a8ef539fc0245bbd6bf74805e3dc3634437703", func := "revetment/revetmentlaw13.CkptSpoilt", spec := "ckptSpoilt", unfollowed := true, recurses := true, apart := false }
def CkptSpoiltSaid : Prop := ckptSpoiltRow.holds Try.pinned (OpenSpec.ofChange ckptSpoiltSpec)

/-- ITS FALSE NEIGHBOUR: 'it returns false'. Refute it at one input. -/
def ckptSpoiltWrong : ChangeSpec := { name := "ckptSpoilt", fn := fun _ => fun
  | [d1, d2, d3, d4, d5, d6, d7, d8] => { results := [.lit (.bool false)], args := [d1, d2, d3, d4, d5, d6, d7, d8] }
  | _ => none }
def CkptSpoiltWrongFalsely : Prop := ckptSpoiltRow.holds Try.pinned (OpenSpec.ofChange ckptSpoiltWrong)

/-- 'revetmentlaw13.CkptSectors': WHATEVER THE INPUT: true; the input reads as it did. -/
def ckptSectorsSpec : ChangeSpec := { name := "ckptSectors", fn := fun _ => fun
  | [d1, d2, d3, d4, d5, d6, d7, d8] => { results := [.lit (.bool true)], args := [d1, d2, d3, d4, d5, d6, d7, d8] }
  | _ => none }
def ckptSectorsRow : OpenClaim := { program := "ytcgafnmpfdkfoaa", sum := "df717ac8425d71bb4e53744a81a8ef539fc0245bbd6bf74805e3dc3634437703", func := "revetment/revetmentlaw13.CkptSectors", spec := "ckptSectors", unfollowed := true, recurses := true, apart := false }
def CkptSectorsSaid : Prop := ckptSectorsRow.holds Try.pinned (OpenSpec.ofChange ckptSectorsSpec)

/-- ITS FALSE NEIGHBOUR: 'it returns false'. Refute it at one input. -/
def ckptSectorsWrong : ChangeSpec := { name := "ckptSectors", fn := fun _ => fun
  | [d1, d2, d3, d4, d5, d6, d7, d8] => { results := [.lit (.bool false)], args := [d1, d2, d3, d4, d5, d6, d7, d8] }
  | _ => none }
def CkptSectorsWrongFalsely : Prop := ckptSectorsRow.holds Try.pinned (OpenSpec.ofChange ckptSectorsWrong)

/-- 'revetmentlaw17.RollRuns': WHATEVER THE INPUT: true; the input reads as it did. -/
def rollRunsSpec : ChangeSpec := { name := "rollRuns", fn := fun _ => fun
  | [d1, d2, d3, d4, d5] => { results := [.lit (.bool true)], args := [d1, d2, d3, d4, d5] }
  | _ => none }
def rollRunsRow : OpenClaim := { program := "ytcgafnmpfdkfoaa", sum := "df717ac8425d71bb4e53744a81a8ef539fc0245bbd6bf74805e3dc3634437703", func := "revetment/revetmentlaw17.RollRuns", spec := "rollRuns", unfollowed := true, recurses := true, apart := false }
def RollRunsSaid : Prop := rollRunsRow.holds Try.pinned (OpenSpec.ofChange rollRunsSpec)

/-- ITS FALSE NEIGHBOUR: 'it returns false'. Refute it at one input. -/
def rollRunsWrong : ChangeSpec := { name := "rollRuns", fn := fun _ => fun
  | [d1, d2, d3, d4, d5] => { results := [.lit (.bool false)], args := [d1, d2, d3, d4, d5] }
  | _ => none }
def RollRunsWrongFalsely : Prop := rollRunsRow.holds Try.pinned (OpenSpec.ofChange rollRunsWrong)

/-- 'revetmentlaw17.RollRecords': WHATEVER THE INPUT: true; the input reads as it did. -/
def rollRecordsSpec : ChangeSpec := { name := "rollRecords", fn := fun _ => fun
  | [d1, d2, d3, d4] => { results := [.lit (.bool true)], args := [d1, d2, d3, d4] }
  | _ => none }
def rollRecordsRow : OpenClaim := { program := "ytcgafnmpfdkfoaa", sum := "df717ac8425d71bb4e53744a81a8ef539fc0245bbd6bf74805e3dc3634437703", func := "revetment/revetmentlaw17.RollRecords", spec := "rollRecords", unfollowed := true, recurses := true, apart := false }
def RollRecordsSaid : Prop := rollRecordsRow.holds Try.pinned (OpenSpec.ofChange rollRecordsSpec)

/-- ITS FALSE NEIGHBOUR: 'it returns false'. Refute it at one input. -/
def rollRecordsWrong : ChangeSpec := { name := "rollRecords", fn := fun _ => fun
  | [d1, d2, d3, d4] => { results := [.lit (.bool false)], args := [d1, d2, d3, d4] }
  | _ => none }
def RollRecordsWrongFalsely : Prop := rollRecordsRow.holds Try.pinned (OpenSpec.ofChange rollRecordsWrong)

/-- 'revetmentlaw17.RollBeside': WHATEVER THE INPUT: true; the input reads as it did. -/
def rollBesideSpec : ChangeSpec := { name := "rollBeside", fn := fun _ => fun
  | [d1, d2, d3, d4, d5, d6, d7] => { results := [.lit (.bool true)], args := [d1, d2, d3, d4, d5, d6, d7] }
  | _ => none }
def rollBesideRow : OpenClaim := { program := "ytcgafnmpfdkfoaa", sum := "df717ac8425d71bb4e53744a81a8ef539fc0245bbd6bf74805e3dc3634437703", func := "revetment/revetmentlaw17.RollBeside", spec := "rollBeside", unfollowed := true, recurses := true, apart := false }
def RollBesideSaid : Prop := rollBesideRow.holds Try.pinned (OpenSpec.ofChange rollBesideSpec)

/-- ITS FALSE NEIGHBOUR: 'it returns false'. Refute it at one input. -/
def rollBesideWrong : ChangeSpec := { name := "rollBeside", fn := fun _ => fun
  | [d1, d2, d3, d4, d5, d6, d7] => { results := [.lit (.bool false)], args := [d1, d2, d3, d4, d5, d6, d7] }
  | _ => none }
def RollBesideWrongFalsely : Prop := rollBesideRow.holds Try.pinned (OpenSpec.ofChange rollBesideWrong)

/-- 'revetmentlaw17.RollCuts': WHATEVER THE INPUT: true; the input reads as it did. -/
def rollCutsSpec : ChangeSpec := { name := "rollCuts", fn := fun _ => fun
  | [d1, d2, d3, d4, d5, d6] => { results := [.lit (.bool true)], args := [d1, d2, d3, d4, d5, d6] }
  | _ => none }
def rollCutsRow : OpenClaim := { program := "ytcgafnmpfdkfoaa", sum := "df717ac8425d71bb4e53744a81a8ef539fc0245bbd6bf74805e3dc3634437703", func := "revetment/revetmentlaw17.RollCuts", spec := "rollCuts", unfollowed := true, recurses := true, apart := false }
def RollCutsSaid : Prop := rollCutsRow.holds Try.pinned (OpenSpec.ofChange rollCutsSpec)

/-- ITS FALSE NEIGHBOUR: 'it returns false'. Refute it at one input. -/
def rollCutsWrong : ChangeSpec := { name := "rollCuts", fn := fun _ => fun
  | [d1, d2, d3, d4, d5, d6] => { results := [.lit (.bool false)], args := [d1, d2, d3, d4, d5, d6] }
  | _ => none }
def RollCutsWrongFalsely : Prop := rollCutsRow.holds Try.pinned (OpenSpec.ofChange rollCutsWrong)

/-- 'revetmentlaw17.RollOrder': WHATEVER THE INPUT: true; the input reads as it did. -/
def rollOrderSpec : ChangeSpec := { name := "rollOrder", fn := fun _ => fun
  | [d1, d2, d3, d4, d5] => { results := [.lit (.bool true)], args := [d1, d2, d3, d4, d5] }
  | _ => none }
def rollOrderRow : OpenClaim := { program := "ytcgafnmpfdkfoaa", sum := "df717ac8425d71bb4e53744a81a8ef539fc0245bbd6bf74805e3dc3634437703", func := "revetment/revetmentlaw17.RollOrder", spec := "rollOrder", unfollowed := true, recurses := true, apart := false }
def RollOrderSaid : Prop := rollOrderRow.holds Try.pinned (OpenSpec.ofChange rollOrderSpec)

/-- ITS FALSE NEIGHBOUR: 'it returns false'. Refute it at one input. -/
def rollOrderWrong : ChangeSpec := { name := "rollOrder", fn := fun _ => fun
  | [d1, d2, d3, d4, d5] => { results := [.lit (.bool false)], args := [d1, d2, d3, d4, d5] }
  | _ => none }
def RollOrderWrongFalsely : Prop := rollOrderRow.holds Try.pinned (OpenSpec.ofChange rollOrderWrong)

/-- 'revetmentlaw17.RollNothing': WHATEVER THE INPUT: true; the input reads as it did. -/
def rollNothingSpec : ChangeSpec := { name := "rollNothing", fn := fun _ => fun
  | [d1, d2, d3, d4, d5] => { results := [.lit (.bool true)], args := [d1, d2, d3, d4, d5] }
  | _ => none }
def rollNothingRow : OpenClaim := { program := "ytcgafnmpfdkfoaa", sum := "df717ac8425d71bb4e53744a81a8ef539fc0245bbd6bf74805e3dc3634437703", func := "revetment/revetmentlaw17.RollNothing", spec := "rollNothing", unfollowed := true, recurses := true, apart := false }
def RollNothingSaid : Prop := rollNothingRow.holds Try.pinned (OpenSpec.ofChange rollNothingSpec)

/-- ITS FALSE NEIGHBOUR: 'it returns false'. Refute it at one input. -/
def rollNothingWrong : ChangeSpec := { name := "rollNothing", fn := fun _ => fun
  | [d1, d2, d3, d4, d5] => { results := [.lit (.bool false)], args := [d1, d2, d3, d4, d5] }
  | _ => none }
def RollNothingWrongFalsely : Prop := rollNothingRow.holds Try.pinned (OpenSpec.ofChange rollNothingWrong)

/- THE SECOND FORM. 'bulk': how many values and letters a reading holds, each counted each time it is reached (what is shared counts as often as it is met; a slice's spare places count too). A statement '..UptoSaid' is the law's where the arguments, and the package variables that the reading takes, are together of bulk at most 1048576: NARROWER than '..Said'. Prove '..Said' where nothing that the law and all that it calls make is longer than what came in: it says more and counts as full. Else prove '..UptoSaid'. A law counts once. -/
mutual
def uptoBulk {H : Type} : DataW H → Nat
  | .lit (.string bytes) => bytes.length + 1
  | .lit _ => 1
  | .nil => 1
  | .ptr d => uptoBulk d + 1
  | .slice elems spare => uptoBulkAll elems + uptoBulkAll spare + 1
  | .agg parts => uptoBulkAll parts + 1
  | .iface _ d => uptoBulk d + 1
  | .map entries => uptoBulkEntries entries + 1
  | .held _ => 1
def uptoBulkAll {H : Type} : List (DataW H) → Nat
  | [] => 0
  | d :: r => uptoBulk d + uptoBulkAll r
def uptoBulkEntries {H : Type} : List (Lit × DataW H) → Nat
  | [] => 0
  | x :: r => uptoBulkEntry x + uptoBulkEntries r
def uptoBulkEntry {H : Type} : Lit × DataW H → Nat
  | (.string bytes, d) => bytes.length + uptoBulk d + 1
  | (_, d) => uptoBulk d + 1
 end
def uptoSmall : (H : Type) → List (DataW H) → Bool := fun _ ds => decide (uptoBulkAll ds ≤ 1048576)
def OpenSpec.upto (s : _root_.Go.ChangeSpec) : _root_.Go.OpenSpec := { _root_.Go.OpenSpec.ofChange s with cond := some uptoSmall }

/-- 'revetmentlaw11.BmapSums', WHERE WHAT IT READS IS OF BULK AT MOST 1048576: true; the input reads as it did. -/
def bmapSumsUptoRow : OpenClaim := { program := "ytcgafnmpfdkfoaa", sum := "df717ac8425d71bb4e53744a81a8ef539fc0245bbd6bf74805e3dc3634437703", func := "revetment/revetmentlaw11.BmapSums", spec := "bmapSums", apart := false, narrowed := true }
def BmapSumsUptoSaid : Prop := bmapSumsUptoRow.holds Try.pinned (OpenSpec.upto bmapSumsSpec)

/-- 'revetmentlaw11.BmapOver', WHERE WHAT IT READS IS OF BULK AT MOST 1048576: true; the input reads as it did. -/
def bmapOverUptoRow : OpenClaim := { program := "ytcgafnmpfdkfoaa", sum := "df717ac8425d71bb4e53744a81a8ef539fc0245bbd6bf74805e3dc3634437703", func := "revetment/revetmentlaw11.BmapOver", spec := "bmapOver", apart := false, narrowed := true }
def BmapOverUptoSaid : Prop := bmapOverUptoRow.holds Try.pinned (OpenSpec.upto bmapOverSpec)

/-- 'revetmentlaw11.BmapPlays', WHERE WHAT IT READS IS OF BULK AT MOST 1048576: true; the input reads as it did. -/
def bmapPlaysUptoRow : OpenClaim := { program := "ytcgafnmpfdkfoaa", sum := "df717ac8425d71bb4e53744a81a8ef539fc0245bbd6bf74805e3dc3634437703", func := "revetment/revetmentlaw11.BmapPlays", spec := "bmapPlays", unfollowed := true, recurses := true, apart := false, narrowed := true }
def BmapPlaysUptoSaid : Prop := bmapPlaysUptoRow.holds Try.pinned (OpenSpec.upto bmapPlaysSpec)

/-- 'revetmentlaw12.SnapZones', WHERE WHAT IT READS IS OF BULK AT MOST 1048576: true; the input reads as it did. -/
def snapZonesUptoRow : OpenClaim := { program := "ytcgafnmpfdkfoaa", sum := "df717ac8425d71bb4e53744a81a8ef539fc0245bbd6bf74805e3dc3634437703", func := "revetment/revetmentlaw12.SnapZones", spec := "snapZones", unfollowed := true, recurses := true, apart := false, narrowed := true }
def SnapZonesUptoSaid : Prop := snapZonesUptoRow.holds Try.pinned (OpenSpec.upto snapZonesSpec)

/-- 'revetmentlaw12.SnapSame', WHERE WHAT IT READS IS OF BULK AT MOST 1048576: true; the input reads as it did. -/
def snapSameUptoRow : OpenClaim := { program := "ytcgafnmpfdkfoaa", sum := "df717ac8425d71bb4e53744a81a8ef539fc0245bbd6bf74805e3dc3634437703", func := "revetment/revetmentlaw12.SnapSame", spec := "snapSame", unfollowed := true, recurses := true, apart := false, narrowed := true }
def SnapSameUptoSaid : Prop := snapSameUptoRow.holds Try.pinned (OpenSpec.upto snapSameSpec)

/-- 'revetmentlaw12.SnapReads', WHERE WHAT IT READS IS OF BULK AT MOST 1048576: true; the input reads as it did. -/
def snapReadsUptoRow : OpenClaim := { program := "ytcgafnmpfdkfoaa", sum := "df717ac8425d71bb4e53744a81a8ef539fc0245bbd6bf74805e3dc3634437703", func := "revetment/revetmentlaw12.SnapReads", spec := "snapReads", unfollowed := true, recurses := true, apart := false, narrowed := true }
def SnapReadsUptoSaid : Prop := snapReadsUptoRow.holds Try.pinned (OpenSpec.upto snapReadsSpec)

/-- 'revetmentlaw12.SnapMixed', WHERE WHAT IT READS IS OF BULK AT MOST 1048576: true; the input reads as it did. -/
def snapMixedUptoRow : OpenClaim := { program := "ytcgafnmpfdkfoaa", sum := "df717ac8425d71bb4e53744a81a8ef539fc0245bbd6bf74805e3dc3634437703", func := "revetment/revetmentlaw12.SnapMixed", spec := "snapMixed", unfollowed := true, recurses := true, apart := false, narrowed := true }
def SnapMixedUptoSaid : Prop := snapMixedUptoRow.holds Try.pinned (OpenSpec.upto snapMixedSpec)

/-- 'revetmentlaw12.SnapLost', WHERE WHAT IT READS IS OF BULK AT MOST 1048576: true; the input reads as it did. -/
def snapLostUptoRow : OpenClaim := { program := "ytcgafnmpfdkfoaa", sum := "df717ac8425d71bb4e53744a81a8ef539fc0245bbd6bf74805e3dc3634437703", func := "revetment/revetmentlaw12.SnapLost", spec := "snapLost", unfollowed := true, recurses := true, apart := false, narrowed := true }
def SnapLostUptoSaid : Prop := snapLostUptoRow.holds Try.pinned (OpenSpec.upto snapLostSpec)

/-- 'revetmentlaw12.SnapFrames', WHERE WHAT IT READS IS OF BULK AT MOST 1048576: true; the input reads as it did. -/
def snapFramesUptoRow : OpenClaim := { program := "ytcgafnmpfdkfoaa", sum := "df717ac8425d71bb4e53744a81a8ef539fc0245bbd6bf74805e3dc3634437703", func := "revetment/revetmentlaw12.SnapFrames", spec := "snapFrames", unfollowed := true, recurses := true, apart := false, narrowed := true }
def SnapFramesUptoSaid : Prop := snapFramesUptoRow.holds Try.pinned (OpenSpec.upto snapFramesSpec)

/-- 'revetmentlaw13.CkptUnlike', WHERE WHAT IT READS IS OF BULK AT MOST 1048576: true; the input reads as it did. -/
def ckptUnlikeUptoRow : OpenClaim := { program := "ytcgafnmpfdkfoaa", sum := "df717ac8425d71bb4e53744a81a8ef539fc0245bbd6bf74805e3dc3634437703", func := "revetment/revetmentlaw13.CkptUnlike", spec := "ckptUnlike", unfollowed := true, recurses := true, apart := false, narrowed := true }
def CkptUnlikeUptoSaid : Prop := ckptUnlikeUptoRow.holds Try.pinned (OpenSpec.upto ckptUnlikeSpec)

/-- 'revetmentlaw13.CkptVotes', WHERE WHAT IT READS IS OF BULK AT MOST 1048576: true; the input reads as it did. -/
def ckptVotesUptoRow : OpenClaim := { program := "ytcgafnmpfdkfoaa", sum := "df717ac8425d71bb4e53744a81a8ef539fc0245bbd6bf74805e3dc3634437703", func := "revetment/revetmentlaw13.CkptVotes", spec := "ckptVotes", unfollowed := true, recurses := true, apart := false, narrowed := true }
def CkptVotesUptoSaid : Prop := ckptVotesUptoRow.holds Try.pinned (OpenSpec.upto ckptVotesSpec)

/-- 'revetmentlaw13.CkptParses', WHERE WHAT IT READS IS OF BULK AT MOST 1048576: true; the input reads as it did. -/
def ckptParsesUptoRow : OpenClaim := { program := "ytcgafnmpfdkfoaa", sum := "df717ac8425d71bb4e53744a81a8ef539fc0245bbd6bf74805e3dc3634437703", func := "revetment/revetmentlaw13.CkptParses", spec := "ckptParses", unfollowed := true, recurses := true, apart := false, narrowed := true }
def CkptParsesUptoSaid : Prop := ckptParsesUptoRow.holds Try.pinned (OpenSpec.upto ckptParsesSpec)

/-- 'revetmentlaw13.CkptMoved', WHERE WHAT IT READS IS OF BULK AT MOST 1048576: true; the input reads as it did. -/
def ckptMovedUptoRow : OpenClaim := { program := "ytcgafnmpfdkfoaa", sum := "df717ac8425d71bb4e53744a81a8ef539fc0245bbd6bf74805e3dc3634437703", func := "revetment/revetmentlaw13.CkptMoved", spec := "ckptMoved", unfollowed := true, recurses := true, apart := false, narrowed := true }
def CkptMovedUptoSaid : Prop := ckptMovedUptoRow.holds Try.pinned (OpenSpec.upto ckptMovedSpec)

/-- 'revetmentlaw13.CkptSpoilt', WHERE WHAT IT READS IS OF BULK AT MOST 1048576: true; the input reads as it did. -/
def ckptSpoiltUptoRow : OpenClaim := { program := "ytcgafnmpfdkfoaa", sum := "df717ac8425d71bb4e53744a81a8ef539fc0245bbd6bf74805e3dc3634437703", func := "revetment/revetmentlaw13.CkptSpoilt", spec := "ckptSpoilt", unfollowed := true, recurses := true, apart := false, narrowed := true }
def CkptSpoiltUptoSaid : Prop := ckptSpoiltUptoRow.holds Try.pinned (OpenSpec.upto ckptSpoiltSpec)

/-- 'revetmentlaw13.CkptSectors', WHERE WHAT IT READS IS OF BULK AT MOST 1048576: true; the input reads as it did. -/
def ckptSectorsUptoRow : OpenClaim := { program := "ytcgafnmpfdkfoaa", sum := "df717ac8425d71bb4e53744a81a8ef539fc0245bbd6bf74805e3dc3634437703", func := "revetment/revetmentlaw13.CkptSectors", spec := "ckptSectors", unfollowed := true, recurses := true, apart := false, narrowed := true }
def CkptSectorsUptoSaid : Prop := ckptSectorsUptoRow.holds Try.pinned (OpenSpec.upto ckptSectorsSpec)

/-- 'revetmentlaw17.RollRuns', WHERE WHAT IT READS IS OF BULK AT MOST 1048576: true; the input reads as it did. -/
def rollRunsUptoRow : OpenClaim := { program := "ytcgafnmpfdkfoaa", sum := "df717ac8425d71bb4e53744a81a8ef539fc0245bbd6bf74805e3dc3634437703", func := "revetment/revetmentlaw17.RollRuns", spec := "rollRuns", unfollowed := true, recurses := true, apart := false, narrowed := true }
def RollRunsUptoSaid : Prop := rollRunsUptoRow.holds Try.pinned (OpenSpec.upto rollRunsSpec)

/-- 'revetmentlaw17.RollRecords', WHERE WHAT IT READS IS OF BULK AT MOST 1048576: true; the input reads as it did. -/
def rollRecordsUptoRow : OpenClaim := { program := "ytcgafnmpfdkfoaa", sum := "df717ac8425d71bb4e53744a81a8ef539fc0245bbd6bf74805e3dc3634437703", func := "revetment/revetmentlaw17.RollRecords", spec := "rollRecords", unfollowed := true, recurses := true, apart := false, narrowed := true }
def RollRecordsUptoSaid : Prop := rollRecordsUptoRow.holds Try.pinned (OpenSpec.upto rollRecordsSpec)

/-- 'revetmentlaw17.RollBeside', WHERE WHAT IT READS IS OF BULK AT MOST 1048576: true; the input reads as it did. -/
def rollBesideUptoRow : OpenClaim := { program := "ytcgafnmpfdkfoaa", sum := "df717ac8425d71bb4e53744a81a8ef539fc0245bbd6bf74805e3dc3634437703", func := "revetment/revetmentlaw17.RollBeside", spec := "rollBeside", unfollowed := true, recurses := true, apart := false, narrowed := true }
def RollBesideUptoSaid : Prop := rollBesideUptoRow.holds Try.pinned (OpenSpec.upto rollBesideSpec)

/-- 'revetmentlaw17.RollCuts', WHERE WHAT IT READS IS OF BULK AT MOST 1048576: true; the input reads as it did. -/
def rollCutsUptoRow : OpenClaim := { program := "ytcgafnmpfdkfoaa", sum := "df717ac8425d71bb4e53744a81a8ef539fc0245bbd6bf74805e3dc3634437703", func := "revetment/revetmentlaw17.RollCuts", spec := "rollCuts", unfollowed := true, recurses := true, apart := false, narrowed := true }
def RollCutsUptoSaid : Prop := rollCutsUptoRow.holds Try.pinned (OpenSpec.upto rollCutsSpec)

/-- 'revetmentlaw17.RollOrder', WHERE WHAT IT READS IS OF BULK AT MOST 1048576: true; the input reads as it did. -/
def rollOrderUptoRow : OpenClaim := { program := "ytcgafnmpfdkfoaa", sum := "df717ac8425d71bb4e53744a81a8ef539fc0245bbd6bf74805e3dc3634437703", func := "revetment/revetmentlaw17.RollOrder", spec := "rollOrder", unfollowed := true, recurses := true, apart := false, narrowed := true }
def RollOrderUptoSaid : Prop := rollOrderUptoRow.holds Try.pinned (OpenSpec.upto rollOrderSpec)

/-- 'revetmentlaw17.RollNothing', WHERE WHAT IT READS IS OF BULK AT MOST 1048576: true; the input reads as it did. -/
def rollNothingUptoRow : OpenClaim := { program := "ytcgafnmpfdkfoaa", sum := "df717ac8425d71bb4e53744a81a8ef539fc0245bbd6bf74805e3dc3634437703", func := "revetment/revetmentlaw17.RollNothing", spec := "rollNothing", unfollowed := true, recurses := true, apart := false, narrowed := true }
def RollNothingUptoSaid : Prop := rollNothingUptoRow.holds Try.pinned (OpenSpec.upto rollNothingSpec)

end Rows
end Go.Proofs.Ytcgafnmpfdkfoaa
