/-
  No cell of these rows narrows 'for every input' (looked for: loops, veiled, ifaces, maps, wideKeys, modest, calm, conditions, laid).
  DERIVED. THE GIVEN ROWS OF THIS SEAT. 18 by the template 'for every input the law returns true; each argument reads behind the call as it read before'; 0 by the template 'total and deterministic' (their statements: YtbifpmaofkgkfaaTotals.lean).
  GIVEN WITH THE SEED: the statements are not yours to turn. If you find one false, say at which input.
  Laid BY PROGRAM, IN A SANDBOX (cutbox-rows.mjs): the forced cells as the released guide's own fill.sh prints them over the translation 6ccd8a2c660a5e99… (all of the seat's roots in one cut). By AI agents, Wed Nov 11 2026. No macro, syntax, notation, axiom, sorry.
-/
import Derived.Test.YtbifpmaofkgkfaaChecked
import GoSem.Claim
import GoSem.ClaimJoined
import GoSem.ClaimMapViews
import Derived.JoinedTies
import Derived.KernelRfl
namespace Go.Proofs.Ytbifpmaofkgkfaa
/- THE CELL 'sum', in the pinned program and in every row, IS THE sha256 OF THE DUMP (.gsa) THAT YtbifpmaofkgkfaaProg.lean LOADS. Nothing in Lean hashes anything: it is a label: what it is worth is what the hold of that sum in a sandbox is worth. -/
noncomputable def Try.pinned : Pinned := { name := "ytbifpmaofkgkfaa", sum := "6ccd8a2c660a5e997c40b5f657f5916c9a07d95e129e3335a2e8f9b3e94aa77e", checked := Try.checked }
namespace Rows
def none {H : Type} : Left H := { results := [], args := [] }

/-- 'dormerlaw03.VaTells': WHATEVER THE INPUT: true; the input reads as it did. -/
def vaTellsSpec : ChangeSpec := { name := "vaTells", fn := fun _ => fun
  | [d1, d2] => { results := [.lit (.bool true)], args := [d1, d2] }
  | _ => none }
def vaTellsRow : OpenClaim := { program := "ytbifpmaofkgkfaa", sum := "6ccd8a2c660a5e997c40b5f657f5916c9a07d95e129e3335a2e8f9b3e94aa77e", func := "dormer/dormerlaw03.VaTells", spec := "vaTells", apart := false }
def VaTellsSaid : Prop := vaTellsRow.holds Try.pinned (OpenSpec.ofChange vaTellsSpec)

/-- ITS FALSE NEIGHBOUR: 'it returns false'. Refute it at one input. -/
def vaTellsWrong : ChangeSpec := { name := "vaTells", fn := fun _ => fun
  | [d1, d2] => { results := [.lit (.bool false)], args := [d1, d2] }
  | _ => none }
def VaTellsWrongFalsely : Prop := vaTellsRow.holds Try.pinned (OpenSpec.ofChange vaTellsWrong)

/-- 'dormerlaw03.VaPages': WHATEVER THE INPUT: true; the input reads as it did. -/
def vaPagesSpec : ChangeSpec := { name := "vaPages", fn := fun _ => fun
  | [d1, d2, d3] => { results := [.lit (.bool true)], args := [d1, d2, d3] }
  | _ => none }
def vaPagesRow : OpenClaim := { program := "ytbifpmaofkgkfaa", sum := "6ccd8a2c660a5e997c40b5f657f5916c9a07d95e129e3335a2e8f9b3e94aa77e", func := "dormer/dormerlaw03.VaPages", spec := "vaPages", apart := false }
def VaPagesSaid : Prop := vaPagesRow.holds Try.pinned (OpenSpec.ofChange vaPagesSpec)

/-- ITS FALSE NEIGHBOUR: 'it returns false'. Refute it at one input. -/
def vaPagesWrong : ChangeSpec := { name := "vaPages", fn := fun _ => fun
  | [d1, d2, d3] => { results := [.lit (.bool false)], args := [d1, d2, d3] }
  | _ => none }
def VaPagesWrongFalsely : Prop := vaPagesRow.holds Try.pinned (OpenSpec.ofChange vaPagesWrong)

/-- 'dormerlaw03.VaNext': WHATEVER THE INPUT: true; the input reads as it did. -/
def vaNextSpec : ChangeSpec := { name := "vaNext", fn := fun _ => fun
  | [d] => { results := [.lit (.bool true)], args := [d] }
  | _ => none }
def vaNextRow : OpenClaim := { program := "ytbifpmaofkgkfaa", sum := "6ccd8a2c660a5e997c40b5f657f5916c9a07d95e129e3335a2e8f9b3e94aa77e", func := "dormer/dormerlaw03.VaNext", spec := "vaNext", apart := false }
def VaNextSaid : Prop := vaNextRow.holds Try.pinned (OpenSpec.ofChange vaNextSpec)

/-- ITS FALSE NEIGHBOUR: 'it returns false'. Refute it at one input. -/
def vaNextWrong : ChangeSpec := { name := "vaNext", fn := fun _ => fun
  | [d] => { results := [.lit (.bool false)], args := [d] }
  | _ => none }
def VaNextWrongFalsely : Prop := vaNextRow.holds Try.pinned (OpenSpec.ofChange vaNextWrong)

/-- 'dormerlaw03.VaNone': WHATEVER THE INPUT: true; the input reads as it did. -/
def vaNoneSpec : ChangeSpec := { name := "vaNone", fn := fun _ => fun
  | [d1, d2] => { results := [.lit (.bool true)], args := [d1, d2] }
  | _ => none }
def vaNoneRow : OpenClaim := { program := "ytbifpmaofkgkfaa", sum := "6ccd8a2c660a5e997c40b5f657f5916c9a07d95e129e3335a2e8f9b3e94aa77e", func := "dormer/dormerlaw03.VaNone", spec := "vaNone", apart := false }
def VaNoneSaid : Prop := vaNoneRow.holds Try.pinned (OpenSpec.ofChange vaNoneSpec)

/-- ITS FALSE NEIGHBOUR: 'it returns false'. Refute it at one input. -/
def vaNoneWrong : ChangeSpec := { name := "vaNone", fn := fun _ => fun
  | [d1, d2] => { results := [.lit (.bool false)], args := [d1, d2] }
  | _ => none }
def VaNoneWrongFalsely : Prop := vaNoneRow.holds Try.pinned (OpenSpec.ofChange vaNoneWrong)

/-- 'dormerlaw05.EntryMay': WHATEVER THE INPUT: true; the input reads as it did. -/
def entryMaySpec : ChangeSpec := { name := "entryMay", fn := fun _ => fun
  | [d1, d2, d3] => { results := [.lit (.bool true)], args := [d1, d2, d3] }
  | _ => none }
def entryMayRow : OpenClaim := { program := "ytbifpmaofkgkfaa", sum := "6ccd8a2c660a5e997c40b5f657f5916c9a07d95e129e3335a2e8f9b3e94aa77e", func := "dormer/dormerlaw05.EntryMay", spec := "entryMay", unfollowed := true, recurses := true, apart := false }
def EntryMaySaid : Prop := entryMayRow.holds Try.pinned (OpenSpec.ofChange entryMaySpec)

/-- ITS FALSE NEIGHBOUR: 'it returns false'. Refute it at one input. -/
def entryMayWrong : ChangeSpec := { name := "entryMay", fn := fun _ => fun
  | [d1, d2, d3] => { results := [.lit (.bool false)], args := [d1, d2, d3] }
  | _ => none }
def EntryMayWrongFalsely : Prop := entryMayRow.holds Try.pinned (OpenSpec.ofChange entryMayWrong)

/-- 'dormerlaw05.EntrySlots': WHATEVER THE INPUT: true; the input reads as it did. -/
def entrySlotsSpec : ChangeSpec := { name := "entrySlots", fn := fun _ => fun
  | [d1, d2, d3] => { results := [.lit (.bool true)], args := [d1, d2, d3] }
  | _ => none }
def entrySlotsRow : OpenClaim := { program := "ytbifpmaofkgkfaa", sum := "6ccd8a2c660a5e997c40b5f657f5916c9a07d95e129e3335a2e8f9b3e94aa77e", func := "dormer/dormerlaw05.EntrySlots", spec := "entrySlots", unfollowed := true, recurses := true, apart := false }
def EntrySlotsSaid : Prop := entrySlotsRow.holds Try.pinned (OpenSpec.ofChange entrySlotsSpec)

/-- ITS FALSE NEIGHBOUR: 'it returns false'. Refute it at one input. -/
def entrySlotsWrong : ChangeSpec := { name := "entrySlots", fn := fun _ => fun
  | [d1, d2, d3] => { results := [.lit (.bool false)], args := [d1, d2, d3] }
  | _ => none }
def EntrySlotsWrongFalsely : Prop := entrySlotsRow.holds Try.pinned (OpenSpec.ofChange entrySlotsWrong)

/-- 'dormerlaw03.VaJoins': WHATEVER THE INPUT: true; the input reads as it did. -/
def vaJoinsSpec : ChangeSpec := { name := "vaJoins", fn := fun _ => fun
  | [d1, d2] => { results := [.lit (.bool true)], args := [d1, d2] }
  | _ => none }
def vaJoinsRow : OpenClaim := { program := "ytbifpmaofkgkfaa", sum := "6ccd8a2c660a5e997c40b5f657f5916c9a07d95e129e3335a2e8f9b3e94aa77e", func := "dormer/dormerlaw03.VaJoins", spec := "vaJoins", apart := false }
def VaJoinsSaid : Prop := vaJoinsRow.holds Try.pinned (OpenSpec.ofChange vaJoinsSpec)

/-- ITS FALSE NEIGHBOUR: 'it returns false'. Refute it at one input. -/
def vaJoinsWrong : ChangeSpec := { name := "vaJoins", fn := fun _ => fun
  | [d1, d2] => { results := [.lit (.bool false)], args := [d1, d2] }
  | _ => none }
def VaJoinsWrongFalsely : Prop := vaJoinsRow.holds Try.pinned (OpenSpec.ofChange vaJoinsWrong)

/-- 'dormerlaw03.VaBack': WHATEVER THE INPUT: true; the input reads as it did. -/
def vaBackSpec : ChangeSpec := { name := "vaBack", fn := fun _ => fun
  | [d1, d2] => { results := [.lit (.bool true)], args := [d1, d2] }
  | _ => none }
def vaBackRow : OpenClaim := { program := "ytbifpmaofkgkfaa", sum := "6ccd8a2c660a5e997c40b5f657f5916c9a07d95e129e3335a2e8f9b3e94aa77e", func := "dormer/dormerlaw03.VaBack", spec := "vaBack", apart := false }
def VaBackSaid : Prop := vaBackRow.holds Try.pinned (OpenSpec.ofChange vaBackSpec)

/-- ITS FALSE NEIGHBOUR: 'it returns false'. Refute it at one input. -/
def vaBackWrong : ChangeSpec := { name := "vaBack", fn := fun _ => fun
  | [d1, d2] => { results := [.lit (.bool false)], args := [d1, d2] }
  | _ => none }
def VaBackWrongFalsely : Prop := vaBackRow.holds Try.pinned (OpenSpec.ofChange vaBackWrong)

/-- 'dormerlaw05.EntryBack': WHATEVER THE INPUT: true; the input reads as it did. -/
def entryBackSpec : ChangeSpec := { name := "entryBack", fn := fun _ => fun
  | [d1, d2] => { results := [.lit (.bool true)], args := [d1, d2] }
  | _ => none }
def entryBackRow : OpenClaim := { program := "ytbifpmaofkgkfaa", sum := "6ccd8a2c660a5e997c40b5f657f5916c9a07d95e129e3335a2e8f9b3e94aa77e", func := "dormer/dormerlaw05.EntryBack", spec := "entryBack", unfollowed := true, recurses := true, apart := false }
def EntryBackSaid : Prop := entryBackRow.holds Try.pinned (OpenSpec.ofChange entryBackSpec)

/-- ITS FALSE NEIGHBOUR: 'it returns false'. Refute it at one input. -/
def entryBackWrong : ChangeSpec := { name := "entryBack", fn := fun _ => fun
  | [d1, d2] => { results := [.lit (.bool false)], args := [d1, d2] }
  | _ => none }
def EntryBackWrongFalsely : Prop := entryBackRow.holds Try.pinned (OpenSpec.ofChange entryBackWrong)

/-- 'dormerlaw05.EntryGrows': WHATEVER THE INPUT: true; the input reads as it did. -/
def entryGrowsSpec : ChangeSpec := { name := "entryGrows", fn := fun _ => fun
  | [d1, d2, d3] => { results := [.lit (.bool true)], args := [d1, d2, d3] }
  | _ => none }
def entryGrowsRow : OpenClaim := { program := "ytbifpmaofkgkfaa", sum := "6ccd8a2c660a5e997c40b5f657f5916c9a07d95e129e3335a2e8f9b3e94aa77e", func := "dormer/dormerlaw05.EntryGrows", spec := "entryGrows", unfollowed := true, recurses := true, apart := false }
def EntryGrowsSaid : Prop := entryGrowsRow.holds Try.pinned (OpenSpec.ofChange entryGrowsSpec)

/-- ITS FALSE NEIGHBOUR: 'it returns false'. Refute it at one input. -/
def entryGrowsWrong : ChangeSpec := { name := "entryGrows", fn := fun _ => fun
  | [d1, d2, d3] => { results := [.lit (.bool false)], args := [d1, d2, d3] }
  | _ => none }
def EntryGrowsWrongFalsely : Prop := entryGrowsRow.holds Try.pinned (OpenSpec.ofChange entryGrowsWrong)

/-- 'dormerlaw12.GroupRuns': WHATEVER THE INPUT: true; the input reads as it did. -/
def groupRunsSpec : ChangeSpec := { name := "groupRuns", fn := fun _ => fun
  | [d] => { results := [.lit (.bool true)], args := [d] }
  | _ => none }
def groupRunsRow : OpenClaim := { program := "ytbifpmaofkgkfaa", sum := "6ccd8a2c660a5e997c40b5f657f5916c9a07d95e129e3335a2e8f9b3e94aa77e", func := "dormer/dormerlaw12.GroupRuns", spec := "groupRuns", apart := false }
def GroupRunsSaid : Prop := groupRunsRow.holds Try.pinned (OpenSpec.ofChange groupRunsSpec)

/-- ITS FALSE NEIGHBOUR: 'it returns false'. Refute it at one input. -/
def groupRunsWrong : ChangeSpec := { name := "groupRuns", fn := fun _ => fun
  | [d] => { results := [.lit (.bool false)], args := [d] }
  | _ => none }
def GroupRunsWrongFalsely : Prop := groupRunsRow.holds Try.pinned (OpenSpec.ofChange groupRunsWrong)

/-- 'dormerlaw12.GroupFrames': WHATEVER THE INPUT: true; the input reads as it did. -/
def groupFramesSpec : ChangeSpec := { name := "groupFrames", fn := fun _ => fun
  | [d] => { results := [.lit (.bool true)], args := [d] }
  | _ => none }
def groupFramesRow : OpenClaim := { program := "ytbifpmaofkgkfaa", sum := "6ccd8a2c660a5e997c40b5f657f5916c9a07d95e129e3335a2e8f9b3e94aa77e", func := "dormer/dormerlaw12.GroupFrames", spec := "groupFrames", apart := false }
def GroupFramesSaid : Prop := groupFramesRow.holds Try.pinned (OpenSpec.ofChange groupFramesSpec)

/-- ITS FALSE NEIGHBOUR: 'it returns false'. Refute it at one input. -/
def groupFramesWrong : ChangeSpec := { name := "groupFrames", fn := fun _ => fun
  | [d] => { results := [.lit (.bool false)], args := [d] }
  | _ => none }
def GroupFramesWrongFalsely : Prop := groupFramesRow.holds Try.pinned (OpenSpec.ofChange groupFramesWrong)

/-- 'dormerlaw12.GroupMeets': WHATEVER THE INPUT: true; the input reads as it did. -/
def groupMeetsSpec : ChangeSpec := { name := "groupMeets", fn := fun _ => fun
  | [d1, d2] => { results := [.lit (.bool true)], args := [d1, d2] }
  | _ => none }
def groupMeetsRow : OpenClaim := { program := "ytbifpmaofkgkfaa", sum := "6ccd8a2c660a5e997c40b5f657f5916c9a07d95e129e3335a2e8f9b3e94aa77e", func := "dormer/dormerlaw12.GroupMeets", spec := "groupMeets", apart := false }
def GroupMeetsSaid : Prop := groupMeetsRow.holds Try.pinned (OpenSpec.ofChange groupMeetsSpec)

/-- ITS FALSE NEIGHBOUR: 'it returns false'. Refute it at one input. -/
def groupMeetsWrong : ChangeSpec := { name := "groupMeets", fn := fun _ => fun
  | [d1, d2] => { results := [.lit (.bool false)], args := [d1, d2] }
  | _ => none }
def GroupMeetsWrongFalsely : Prop := groupMeetsRow.holds Try.pinned (OpenSpec.ofChange groupMeetsWrong)

/-- 'dormerlaw12.GroupSlots': WHATEVER THE INPUT: true; the input reads as it did. -/
def groupSlotsSpec : ChangeSpec := { name := "groupSlots", fn := fun _ => fun
  | [d1, d2] => { results := [.lit (.bool true)], args := [d1, d2] }
  | _ => none }
def groupSlotsRow : OpenClaim := { program := "ytbifpmaofkgkfaa", sum := "6ccd8a2c660a5e997c40b5f657f5916c9a07d95e129e3335a2e8f9b3e94aa77e", func := "dormer/dormerlaw12.GroupSlots", spec := "groupSlots", apart := false }
def GroupSlotsSaid : Prop := groupSlotsRow.holds Try.pinned (OpenSpec.ofChange groupSlotsSpec)

/-- ITS FALSE NEIGHBOUR: 'it returns false'. Refute it at one input. -/
def groupSlotsWrong : ChangeSpec := { name := "groupSlots", fn := fun _ => fun
  | [d1, d2] => { results := [.lit (.bool false)], args := [d1, d2] }
  | _ => none }
def GroupSlotsWrongFalsely : Prop := groupSlotsRow.holds Try.pinned (OpenSpec.ofChange groupSlotsWrong)

/-- 'dormerlaw05.EntryFrames': WHATEVER THE INPUT: true; the input reads as it did. -/
def entryFramesSpec : ChangeSpec := { name := "entryFrames", fn := fun _ => fun
  | [d1, d2] => { results := [.lit (.bool true)], args := [d1, d2] }
  | _ => none }
def entryFramesRow : OpenClaim := { program := "ytbifpmaofkgkfaa", sum := "6ccd8a2c660a5e997c40b5f657f5916c9a07d95e129e3335a2e8f9b3e94aa77e", func := "dormer/dormerlaw05.EntryFrames", spec := "entryFrames", unfollowed := true, recurses := true, apart := false }
def EntryFramesSaid : Prop := entryFramesRow.holds Try.pinned (OpenSpec.ofChange entryFramesSpec)

/-- ITS FALSE NEIGHBOUR: 'it returns false'. Refute it at one input. -/
def entryFramesWrong : ChangeSpec := { name := "entryFrames", fn := fun _ => fun
  | [d1, d2] => { results := [.lit (.bool false)], args := [d1, d2] }
  | _ => none }
def EntryFramesWrongFalsely : Prop := entryFramesRow.holds Try.pinned (OpenSpec.ofChange entryFramesWrong)

/-- 'dormerlaw12.GroupLines': WHATEVER THE INPUT: true; the input reads as it did. -/
def groupLinesSpec : ChangeSpec := { name := "groupLines", fn := fun _ => fun
  | [d1, d2, d3] => { results := [.lit (.bool true)], args := [d1, d2, d3] }
  | _ => none }
def groupLinesRow : OpenClaim := { program := "ytbifpmaofkgkfaa", sum := "6ccd8a2c660a5e997c40b5f657f5916c9a07d95e129e3335a2e8f9b3e94aa77e", func := "dormer/dormerlaw12.GroupLines", spec := "groupLines", apart := false }
def GroupLinesSaid : Prop := groupLinesRow.holds Try.pinned (OpenSpec.ofChange groupLinesSpec)

/-- ITS FALSE NEIGHBOUR: 'it returns false'. Refute it at one input. -/
def groupLinesWrong : ChangeSpec := { name := "groupLines", fn := fun _ => fun
  | [d1, d2, d3] => { results := [.lit (.bool false)], args := [d1, d2, d3] }
  | _ => none }
def GroupLinesWrongFalsely : Prop := groupLinesRow.holds Try.pinned (OpenSpec.ofChange groupLinesWrong)

/-- 'dormerlaw12.GroupLess': WHATEVER THE INPUT: true; the input reads as it did. -/
def groupLessSpec : ChangeSpec := { name := "groupLess", fn := fun _ => fun
  | [d1, d2, d3] => { results := [.lit (.bool true)], args := [d1, d2, d3] }
  | _ => none }
def groupLessRow : OpenClaim := { program := "ytbifpmaofkgkfaa", sum := "6ccd8a2c660a5e997c40b5f657f5916c9a07d95e129e3335a2e8f9b3e94aa77e", func := "dormer/dormerlaw12.GroupLess", spec := "groupLess", apart := false }
def GroupLessSaid : Prop := groupLessRow.holds Try.pinned (OpenSpec.ofChange groupLessSpec)

/-- ITS FALSE NEIGHBOUR: 'it returns false'. Refute it at one input. -/
def groupLessWrong : ChangeSpec := { name := "groupLess", fn := fun _ => fun
  | [d1, d2, d3] => { results := [.lit (.bool false)], args := [d1, d2, d3] }
  | _ => none }
def GroupLessWrongFalsely : Prop := groupLessRow.holds Try.pinned (OpenSpec.ofChange groupLessWrong)

/-- 'dormerlaw05.EntryTells': WHATEVER THE INPUT: true; the input reads as it did. -/
def entryTellsSpec : ChangeSpec := { name := "entryTells", fn := fun _ => fun
  | [d1, d2, d3] => { results := [.lit (.bool true)], args := [d1, d2, d3] }
  | _ => none }
def entryTellsRow : OpenClaim := { program := "ytbifpmaofkgkfaa", sum := "6ccd8a2c660a5e997c40b5f657f5916c9a07d95e129e3335a2e8f9b3e94aa77e", func := "dormer/dormerlaw05.EntryTells", spec := "entryTells", unfollowed := true, recurses := true, apart := false }
def EntryTellsSaid : Prop := entryTellsRow.holds Try.pinned (OpenSpec.ofChange entryTellsSpec)

/-- ITS FALSE NEIGHBOUR: 'it returns false'. Refute it at one input. -/
def entryTellsWrong : ChangeSpec := { name := "entryTells", fn := fun _ => fun
  | [d1, d2, d3] => { results := [.lit (.bool false)], args := [d1, d2, d3] }
  | _ => none }
def EntryTellsWrongFalsely : Prop := entryTellsRow.holds Try.pinned (OpenSpec.ofChange entryTellsWrong)

/- THE SECOND FORM. 'bulk': how many values and letters a reading holds, each counted each time it is reached (what is shared counts as often as it is met; a slice's spare places count too). A statement '..UptoSaid' is the law's where the arguments, and the package variables that the reading takes, are together of bulk at most 1048576: NARROWER than '..Said'. Prove '..Said' where nothing that the law and all that it calls make is longer than what came in: it says more and counts as full. Else prove '..UptoSaid'. A law counts once. -/
mutual
def uptoBulk {H : Type} : DataW H → Nat
  | .lit (.string bytes) => bytes.length + 1
  | .lit _ => 1
  | .nil => 1
  | .ptr d => uptoBulk d + 1
  | .slice elems spare => uptoBulkAll elems + uptoBulkAll spare + 1
  | .agg parts => uptoBulkAll parts + 1
  | .iface _ d => uptoBulk d + 1
  | .map entries => uptoBulkEntries entries + 1
  | .held _ => 1
def uptoBulkAll {H : Type} : List (DataW H) → Nat
  | [] => 0
  | d :: r => uptoBulk d + uptoBulkAll r
def uptoBulkEntries {H : Type} : List (Lit × DataW H) → Nat
  | [] => 0
  | x :: r => uptoBulkEntry x + uptoBulkEntries r
def uptoBulkEntry {H : Type} : Lit × DataW H → Nat
  | (.string bytes, d) => bytes.length + uptoBulk d + 1
  | (_, d) => uptoBulk d + 1
 end
def uptoSmall : (H : Type) → List (DataW H) → Bool := fun _ ds => decide (uptoBulkAll ds ≤ 1048576)
def OpenSpec.upto (s : _root_.Go.ChangeSpec) : _root_.Go.OpenSpec := { _root_.Go.OpenSpec.ofChange s with cond := some uptoSmall }

/-- 'dormerlaw03.VaTells', WHERE WHAT IT READS IS OF BULK AT MOST 1048576: true; the input reads as it did. -/
def vaTellsUptoRow : OpenClaim := { program := "ytbifpmaofkgkfaa", sum := "6ccd8a2c660a5e997c40b5f657f5916c9a07d95e129e3335a2e8f9b3e94aa77e", func := "dormer/dormerlaw03.VaTells", spec := "vaTells", apart := false, narrowed := true }
def VaTellsUptoSaid : Prop := vaTellsUptoRow.holds Try.pinned (OpenSpec.upto vaTellsSpec)

/-- 'dormerlaw03.VaPages', WHERE WHAT IT READS IS OF BULK AT MOST 1048576: true; the input reads as it did. -/
def vaPagesUptoRow : OpenClaim := { program := "ytbifpmaofkgkfaa", sum := "6ccd8a2c660a5e997c40b5f657f5916c9a07d95e129e3335a2e8f9b3e94aa77e", func := "dormer/dormerlaw03.VaPages", spec := "vaPages", apart := false, narrowed := true }
def VaPagesUptoSaid : Prop := vaPagesUptoRow.holds Try.pinned (OpenSpec.upto vaPagesSpec)

/-- 'dormerlaw03.VaNext', WHERE WHAT IT READS IS OF BULK AT MOST 1048576: true; the input reads as it did. -/
def vaNextUptoRow : OpenClaim := { program := "ytbifpmaofkgkfaa", sum := "6ccd8a2c660a5e997c40b5f657f5916c9a07d95e129e3335a2e8f9b3e94aa77e", func := "dormer/dormerlaw03.VaNext", spec := "vaNext", apart := false, narrowed := true }
def VaNextUptoSaid : Prop := vaNextUptoRow.holds Try.pinned (OpenSpec.upto vaNextSpec)

/-- 'dormerlaw03.VaNone', WHERE WHAT IT READS IS OF BULK AT MOST 1048576: true; the input reads as it did. -/
def vaNoneUptoRow : OpenClaim := { program := "ytbifpmaofkgkfaa", sum := "6ccd8a2c660a5e997c40b5f657f5916c9a07d95e129e3335a2e8f9b3e94aa77e", func := "dormer/dormerlaw03.VaNone", spec := "vaNone", apart := false, narrowed := true }
def VaNoneUptoSaid : Prop := vaNoneUptoRow.holds Try.pinned (OpenSpec.upto vaNoneSpec)

/-- 'dormerlaw05.EntryMay', WHERE WHAT IT READS IS OF BULK AT MOST 1048576: true; the input reads as it did. -/
def entryMayUptoRow : OpenClaim := { program := "ytbifpmaofkgkfaa", sum := "6ccd8a2c660a5e997c40b5f657f5916c9a07d95e129e3335a2e8f9b3e94aa77e", func := "dormer/dormerlaw05.EntryMay", spec := "entryMay", unfollowed := true, recurses := true, apart := false, narrowed := true }
def EntryMayUptoSaid : Prop := entryMayUptoRow.holds Try.pinned (OpenSpec.upto entryMaySpec)

/-- 'dormerlaw05.EntrySlots', WHERE WHAT IT READS IS OF BULK AT MOST 1048576: true; the input reads as it did. -/
def entrySlotsUptoRow : OpenClaim := { program := "ytbifpmaofkgkfaa", sum := "6ccd8a2c660a5e997c40b5f657f5916c9a07d95e129e3335a2e8f9b3e94aa77e", func := "dormer/dormerlaw05.EntrySlots", spec := "entrySlots", unfollowed := true, recurses := true, apart := false, narrowed := true }
def EntrySlotsUptoSaid : Prop := entrySlotsUptoRow.holds Try.pinned (OpenSpec.upto entrySlotsSpec)

/-- 'dormerlaw03.VaJoins', WHERE WHAT IT READS IS OF BULK AT MOST 1048576: true; the input reads as it did. -/
def vaJoinsUptoRow : OpenClaim := { program := "ytbifpmaofkgkfaa", sum := "6ccd8a2c660a5e997c40b5f657f5916c9a07d95e129e3335a2e8f9b3e94aa77e", func := "dormer/dormerlaw03.VaJoins", spec := "vaJoins", apart := false, narrowed := true }
def VaJoinsUptoSaid : Prop := vaJoinsUptoRow.holds Try.pinned (OpenSpec.upto vaJoinsSpec)

/-- 'dormerlaw03.VaBack', WHERE WHAT IT READS IS OF BULK AT MOST 1048576: true; the input reads as it did. -/
def vaBackUptoRow : OpenClaim := { program := "ytbifpmaofkgkfaa", sum := "6ccd8a2c660a5e997c40b5f657f5916c9a07d95e129e3335a2e8f9b3e94aa77e", func := "dormer/dormerlaw03.VaBack", spec := "vaBack", apart := false, narrowed := true }
def VaBackUptoSaid : Prop := vaBackUptoRow.holds Try.pinned (OpenSpec.upto vaBackSpec)

/-- 'dormerlaw05.EntryBack', WHERE WHAT IT READS IS OF BULK AT MOST 1048576: true; the input reads as it did. -/
def entryBackUptoRow : OpenClaim := { program := "ytbifpmaofkgkfaa", sum := "6ccd8a2c660a5e997c40b5f657f5916c9a07d95e129e3335a2e8f9b3e94aa77e", func := "dormer/dormerlaw05.EntryBack", spec := "entryBack", unfollowed := true, recurses := true, apart := false, narrowed := true }
def EntryBackUptoSaid : Prop := entryBackUptoRow.holds Try.pinned (OpenSpec.upto entryBackSpec)

/-- 'dormerlaw05.EntryGrows', WHERE WHAT IT READS IS OF BULK AT MOST 1048576: true; the input reads as it did. -/
def entryGrowsUptoRow : OpenClaim := { program := "ytbifpmaofkgkfaa", sum := "6ccd8a2c660a5e997c40b5f657f5916c9a07d95e129e3335a2e8f9b3e94aa77e", func := "dormer/dormerlaw05.EntryGrows", spec := "entryGrows", unfollowed := true, recurses := true, apart := false, narrowed := true }
def EntryGrowsUptoSaid : Prop := entryGrowsUptoRow.holds Try.pinned (OpenSpec.upto entryGrowsSpec)

/-- 'dormerlaw12.GroupRuns', WHERE WHAT IT READS IS OF BULK AT MOST 1048576: true; the input reads as it did. -/
def groupRunsUptoRow : OpenClaim := { program := "ytbifpmaofkgkfaa", sum := "6ccd8a2c660a5e997c40b5f657f5916c9a07d95e129e3335a2e8f9b3e94aa77e", func := "dormer/dormerlaw12.GroupRuns", spec := "groupRuns", apart := false, narrowed := true }
def GroupRunsUptoSaid : Prop := groupRunsUptoRow.holds Try.pinned (OpenSpec.upto groupRunsSpec)

/-- 'dormerlaw12.GroupFrames', WHERE WHAT IT READS IS OF BULK AT MOST 1048576: true; the input reads as it did. -/
def groupFramesUptoRow : OpenClaim := { program := "ytbifpmaofkgkfaa", sum := "6ccd8a2c660a5e997c40b5f657f5916c9a07d95e129e3335a2e8f9b3e94aa77e", func := "dormer/dormerlaw12.GroupFrames", spec := "groupFrames", apart := false, narrowed := true }
def GroupFramesUptoSaid : Prop := groupFramesUptoRow.holds Try.pinned (OpenSpec.upto groupFramesSpec)

/-- 'dormerlaw12.GroupMeets', WHERE WHAT IT READS IS OF BULK AT MOST 1048576: true; the input reads as it did. -/
def groupMeetsUptoRow : OpenClaim := { program := "ytbifpmaofkgkfaa", sum := "6ccd8a2c660a5e997c40b5f657f5916c9a07d95e129e3335a2e8f9b3e94aa77e", func := "dormer/dormerlaw12.GroupMeets", spec := "groupMeets", apart := false, narrowed := true }
def GroupMeetsUptoSaid : Prop := groupMeetsUptoRow.holds Try.pinned (OpenSpec.upto groupMeetsSpec)

/-- 'dormerlaw12.GroupSlots', WHERE WHAT IT READS IS OF BULK AT MOST 1048576: true; the input reads as it did. -/
def groupSlotsUptoRow : OpenClaim := { program := "ytbifpmaofkgkfaa", sum := "6ccd8a2c660a5e997c40b5f657f5916c9a07d95e129e3335a2e8f9b3e94aa77e", func := "dormer/dormerlaw12.GroupSlots", spec := "groupSlots", apart := false, narrowed := true }
def GroupSlotsUptoSaid : Prop := groupSlotsUptoRow.holds Try.pinned (OpenSpec.upto groupSlotsSpec)

/-- 'dormerlaw05.EntryFrames', WHERE WHAT IT READS IS OF BULK AT MOST 1048576: true; the input reads as it did. -/
def entryFramesUptoRow : OpenClaim := { program := "ytbifpmaofkgkfaa", sum := "6ccd8a2c660a5e997c40b5f657f5916c9a07d95e129e3335a2e8f9b3e94aa77e", func := "dormer/dormerlaw05.EntryFrames", spec := "entryFrames", unfollowed := true, recurses := true, apart := false, narrowed := true }
def EntryFramesUptoSaid : Prop := entryFramesUptoRow.holds Try.pinned (OpenSpec.upto entryFramesSpec)

/-- 'dormerlaw12.GroupLines', WHERE WHAT IT READS IS OF BULK AT MOST 1048576: true; the input reads as it did. -/
def groupLinesUptoRow : OpenClaim := { program := "ytbifpmaofkgkfaa", sum := "6ccd8a2c660a5e997c40b5f657f5916c9a07d95e129e3335a2e8f9b3e94aa77e", func := "dormer/dormerlaw12.GroupLines", spec := "groupLines", apart := false, narrowed := true }
def GroupLinesUptoSaid : Prop := groupLinesUptoRow.holds Try.pinned (OpenSpec.upto groupLinesSpec)

/-- 'dormerlaw12.GroupLess', WHERE WHAT IT READS IS OF BULK AT MOST 1048576: true; the input reads as it did. -/
def groupLessUptoRow : OpenClaim := { program := "ytbifpmaofkgkfaa", sum := "6ccd8a2c660a5e997c40b5f657f5916c9a07d95e129e3335a2e8f9b3e94aa77e", func := "dormer/dormerlaw12.GroupLess", spec := "groupLess", apart := false, narrowed := true }
def GroupLessUptoSaid : Prop := groupLessUptoRow.holds Try.pinned (OpenSpec.upto groupLessSpec)

/-- 'dormerlaw05.EntryTells', WHERE WHAT IT READS IS OF BULK AT MOST 1048576: true; the input reads as it did. -/
def entryTellsUptoRow : OpenClaim := { program := "ytbifpmaofkgkfaa", sum := "6ccd8a2c660a5e997c40b5f657f5916c9a07d95e129e3335a2e8f9b3e94aa77e", func := "dormer/dormerlaw05.EntryTells", spec := "entryTells", unfollowed := true, recurses := true, apart := false, narrowed := true }
def EntryTellsUptoSaid : Prop := entryTellsUptoRow.holds Try.pinned (OpenSpec.upto entryTellsSpec)

end Rows
end Go.Proofs.Ytbifpmaofkgkfaa
