/-
  No cell of these rows narrows 'for every input' (looked for: loops, veiled, ifaces, maps, wideKeys, modest, calm, conditions, laid).
  DERIVED. THE GIVEN ROWS OF THIS SEAT. 12 by the template 'for every input the law returns true; each argument reads behind the call as it read before'; 0 by the template 'total and deterministic' (their statements: YtddjnicmpgbcgaaTotals.lean).
  GIVEN WITH THE SEED: the statements are not yours to turn. If you find one false, say at which input.
  Laid BY PROGRAM, IN A SANDBOX (cutbox-rows.mjs): the forced cells as the released guide's own fill.sh prints them over the translation 7f5b83ed5490933e… (all of the seat's roots in one cut). By AI agents, Wed Nov 11 2026. No macro, syntax, notation, axiom, sorry.
-/
import Derived.Test.YtddjnicmpgbcgaaChecked
import GoSem.Claim
import GoSem.ClaimJoined
import GoSem.ClaimMapViews
import Derived.JoinedTies
import Derived.KernelRfl
namespace Go.Proofs.Ytddjnicmpgbcgaa
/- THE CELL 'sum', in the pinned program and in every row, IS THE sha256 OF THE DUMP (.gsa) THAT YtddjnicmpgbcgaaProg.lean LOADS. Nothing in Lean hashes anything: it is a label: what it is worth is what the hold of that sum in a sandbox is worth. -/
noncomputable def Try.pinned : Pinned := { name := "ytddjnicmpgbcgaa", sum := "7f5b83ed5490933e58379cee27a4053a118bcdae67a6d7df0b3a179c77122e93", checked := Try.checked }
namespace Rows
def none {H : Type} : Left H := { results := [], args := [] }

/-- 'reelkeeperlaw06.TreeTells': WHATEVER THE INPUT: true; the input reads as it did. -/
def treeTellsSpec : ChangeSpec := { name := "treeTells", fn := fun _ => fun
  | [d1, d2, d3, d4] => { results := [.lit (.bool true)], args := [d1, d2, d3, d4] }
  | _ => none }
def treeTellsRow : OpenClaim := { program := "ytddjnicmpgbcgaa", sum := "7f5b83ed5490933e58379cee27a4053a118bcdae67a6d7df0b3a179c77122e93", func := "reelkeeper/reelkeeperlaw06.TreeTells", spec := "treeTells", inPlace := ["internal/bytealg.IndexByteString", "internal/bytealg.IndexString"], unfollowed := true, recurses := true, named := ["internal/bytealg.MaxLen"], apart := false }
def TreeTellsSaid : Prop := treeTellsRow.holds Try.pinned (OpenSpec.ofChange treeTellsSpec)

/-- ITS FALSE NEIGHBOUR: 'it returns false'. Refute it at one input. -/
def treeTellsWrong : ChangeSpec := { name := "treeTells", fn := fun _ => fun
  | [d1, d2, d3, d4] => { results := [.lit (.bool false)], args := [d1, d2, d3, d4] }
  | _ => none }
def TreeTellsWrongFalsely : Prop := treeTellsRow.holds Try.pinned (OpenSpec.ofChange treeTellsWrong)

/-- 'reelkeeperlaw06.TreeFirst': WHATEVER THE INPUT: true; the input reads as it did. -/
def treeFirstSpec : ChangeSpec := { name := "treeFirst", fn := fun _ => fun
  | [d1, d2] => { results := [.lit (.bool true)], args := [d1, d2] }
  | _ => none }
def treeFirstRow : OpenClaim := { program := "ytddjnicmpgbcgaa", sum := "7f5b83ed5490933e58379cee27a4053a118bcdae67a6d7df0b3a179c77122e93", func := "reelkeeper/reelkeeperlaw06.TreeFirst", spec := "treeFirst", inPlace := ["internal/bytealg.IndexByteString", "internal/bytealg.IndexString"], unfollowed := true, recurses := true, named := ["internal/bytealg.MaxLen"], apart := false }
def TreeFirstSaid : Prop := treeFirstRow.holds Try.pinned (OpenSpec.ofChange treeFirstSpec)

/-- ITS FALSE NEIGHBOUR: 'it returns false'. Refute it at one input. -/
def treeFirstWrong : ChangeSpec := { name := "treeFirst", fn := fun _ => fun
  | [d1, d2] => { results := [.lit (.bool false)], args := [d1, d2] }
  | _ => none }
def TreeFirstWrongFalsely : Prop := treeFirstRow.holds Try.pinned (OpenSpec.ofChange treeFirstWrong)

/-- 'reelkeeperlaw06.TreeUnder': WHATEVER THE INPUT: true; the input reads as it did. -/
def treeUnderSpec : ChangeSpec := { name := "treeUnder", fn := fun _ => fun
  | [d1, d2, d3] => { results := [.lit (.bool true)], args := [d1, d2, d3] }
  | _ => none }
def treeUnderRow : OpenClaim := { program := "ytddjnicmpgbcgaa", sum := "7f5b83ed5490933e58379cee27a4053a118bcdae67a6d7df0b3a179c77122e93", func := "reelkeeper/reelkeeperlaw06.TreeUnder", spec := "treeUnder", inPlace := ["internal/bytealg.IndexByteString", "internal/bytealg.IndexString"], unfollowed := true, recurses := true, named := ["internal/bytealg.MaxLen"], apart := false }
def TreeUnderSaid : Prop := treeUnderRow.holds Try.pinned (OpenSpec.ofChange treeUnderSpec)

/-- ITS FALSE NEIGHBOUR: 'it returns false'. Refute it at one input. -/
def treeUnderWrong : ChangeSpec := { name := "treeUnder", fn := fun _ => fun
  | [d1, d2, d3] => { results := [.lit (.bool false)], args := [d1, d2, d3] }
  | _ => none }
def TreeUnderWrongFalsely : Prop := treeUnderRow.holds Try.pinned (OpenSpec.ofChange treeUnderWrong)

/-- 'reelkeeperlaw06.TreeMore': WHATEVER THE INPUT: true; the input reads as it did. -/
def treeMoreSpec : ChangeSpec := { name := "treeMore", fn := fun _ => fun
  | [d1, d2] => { results := [.lit (.bool true)], args := [d1, d2] }
  | _ => none }
def treeMoreRow : OpenClaim := { program := "ytddjnicmpgbcgaa", sum := "7f5b83ed5490933e58379cee27a4053a118bcdae67a6d7df0b3a179c77122e93", func := "reelkeeper/reelkeeperlaw06.TreeMore", spec := "treeMore", inPlace := ["internal/bytealg.IndexByteString", "internal/bytealg.IndexString"], unfollowed := true, recurses := true, named := ["internal/bytealg.MaxLen"], apart := false }
def TreeMoreSaid : Prop := treeMoreRow.holds Try.pinned (OpenSpec.ofChange treeMoreSpec)

/-- ITS FALSE NEIGHBOUR: 'it returns false'. Refute it at one input. -/
def treeMoreWrong : ChangeSpec := { name := "treeMore", fn := fun _ => fun
  | [d1, d2] => { results := [.lit (.bool false)], args := [d1, d2] }
  | _ => none }
def TreeMoreWrongFalsely : Prop := treeMoreRow.holds Try.pinned (OpenSpec.ofChange treeMoreWrong)

/-- 'reelkeeperlaw06.TreeTwice': WHATEVER THE INPUT: true; the input reads as it did. -/
def treeTwiceSpec : ChangeSpec := { name := "treeTwice", fn := fun _ => fun
  | [d1, d2, d3] => { results := [.lit (.bool true)], args := [d1, d2, d3] }
  | _ => none }
def treeTwiceRow : OpenClaim := { program := "ytddjnicmpgbcgaa", sum := "7f5b83ed5490933e58379cee27a4053a118bcdae67a6d7df0b3a179c77122e93", func := "reelkeeper/reelkeeperlaw06.TreeTwice", spec := "treeTwice", inPlace := ["internal/bytealg.IndexByteString", "internal/bytealg.IndexString"], unfollowed := true, recurses := true, named := ["internal/bytealg.MaxLen"], apart := false }
def TreeTwiceSaid : Prop := treeTwiceRow.holds Try.pinned (OpenSpec.ofChange treeTwiceSpec)

/-- ITS FALSE NEIGHBOUR: 'it returns false'. Refute it at one input. -/
def treeTwiceWrong : ChangeSpec := { name := "treeTwice", fn := fun _ => fun
  | [d1, d2, d3] => { results := [.lit (.bool false)], args := [d1, d2, d3] }
  | _ => none }
def TreeTwiceWrongFalsely : Prop := treeTwiceRow.holds Try.pinned (OpenSpec.ofChange treeTwiceWrong)

/-- 'reelkeeperlaw06.TreeFiles': WHATEVER THE INPUT: true; the input reads as it did. -/
def treeFilesSpec : ChangeSpec := { name := "treeFiles", fn := fun _ => fun
  | [d1, d2] => { results := [.lit (.bool true)], args := [d1, d2] }
  | _ => none }
def treeFilesRow : OpenClaim := { program := "ytddjnicmpgbcgaa", sum := "7f5b83ed5490933e58379cee27a4053a118bcdae67a6d7df0b3a179c77122e93", func := "reelkeeper/reelkeeperlaw06.TreeFiles", spec := "treeFiles", inPlace := ["internal/bytealg.IndexByteString", "internal/bytealg.IndexString"], unfollowed := true, recurses := true, named := ["internal/bytealg.MaxLen"], apart := false }
def TreeFilesSaid : Prop := treeFilesRow.holds Try.pinned (OpenSpec.ofChange treeFilesSpec)

/-- ITS FALSE NEIGHBOUR: 'it returns false'. Refute it at one input. -/
def treeFilesWrong : ChangeSpec := { name := "treeFiles", fn := fun _ => fun
  | [d1, d2] => { results := [.lit (.bool false)], args := [d1, d2] }
  | _ => none }
def TreeFilesWrongFalsely : Prop := treeFilesRow.holds Try.pinned (OpenSpec.ofChange treeFilesWrong)

/-- 'reelkeeperlaw05.LongTells': WHATEVER THE INPUT: true; the input reads as it did. -/
def longTellsSpec : ChangeSpec := { name := "longTells", fn := fun _ => fun
  | [d1, d2, d3] => { results := [.lit (.bool true)], args := [d1, d2, d3] }
  | _ => none }
def longTellsRow : OpenClaim := { program := "ytddjnicmpgbcgaa", sum := "7f5b83ed5490933e58379cee27a4053a118bcdae67a6d7df0b3a179c77122e93", func := "reelkeeper/reelkeeperlaw05.LongTells", spec := "longTells", inPlace := ["internal/bytealg.IndexByteString", "internal/bytealg.IndexString"], unfollowed := true, recurses := true, named := ["internal/bytealg.MaxLen"], apart := false }
def LongTellsSaid : Prop := longTellsRow.holds Try.pinned (OpenSpec.ofChange longTellsSpec)

/-- ITS FALSE NEIGHBOUR: 'it returns false'. Refute it at one input. -/
def longTellsWrong : ChangeSpec := { name := "longTells", fn := fun _ => fun
  | [d1, d2, d3] => { results := [.lit (.bool false)], args := [d1, d2, d3] }
  | _ => none }
def LongTellsWrongFalsely : Prop := longTellsRow.holds Try.pinned (OpenSpec.ofChange longTellsWrong)

/-- 'reelkeeperlaw05.LongSize': WHATEVER THE INPUT: true; the input reads as it did. -/
def longSizeSpec : ChangeSpec := { name := "longSize", fn := fun _ => fun
  | [d1, d2, d3, d4] => { results := [.lit (.bool true)], args := [d1, d2, d3, d4] }
  | _ => none }
def longSizeRow : OpenClaim := { program := "ytddjnicmpgbcgaa", sum := "7f5b83ed5490933e58379cee27a4053a118bcdae67a6d7df0b3a179c77122e93", func := "reelkeeper/reelkeeperlaw05.LongSize", spec := "longSize", inPlace := ["internal/bytealg.IndexByteString", "internal/bytealg.IndexString"], unfollowed := true, recurses := true, named := ["internal/bytealg.MaxLen"], apart := false }
def LongSizeSaid : Prop := longSizeRow.holds Try.pinned (OpenSpec.ofChange longSizeSpec)

/-- ITS FALSE NEIGHBOUR: 'it returns false'. Refute it at one input. -/
def longSizeWrong : ChangeSpec := { name := "longSize", fn := fun _ => fun
  | [d1, d2, d3, d4] => { results := [.lit (.bool false)], args := [d1, d2, d3, d4] }
  | _ => none }
def LongSizeWrongFalsely : Prop := longSizeRow.holds Try.pinned (OpenSpec.ofChange longSizeWrong)

/-- 'reelkeeperlaw05.LongNeeds': WHATEVER THE INPUT: true; the input reads as it did. -/
def longNeedsSpec : ChangeSpec := { name := "longNeeds", fn := fun _ => fun
  | [d1, d2] => { results := [.lit (.bool true)], args := [d1, d2] }
  | _ => none }
def longNeedsRow : OpenClaim := { program := "ytddjnicmpgbcgaa", sum := "7f5b83ed5490933e58379cee27a4053a118bcdae67a6d7df0b3a179c77122e93", func := "reelkeeper/reelkeeperlaw05.LongNeeds", spec := "longNeeds", inPlace := ["internal/bytealg.IndexByteString", "internal/bytealg.IndexString"], unfollowed := true, recurses := true, named := ["internal/bytealg.MaxLen"], apart := false }
def LongNeedsSaid : Prop := longNeedsRow.holds Try.pinned (OpenSpec.ofChange longNeedsSpec)

/-- ITS FALSE NEIGHBOUR: 'it returns false'. Refute it at one input. -/
def longNeedsWrong : ChangeSpec := { name := "longNeeds", fn := fun _ => fun
  | [d1, d2] => { results := [.lit (.bool false)], args := [d1, d2] }
  | _ => none }
def LongNeedsWrongFalsely : Prop := longNeedsRow.holds Try.pinned (OpenSpec.ofChange longNeedsWrong)

/-- 'reelkeeperlaw05.LongKinds': WHATEVER THE INPUT: true; the input reads as it did. -/
def longKindsSpec : ChangeSpec := { name := "longKinds", fn := fun _ => fun
  | [d1, d2] => { results := [.lit (.bool true)], args := [d1, d2] }
  | _ => none }
def longKindsRow : OpenClaim := { program := "ytddjnicmpgbcgaa", sum := "7f5b83ed5490933e58379cee27a4053a118bcdae67a6d7df0b3a179c77122e93", func := "reelkeeper/reelkeeperlaw05.LongKinds", spec := "longKinds", inPlace := ["internal/bytealg.IndexByteString", "internal/bytealg.IndexString"], unfollowed := true, recurses := true, named := ["internal/bytealg.MaxLen"], apart := false }
def LongKindsSaid : Prop := longKindsRow.holds Try.pinned (OpenSpec.ofChange longKindsSpec)

/-- ITS FALSE NEIGHBOUR: 'it returns false'. Refute it at one input. -/
def longKindsWrong : ChangeSpec := { name := "longKinds", fn := fun _ => fun
  | [d1, d2] => { results := [.lit (.bool false)], args := [d1, d2] }
  | _ => none }
def LongKindsWrongFalsely : Prop := longKindsRow.holds Try.pinned (OpenSpec.ofChange longKindsWrong)

/-- 'reelkeeperlaw05.LongNames': WHATEVER THE INPUT: true; the input reads as it did. -/
def longNamesSpec : ChangeSpec := { name := "longNames", fn := fun _ => fun
  | [d] => { results := [.lit (.bool true)], args := [d] }
  | _ => none }
def longNamesRow : OpenClaim := { program := "ytddjnicmpgbcgaa", sum := "7f5b83ed5490933e58379cee27a4053a118bcdae67a6d7df0b3a179c77122e93", func := "reelkeeper/reelkeeperlaw05.LongNames", spec := "longNames", inPlace := ["internal/bytealg.IndexByteString", "internal/bytealg.IndexString"], unfollowed := true, recurses := true, named := ["internal/bytealg.MaxLen"], apart := false }
def LongNamesSaid : Prop := longNamesRow.holds Try.pinned (OpenSpec.ofChange longNamesSpec)

/-- ITS FALSE NEIGHBOUR: 'it returns false'. Refute it at one input. -/
def longNamesWrong : ChangeSpec := { name := "longNames", fn := fun _ => fun
  | [d] => { results := [.lit (.bool false)], args := [d] }
  | _ => none }
def LongNamesWrongFalsely : Prop := longNamesRow.holds Try.pinned (OpenSpec.ofChange longNamesWrong)

/-- 'reelkeeperlaw05.LongAhead': WHATEVER THE INPUT: true; the input reads as it did. -/
def longAheadSpec : ChangeSpec := { name := "longAhead", fn := fun _ => fun
  | [d] => { results := [.lit (.bool true)], args := [d] }
  | _ => none }
def longAheadRow : OpenClaim := { program := "ytddjnicmpgbcgaa", sum := "7f5b83ed5490933e58379cee27a4053a118bcdae67a6d7df0b3a179c77122e93", func := "reelkeeper/reelkeeperlaw05.LongAhead", spec := "longAhead", inPlace := ["internal/bytealg.IndexByteString", "internal/bytealg.IndexString"], unfollowed := true, recurses := true, named := ["internal/bytealg.MaxLen"], apart := false }
def LongAheadSaid : Prop := longAheadRow.holds Try.pinned (OpenSpec.ofChange longAheadSpec)

/-- ITS FALSE NEIGHBOUR: 'it returns false'. Refute it at one input. -/
def longAheadWrong : ChangeSpec := { name := "longAhead", fn := fun _ => fun
  | [d] => { results := [.lit (.bool false)], args := [d] }
  | _ => none }
def LongAheadWrongFalsely : Prop := longAheadRow.holds Try.pinned (OpenSpec.ofChange longAheadWrong)

/- THE SECOND FORM. 'bulk': how many values and letters a reading holds, each counted each time it is reached (what is shared counts as often as it is met; a slice's spare places count too). A statement '..UptoSaid' is the law's where the arguments, and the package variables that the reading takes, are together of bulk at most 1048576: NARROWER than '..Said'. Prove '..Said' where nothing that the law and all that it calls make is longer than what came in: it says more and counts as full. Else prove '..UptoSaid'. A law counts once. -/
mutual
def uptoBulk {H : Type} : DataW H → Nat
  | .lit (.string bytes) => bytes.length + 1
  | .lit _ => 1
  | .nil => 1
  | .ptr d => uptoBulk d + 1
  | .slice elems spare => uptoBulkAll elems + uptoBulkAll spare + 1
  | .agg parts => uptoBulkAll parts + 1
  | .iface _ d => uptoBulk d + 1
  | .map entries => uptoBulkEntries entries + 1
  | .held _ => 1
def uptoBulkAll {H : Type} : List (DataW H) → Nat
  | [] => 0
  | d :: r => uptoBulk d + uptoBulkAll r
def uptoBulkEntries {H : Type} : List (Lit × DataW H) → Nat
  | [] => 0
  | x :: r => uptoBulkEntry x + uptoBulkEntries r
def uptoBulkEntry {H : Type} : Lit × DataW H → Nat
  | (.string bytes, d) => bytes.length + uptoBulk d + 1
  | (_, d) => uptoBulk d + 1
 end
def uptoSmall : (H : Type) → List (DataW H) → Bool := fun _ ds => decide (uptoBulkAll ds ≤ 1048576)
def OpenSpec.upto (s : _root_.Go.ChangeSpec) : _root_.Go.OpenSpec := { _root_.Go.OpenSpec.ofChange s with cond := some uptoSmall }

/-- 'reelkeeperlaw06.TreeTells', WHERE WHAT IT READS IS OF BULK AT MOST 1048576: true; the input reads as it did. -/
def treeTellsUptoRow : OpenClaim := { program := "ytddjnicmpgbcgaa", sum := "7f5b83ed5490933e58379cee27a4053a118bcdae67a6d7df0b3a179c77122e93", func := "reelkeeper/reelkeeperlaw06.TreeTells", spec := "treeTells", inPlace := ["internal/bytealg.IndexByteString", "internal/bytealg.IndexString"], unfollowed := true, recurses := true, named := ["internal/bytealg.MaxLen"], apart := false, narrowed := true }
def TreeTellsUptoSaid : Prop := treeTellsUptoRow.holds Try.pinned (OpenSpec.upto treeTellsSpec)

/-- 'reelkeeperlaw06.TreeFirst', WHERE WHAT IT READS IS OF BULK AT MOST 1048576: true; the input reads as it did. -/
def treeFirstUptoRow : OpenClaim := { program := "ytddjnicmpgbcgaa", sum := "7f5b83ed5490933e58379cee27a4053a118bcdae67a6d7df0b3a179c77122e93", func := "reelkeeper/reelkeeperlaw06.TreeFirst", spec := "treeFirst", inPlace := ["internal/bytealg.IndexByteString", "internal/bytealg.IndexString"], unfollowed := true, recurses := true, named := ["internal/bytealg.MaxLen"], apart := false, narrowed := true }
def TreeFirstUptoSaid : Prop := treeFirstUptoRow.holds Try.pinned (OpenSpec.upto treeFirstSpec)

/-- 'reelkeeperlaw06.TreeUnder', WHERE WHAT IT READS IS OF BULK AT MOST 1048576: true; the input reads as it did. -/
def treeUnderUptoRow : OpenClaim := { program := "ytddjnicmpgbcgaa", sum := "7f5b83ed5490933e58379cee27a4053a118bcdae67a6d7df0b3a179c77122e93", func := "reelkeeper/reelkeeperlaw06.TreeUnder", spec := "treeUnder", inPlace := ["internal/bytealg.IndexByteString", "internal/bytealg.IndexString"], unfollowed := true, recurses := true, named := ["internal/bytealg.MaxLen"], apart := false, narrowed := true }
def TreeUnderUptoSaid : Prop := treeUnderUptoRow.holds Try.pinned (OpenSpec.upto treeUnderSpec)

/-- 'reelkeeperlaw06.TreeMore', WHERE WHAT IT READS IS OF BULK AT MOST 1048576: true; the input reads as it did. -/
def treeMoreUptoRow : OpenClaim := { program := "ytddjnicmpgbcgaa", sum := "7f5b83ed5490933e58379cee27a4053a118bcdae67a6d7df0b3a179c77122e93", func := "reelkeeper/reelkeeperlaw06.TreeMore", spec := "treeMore", inPlace := ["internal/bytealg.IndexByteString", "internal/bytealg.IndexString"], unfollowed := true, recurses := true, named := ["internal/bytealg.MaxLen"], apart := false, narrowed := true }
def TreeMoreUptoSaid : Prop := treeMoreUptoRow.holds Try.pinned (OpenSpec.upto treeMoreSpec)

/-- 'reelkeeperlaw06.TreeTwice', WHERE WHAT IT READS IS OF BULK AT MOST 1048576: true; the input reads as it did. -/
def treeTwiceUptoRow : OpenClaim := { program := "ytddjnicmpgbcgaa", sum := "7f5b83ed5490933e58379cee27a4053a118bcdae67a6d7df0b3a179c77122e93", func := "reelkeeper/reelkeeperlaw06.TreeTwice", spec := "treeTwice", inPlace := ["internal/bytealg.IndexByteString", "internal/bytealg.IndexString"], unfollowed := true, recurses := true, named := ["internal/bytealg.MaxLen"], apart := false, narrowed := true }
def TreeTwiceUptoSaid : Prop := treeTwiceUptoRow.holds Try.pinned (OpenSpec.upto treeTwiceSpec)

/-- 'reelkeeperlaw06.TreeFiles', WHERE WHAT IT READS IS OF BULK AT MOST 1048576: true; the input reads as it did. -/
def treeFilesUptoRow : OpenClaim := { program := "ytddjnicmpgbcgaa", sum := "7f5b83ed5490933e58379cee27a4053a118bcdae67a6d7df0b3a179c77122e93", func := "reelkeeper/reelkeeperlaw06.TreeFiles", spec := "treeFiles", inPlace := ["internal/bytealg.IndexByteString", "internal/bytealg.IndexString"], unfollowed := true, recurses := true, named := ["internal/bytealg.MaxLen"], apart := false, narrowed := true }
def TreeFilesUptoSaid : Prop := treeFilesUptoRow.holds Try.pinned (OpenSpec.upto treeFilesSpec)

/-- 'reelkeeperlaw05.LongTells', WHERE WHAT IT READS IS OF BULK AT MOST 1048576: true; the input reads as it did. -/
def longTellsUptoRow : OpenClaim := { program := "ytddjnicmpgbcgaa", sum := "7f5b83ed5490933e58379cee27a4053a118bcdae67a6d7df0b3a179c77122e93", func := "reelkeeper/reelkeeperlaw05.LongTells", spec := "longTells", inPlace := ["internal/bytealg.IndexByteString", "internal/bytealg.IndexString"], unfollowed := true, recurses := true, named := ["internal/bytealg.MaxLen"], apart := false, narrowed := true }
def LongTellsUptoSaid : Prop := longTellsUptoRow.holds Try.pinned (OpenSpec.upto longTellsSpec)

/-- 'reelkeeperlaw05.LongSize', WHERE WHAT IT READS IS OF BULK AT MOST 1048576: true; the input reads as it did. -/
def longSizeUptoRow : OpenClaim := { program := "ytddjnicmpgbcgaa", sum := "7f5b83ed5490933e58379cee27a4053a118bcdae67a6d7df0b3a179c77122e93", func := "reelkeeper/reelkeeperlaw05.LongSize", spec := "longSize", inPlace := ["internal/bytealg.IndexByteString", "internal/bytealg.IndexString"], unfollowed := true, recurses := true, named := ["internal/bytealg.MaxLen"], apart := false, narrowed := true }
def LongSizeUptoSaid : Prop := longSizeUptoRow.holds Try.pinned (OpenSpec.upto longSizeSpec)

/-- 'reelkeeperlaw05.LongNeeds', WHERE WHAT IT READS IS OF BULK AT MOST 1048576: true; the input reads as it did. -/
def longNeedsUptoRow : OpenClaim := { program := "ytddjnicmpgbcgaa", sum := "7f5b83ed5490933e58379cee27a4053a118bcdae67a6d7df0b3a179c77122e93", func := "reelkeeper/reelkeeperlaw05.LongNeeds", spec := "longNeeds", inPlace := ["internal/bytealg.IndexByteString", "internal/bytealg.IndexString"], unfollowed := true, recurses := true, named := ["internal/bytealg.MaxLen"], apart := false, narrowed := true }
def LongNeedsUptoSaid : Prop := longNeedsUptoRow.holds Try.pinned (OpenSpec.upto longNeedsSpec)

/-- 'reelkeeperlaw05.LongKinds', WHERE WHAT IT READS IS OF BULK AT MOST 1048576: true; the input reads as it did. -/
def longKindsUptoRow : OpenClaim := { program := "ytddjnicmpgbcgaa", sum := "7f5b83ed5490933e58379cee27a4053a118bcdae67a6d7df0b3a179c77122e93", func := "reelkeeper/reelkeeperlaw05.LongKinds", spec := "longKinds", inPlace := ["internal/bytealg.IndexByteString", "internal/bytealg.IndexString"], unfollowed := true, recurses := true, named := ["internal/bytealg.MaxLen"], apart := false, narrowed := true }
def LongKindsUptoSaid : Prop := longKindsUptoRow.holds Try.pinned (OpenSpec.upto longKindsSpec)

/-- 'reelkeeperlaw05.LongNames', WHERE WHAT IT READS IS OF BULK AT MOST 1048576: true; the input reads as it did. -/
def longNamesUptoRow : OpenClaim := { program := "ytddjnicmpgbcgaa", sum := "7f5b83ed5490933e58379cee27a4053a118bcdae67a6d7df0b3a179c77122e93", func := "reelkeeper/reelkeeperlaw05.LongNames", spec := "longNames", inPlace := ["internal/bytealg.IndexByteString", "internal/bytealg.IndexString"], unfollowed := true, recurses := true, named := ["internal/bytealg.MaxLen"], apart := false, narrowed := true }
def LongNamesUptoSaid : Prop := longNamesUptoRow.holds Try.pinned (OpenSpec.upto longNamesSpec)

/-- 'reelkeeperlaw05.LongAhead', WHERE WHAT IT READS IS OF BULK AT MOST 1048576: true; the input reads as it did. -/
def longAheadUptoRow : OpenClaim := { program := "ytddjnicmpgbcgaa", sum := "7f5b83ed5490933e58379cee27a4053a118bcdae67a6d7df0b3a179c77122e93", func := "reelkeeper/reelkeeperlaw05.LongAhead", spec := "longAhead", inPlace := ["internal/bytealg.IndexByteString", "internal/bytealg.IndexString"], unfollowed := true, recurses := true, named := ["internal/bytealg.MaxLen"], apart := false, narrowed := true }
def LongAheadUptoSaid : Prop := longAheadUptoRow.holds Try.pinned (OpenSpec.upto longAheadSpec)

end Rows
end Go.Proofs.Ytddjnicmpgbcgaa
