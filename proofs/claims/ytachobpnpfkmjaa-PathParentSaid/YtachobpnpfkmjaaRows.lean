/-
  No cell of these rows narrows 'for every input' (looked for: loops, veiled, ifaces, maps, wideKeys, modest, calm, conditions, laid).
  DERIVED. THE GIVEN ROWS OF THIS SEAT. 7 by the template 'for every input the law returns true; each argument reads behind the call as it read before'; 0 by the template 'total and deterministic' (their statements: YtachobpnpfkmjaaTotals.lean).
  GIVEN WITH THE SEED: the statements are not yours to turn. If you find one false, say at which input.
  Laid BY PROGRAM, IN A SANDBOX (cutbox-rows.mjs): the forced cells as the released guide's own fill.sh prints them over the translation f398fbdac4dc0747… (all of the seat's roots in one cut). By AI agents, Wed Nov 11 2026. No macro, syntax, notation, axiom, sorry.
-/
import Derived.Test.YtachobpnpfkmjaaChecked
import GoSem.Claim
import GoSem.ClaimJoined
import GoSem.ClaimMapViews
import Derived.JoinedTies
import Derived.KernelRfl
namespace Go.Proofs.Ytachobpnpfkmjaa
/- THE CELL 'sum', in the pinned program and in every row, IS THE sha256 OF THE DUMP (.gsa) THAT YtachobpnpfkmjaaProg.lean LOADS. Nothing in Lean hashes anything: it is a label: what it is worth is what the hold of that sum in a sandbox is worth. -/
noncomputable def Try.pinned : Pinned := { name := "ytachobpnpfkmjaa", sum := "f398fbdac4dc07473d8bad58a9205d988d096c8060470a618af4b000999f6e24", checked := Try.checked }
namespace Rows
def none {H : Type} : Left H := { results := [], args := [] }

/-- 'reelkeeperlaw02.PathTells': WHATEVER THE INPUT: true; the input reads as it did. -/
def pathTellsSpec : ChangeSpec := { name := "pathTells", fn := fun _ => fun
  | [d1, d2] => { results := [.lit (.bool true)], args := [d1, d2] }
  | _ => none }
def pathTellsRow : OpenClaim := { program := "ytachobpnpfkmjaa", sum := "f398fbdac4dc07473d8bad58a9205d988d096c8060470a618af4b000999f6e24", func := "reelkeeper/reelkeeperlaw02.PathTells", spec := "pathTells", inPlace := ["internal/bytealg.IndexByteString", "internal/bytealg.IndexString"], unfollowed := true, recurses := true, named := ["internal/bytealg.MaxLen"], apart := false }
def PathTellsSaid : Prop := pathTellsRow.holds Try.pinned (OpenSpec.ofChange pathTellsSpec)

/-- ITS FALSE NEIGHBOUR: 'it returns false'. Refute it at one input. -/
def pathTellsWrong : ChangeSpec := { name := "pathTells", fn := fun _ => fun
  | [d1, d2] => { results := [.lit (.bool false)], args := [d1, d2] }
  | _ => none }
def PathTellsWrongFalsely : Prop := pathTellsRow.holds Try.pinned (OpenSpec.ofChange pathTellsWrong)

/-- 'reelkeeperlaw02.PathSplit': WHATEVER THE INPUT: true; the input reads as it did. -/
def pathSplitSpec : ChangeSpec := { name := "pathSplit", fn := fun _ => fun
  | [d] => { results := [.lit (.bool true)], args := [d] }
  | _ => none }
def pathSplitRow : OpenClaim := { program := "ytachobpnpfkmjaa", sum := "f398fbdac4dc07473d8bad58a9205d988d096c8060470a618af4b000999f6e24", func := "reelkeeper/reelkeeperlaw02.PathSplit", spec := "pathSplit", inPlace := ["internal/bytealg.IndexByteString", "internal/bytealg.IndexString"], unfollowed := true, recurses := true, named := ["internal/bytealg.MaxLen"], apart := false }
def PathSplitSaid : Prop := pathSplitRow.holds Try.pinned (OpenSpec.ofChange pathSplitSpec)

/-- ITS FALSE NEIGHBOUR: 'it returns false'. Refute it at one input. -/
def pathSplitWrong : ChangeSpec := { name := "pathSplit", fn := fun _ => fun
  | [d] => { results := [.lit (.bool false)], args := [d] }
  | _ => none }
def PathSplitWrongFalsely : Prop := pathSplitRow.holds Try.pinned (OpenSpec.ofChange pathSplitWrong)

/-- 'reelkeeperlaw02.PathParent': WHATEVER THE INPUT: true; the input reads as it did. -/
def pathParentSpec : ChangeSpec := { name := "pathParent", fn := fun _ => fun
  | [d] => { results := [.lit (.bool true)], args := [d] }
  | _ => none }
def pathParentRow : OpenClaim := { program := "ytachobpnpfkmjaa", sum := "f398fbdac4dc07473d8bad58a9205d988d096c8060470a618af4b000999f6e24", func := "reelkeeper/reelkeeperlaw02.PathParent", spec := "pathParent", inPlace := ["internal/bytealg.IndexByteString", "internal/bytealg.IndexString"], unfollowed := true, recurses := true, named := ["internal/bytealg.MaxLen"], apart := false }
def PathParentSaid : Prop := pathParentRow.holds Try.pinned (OpenSpec.ofChange pathParentSpec)

/-- ITS FALSE NEIGHBOUR: 'it returns false'. Refute it at one input. -/
def pathParentWrong : ChangeSpec := { name := "pathParent", fn := fun _ => fun
  | [d] => { results := [.lit (.bool false)], args := [d] }
  | _ => none }
def PathParentWrongFalsely : Prop := pathParentRow.holds Try.pinned (OpenSpec.ofChange pathParentWrong)

/-- 'reelkeeperlaw02.PathSafe': WHATEVER THE INPUT: true; the input reads as it did. -/
def pathSafeSpec : ChangeSpec := { name := "pathSafe", fn := fun _ => fun
  | [d1, d2, d3] => { results := [.lit (.bool true)], args := [d1, d2, d3] }
  | _ => none }
def pathSafeRow : OpenClaim := { program := "ytachobpnpfkmjaa", sum := "f398fbdac4dc07473d8bad58a9205d988d096c8060470a618af4b000999f6e24", func := "reelkeeper/reelkeeperlaw02.PathSafe", spec := "pathSafe", inPlace := ["internal/bytealg.IndexByteString", "internal/bytealg.IndexString"], unfollowed := true, recurses := true, named := ["internal/bytealg.MaxLen"], apart := false }
def PathSafeSaid : Prop := pathSafeRow.holds Try.pinned (OpenSpec.ofChange pathSafeSpec)

/-- ITS FALSE NEIGHBOUR: 'it returns false'. Refute it at one input. -/
def pathSafeWrong : ChangeSpec := { name := "pathSafe", fn := fun _ => fun
  | [d1, d2, d3] => { results := [.lit (.bool false)], args := [d1, d2, d3] }
  | _ => none }
def PathSafeWrongFalsely : Prop := pathSafeRow.holds Try.pinned (OpenSpec.ofChange pathSafeWrong)

/-- 'reelkeeperlaw02.PathBelow': WHATEVER THE INPUT: true; the input reads as it did. -/
def pathBelowSpec : ChangeSpec := { name := "pathBelow", fn := fun _ => fun
  | [d1, d2, d3] => { results := [.lit (.bool true)], args := [d1, d2, d3] }
  | _ => none }
def pathBelowRow : OpenClaim := { program := "ytachobpnpfkmjaa", sum := "f398fbdac4dc07473d8bad58a9205d988d096c8060470a618af4b000999f6e24", func := "reelkeeper/reelkeeperlaw02.PathBelow", spec := "pathBelow", inPlace := ["internal/bytealg.IndexByteString", "internal/bytealg.IndexString"], unfollowed := true, recurses := true, named := ["internal/bytealg.MaxLen"], apart := false }
def PathBelowSaid : Prop := pathBelowRow.holds Try.pinned (OpenSpec.ofChange pathBelowSpec)

/-- ITS FALSE NEIGHBOUR: 'it returns false'. Refute it at one input. -/
def pathBelowWrong : ChangeSpec := { name := "pathBelow", fn := fun _ => fun
  | [d1, d2, d3] => { results := [.lit (.bool false)], args := [d1, d2, d3] }
  | _ => none }
def PathBelowWrongFalsely : Prop := pathBelowRow.holds Try.pinned (OpenSpec.ofChange pathBelowWrong)

/-- 'reelkeeperlaw02.PathJoins': WHATEVER THE INPUT: true; the input reads as it did. -/
def pathJoinsSpec : ChangeSpec := { name := "pathJoins", fn := fun _ => fun
  | [d1, d2] => { results := [.lit (.bool true)], args := [d1, d2] }
  | _ => none }
def pathJoinsRow : OpenClaim := { program := "ytachobpnpfkmjaa", sum := "f398fbdac4dc07473d8bad58a9205d988d096c8060470a618af4b000999f6e24", func := "reelkeeper/reelkeeperlaw02.PathJoins", spec := "pathJoins", inPlace := ["internal/bytealg.IndexByteString", "internal/bytealg.IndexString"], unfollowed := true, recurses := true, named := ["internal/bytealg.MaxLen"], apart := false }
def PathJoinsSaid : Prop := pathJoinsRow.holds Try.pinned (OpenSpec.ofChange pathJoinsSpec)

/-- ITS FALSE NEIGHBOUR: 'it returns false'. Refute it at one input. -/
def pathJoinsWrong : ChangeSpec := { name := "pathJoins", fn := fun _ => fun
  | [d1, d2] => { results := [.lit (.bool false)], args := [d1, d2] }
  | _ => none }
def PathJoinsWrongFalsely : Prop := pathJoinsRow.holds Try.pinned (OpenSpec.ofChange pathJoinsWrong)

/-- 'reelkeeperlaw02.PathParts': WHATEVER THE INPUT: true; the input reads as it did. -/
def pathPartsSpec : ChangeSpec := { name := "pathParts", fn := fun _ => fun
  | [d] => { results := [.lit (.bool true)], args := [d] }
  | _ => none }
def pathPartsRow : OpenClaim := { program := "ytachobpnpfkmjaa", sum := "f398fbdac4dc07473d8bad58a9205d988d096c8060470a618af4b000999f6e24", func := "reelkeeper/reelkeeperlaw02.PathParts", spec := "pathParts", inPlace := ["internal/bytealg.IndexByteString", "internal/bytealg.IndexString"], unfollowed := true, recurses := true, named := ["internal/bytealg.MaxLen"], apart := false }
def PathPartsSaid : Prop := pathPartsRow.holds Try.pinned (OpenSpec.ofChange pathPartsSpec)

/-- ITS FALSE NEIGHBOUR: 'it returns false'. Refute it at one input. -/
def pathPartsWrong : ChangeSpec := { name := "pathParts", fn := fun _ => fun
  | [d] => { results := [.lit (.bool false)], args := [d] }
  | _ => none }
def PathPartsWrongFalsely : Prop := pathPartsRow.holds Try.pinned (OpenSpec.ofChange pathPartsWrong)

/- THE SECOND FORM. 'bulk': how many values and letters a reading holds, each counted each time it is reached (what is shared counts as often as it is met; a slice's spare places count too). A statement '..UptoSaid' is the law's where the arguments, and the package variables that the reading takes, are together of bulk at most 1048576: NARROWER than '..Said'. Prove '..Said' where nothing that the law and all that it calls make is longer than what came in: it says more and counts as full. Else prove '..UptoSaid'. A law counts once. -/
mutual
def uptoBulk {H : Type} : DataW H → Nat
  | .lit (.string bytes) => bytes.length + 1
  | .lit _ => 1
  | .nil => 1
  | .ptr d => uptoBulk d + 1
  | .slice elems spare => uptoBulkAll elems + uptoBulkAll spare + 1
  | .agg parts => uptoBulkAll parts + 1
  | .iface _ d => uptoBulk d + 1
  | .map entries => uptoBulkEntries entries + 1
  | .held _ => 1
def uptoBulkAll {H : Type} : List (DataW H) → Nat
  | [] => 0
  | d :: r => uptoBulk d + uptoBulkAll r
def uptoBulkEntries {H : Type} : List (Lit × DataW H) → Nat
  | [] => 0
  | x :: r => uptoBulkEntry x + uptoBulkEntries r
def uptoBulkEntry {H : Type} : Lit × DataW H → Nat
  | (.string bytes, d) => bytes.length + uptoBulk d + 1
  | (_, d) => uptoBulk d + 1
 end
def uptoSmall : (H : Type) → List (DataW H) → Bool := fun _ ds => decide (uptoBulkAll ds ≤ 1048576)
def OpenSpec.upto (s : _root_.Go.ChangeSpec) : _root_.Go.OpenSpec := { _root_.Go.OpenSpec.ofChange s with cond := some uptoSmall }

/-- 'reelkeeperlaw02.PathTells', WHERE WHAT IT READS IS OF BULK AT MOST 1048576: true; the input reads as it did. -/
def pathTellsUptoRow : OpenClaim := { program := "ytachobpnpfkmjaa", sum := "f398fbdac4dc07473d8bad58a9205d988d096c8060470a618af4b000999f6e24", func := "reelkeeper/reelkeeperlaw02.PathTells", spec := "pathTells", inPlace := ["internal/bytealg.IndexByteString", "internal/bytealg.IndexString"], unfollowed := true, recurses := true, named := ["internal/bytealg.MaxLen"], apart := false, narrowed := true }
def PathTellsUptoSaid : Prop := pathTellsUptoRow.holds Try.pinned (OpenSpec.upto pathTellsSpec)

/-- 'reelkeeperlaw02.PathSplit', WHERE WHAT IT READS IS OF BULK AT MOST 1048576: true; the input reads as it did. -/
def pathSplitUptoRow : OpenClaim := { program := "ytachobpnpfkmjaa", sum := "f398fbdac4dc07473d8bad58a9205d988d096c8060470a618af4b000999f6e24", func := "reelkeeper/reelkeeperlaw02.PathSplit", spec := "pathSplit", inPlace := ["internal/bytealg.IndexByteString", "internal/bytealg.IndexString"], unfollowed := true, recurses := true, named := ["internal/bytealg.MaxLen"], apart := false, narrowed := true }
def PathSplitUptoSaid : Prop := pathSplitUptoRow.holds Try.pinned (OpenSpec.upto pathSplitSpec)

/-- 'reelkeeperlaw02.PathParent', WHERE WHAT IT READS IS OF BULK AT MOST 1048576: true; the input reads as it did. -/
def pathParentUptoRow : OpenClaim := { program := "ytachobpnpfkmjaa", sum := "f398fbdac4dc07473d8bad58a9205d988d096c8060470a618af4b000999f6e24", func := "reelkeeper/reelkeeperlaw02.PathParent", spec := "pathParent", inPlace := ["internal/bytealg.IndexByteString", "internal/bytealg.IndexString"], unfollowed := true, recurses := true, named := ["internal/bytealg.MaxLen"], apart := false, narrowed := true }
def PathParentUptoSaid : Prop := pathParentUptoRow.holds Try.pinned (OpenSpec.upto pathParentSpec)

/-- 'reelkeeperlaw02.PathSafe', WHERE WHAT IT READS IS OF BULK AT MOST 1048576: true; the input reads as it did. -/
def pathSafeUptoRow : OpenClaim := { program := "ytachobpnpfkmjaa", sum := "f398fbdac4dc07473d8bad58a9205d988d096c8060470a618af4b000999f6e24", func := "reelkeeper/reelkeeperlaw02.PathSafe", spec := "pathSafe", inPlace := ["internal/bytealg.IndexByteString", "internal/bytealg.IndexString"], unfollowed := true, recurses := true, named := ["internal/bytealg.MaxLen"], apart := false, narrowed := true }
def PathSafeUptoSaid : Prop := pathSafeUptoRow.holds Try.pinned (OpenSpec.upto pathSafeSpec)

/-- 'reelkeeperlaw02.PathBelow', WHERE WHAT IT READS IS OF BULK AT MOST 1048576: true; the input reads as it did. -/
def pathBelowUptoRow : OpenClaim := { program := "ytachobpnpfkmjaa", sum := "f398fbdac4dc07473d8bad58a9205d988d096c8060470a618af4b000999f6e24", func := "reelkeeper/reelkeeperlaw02.PathBelow", spec := "pathBelow", inPlace := ["internal/bytealg.IndexByteString", "internal/bytealg.IndexString"], unfollowed := true, recurses := true, named := ["internal/bytealg.MaxLen"], apart := false, narrowed := true }
def PathBelowUptoSaid : Prop := pathBelowUptoRow.holds Try.pinned (OpenSpec.upto pathBelowSpec)

/-- 'reelkeeperlaw02.PathJoins', WHERE WHAT IT READS IS OF BULK AT MOST 1048576: true; the input reads as it did. -/
def pathJoinsUptoRow : OpenClaim := { program := "ytachobpnpfkmjaa", sum := "f398fbdac4dc07473d8bad58a9205d988d096c8060470a618af4b000999f6e24", func := "reelkeeper/reelkeeperlaw02.PathJoins", spec := "pathJoins", inPlace := ["internal/bytealg.IndexByteString", "internal/bytealg.IndexString"], unfollowed := true, recurses := true, named := ["internal/bytealg.MaxLen"], apart := false, narrowed := true }
def PathJoinsUptoSaid : Prop := pathJoinsUptoRow.holds Try.pinned (OpenSpec.upto pathJoinsSpec)

/-- 'reelkeeperlaw02.PathParts', WHERE WHAT IT READS IS OF BULK AT MOST 1048576: true; the input reads as it did. -/
def pathPartsUptoRow : OpenClaim := { program := "ytachobpnpfkmjaa", sum := "f398fbdac4dc07473d8bad58a9205d988d096c8060470a618af4b000999f6e24", func := "reelkeeper/reelkeeperlaw02.PathParts", spec := "pathParts", inPlace := ["internal/bytealg.IndexByteString", "internal/bytealg.IndexString"], unfollowed := true, recurses := true, named := ["internal/bytealg.MaxLen"], apart := false, narrowed := true }
def PathPartsUptoSaid : Prop := pathPartsUptoRow.holds Try.pinned (OpenSpec.upto pathPartsSpec)

end Rows
end Go.Proofs.Ytachobpnpfkmjaa
