/-
  No cell of these rows narrows 'for every input' (looked for: loops, veiled, ifaces, maps, wideKeys, modest, calm, conditions, laid).
  DERIVED. THE GIVEN ROWS OF THIS SEAT. 6 by the template 'for every input the law returns true; each argument reads behind the call as it read before'; 0 by the template 'total and deterministic' (their statements: YtklbnfpjjcidiaaTotals.lean).
  GIVEN WITH THE SEED: the statements are not yours to turn. If you find one false, say at which input.
  Laid BY PROGRAM, IN A SANDBOX (cutbox-rows.mjs): the forced cells as the released guide's own fill.sh prints them over the translation 012b42317dfcd33c… (all of the seat's roots in one cut). By AI agents, Wed Nov 11 2026. No macro, syntax, notation, axiom, sorry.
-/
import Derived.Test.YtklbnfpjjcidiaaChecked
import GoSem.Claim
import GoSem.ClaimJoined
import GoSem.ClaimMapViews
import Derived.JoinedTies
import Derived.KernelRfl
namespace Go.Proofs.Ytklbnfpjjcidiaa
/- THE CELL 'sum', in the pinned program and in every row, IS THE sha256 OF THE DUMP (.gsa) THAT YtklbnfpjjcidiaaProg.lean LOADS. Nothing in Lean hashes anything: it is a label: what it is worth is what the hold of that sum in a sandbox is worth. -/
noncomputable def Try.pinned : Pinned := { name := "ytklbnfpjjcidiaa", sum := "012b42317dfcd33c6ee3959be7efd8b58f1d478926f688667a164dc4ac421116", checked := Try.checked }
namespace Rows
def none {H : Type} : Left H := { results := [], args := [] }

/-- 'reelkeeperlaw19.FsTells': WHATEVER THE INPUT: true; the input reads as it did. -/
def fsTellsSpec : ChangeSpec := { name := "fsTells", fn := fun _ => fun
  | [d1, d2, d3, d4, d5] => { results := [.lit (.bool true)], args := [d1, d2, d3, d4, d5] }
  | _ => none }
def fsTellsRow : OpenClaim := { program := "ytklbnfpjjcidiaa", sum := "012b42317dfcd33c6ee3959be7efd8b58f1d478926f688667a164dc4ac421116", func := "reelkeeper/reelkeeperlaw19.FsTells", spec := "fsTells", inPlace := ["internal/bytealg.IndexByteString", "internal/bytealg.IndexString", "internal/bytealg.abigen_runtime_cmpstring", "slices.overlaps[reelkeeper/api.Node]"], unfollowed := true, recurses := true, named := ["internal/bytealg.MaxLen"], apart := false }
def FsTellsSaid : Prop := fsTellsRow.holds Try.pinned (OpenSpec.ofChange fsTellsSpec)

/-- ITS FALSE NEIGHBOUR: 'it returns false'. Refute it at one input. -/
def fsTellsWrong : ChangeSpec := { name := "fsTells", fn := fun _ => fun
  | [d1, d2, d3, d4, d5] => { results := [.lit (.bool false)], args := [d1, d2, d3, d4, d5] }
  | _ => none }
def FsTellsWrongFalsely : Prop := fsTellsRow.holds Try.pinned (OpenSpec.ofChange fsTellsWrong)

/-- 'reelkeeperlaw19.FsPuts': WHATEVER THE INPUT: true; the input reads as it did. -/
def fsPutsSpec : ChangeSpec := { name := "fsPuts", fn := fun _ => fun
  | [d1, d2, d3] => { results := [.lit (.bool true)], args := [d1, d2, d3] }
  | _ => none }
def fsPutsRow : OpenClaim := { program := "ytklbnfpjjcidiaa", sum := "012b42317dfcd33c6ee3959be7efd8b58f1d478926f688667a164dc4ac421116", func := "reelkeeper/reelkeeperlaw19.FsPuts", spec := "fsPuts", inPlace := ["internal/bytealg.IndexByteString", "internal/bytealg.IndexString", "internal/bytealg.abigen_runtime_cmpstring", "slices.overlaps[reelkeeper/api.Node]"], unfollowed := true, recurses := true, named := ["internal/bytealg.MaxLen"], apart := false }
def FsPutsSaid : Prop := fsPutsRow.holds Try.pinned (OpenSpec.ofChange fsPutsSpec)

/-- ITS FALSE NEIGHBOUR: 'it returns false'. Refute it at one input. -/
def fsPutsWrong : ChangeSpec := { name := "fsPuts", fn := fun _ => fun
  | [d1, d2, d3] => { results := [.lit (.bool false)], args := [d1, d2, d3] }
  | _ => none }
def FsPutsWrongFalsely : Prop := fsPutsRow.holds Try.pinned (OpenSpec.ofChange fsPutsWrong)

/-- 'reelkeeperlaw19.FsSafe': WHATEVER THE INPUT: true; the input reads as it did. -/
def fsSafeSpec : ChangeSpec := { name := "fsSafe", fn := fun _ => fun
  | [d1, d2] => { results := [.lit (.bool true)], args := [d1, d2] }
  | _ => none }
def fsSafeRow : OpenClaim := { program := "ytklbnfpjjcidiaa", sum := "012b42317dfcd33c6ee3959be7efd8b58f1d478926f688667a164dc4ac421116", func := "reelkeeper/reelkeeperlaw19.FsSafe", spec := "fsSafe", inPlace := ["internal/bytealg.IndexByteString", "internal/bytealg.IndexString", "internal/bytealg.abigen_runtime_cmpstring", "slices.overlaps[reelkeeper/api.Node]"], unfollowed := true, recurses := true, named := ["internal/bytealg.MaxLen"], apart := false }
def FsSafeSaid : Prop := fsSafeRow.holds Try.pinned (OpenSpec.ofChange fsSafeSpec)

/-- ITS FALSE NEIGHBOUR: 'it returns false'. Refute it at one input. -/
def fsSafeWrong : ChangeSpec := { name := "fsSafe", fn := fun _ => fun
  | [d1, d2] => { results := [.lit (.bool false)], args := [d1, d2] }
  | _ => none }
def FsSafeWrongFalsely : Prop := fsSafeRow.holds Try.pinned (OpenSpec.ofChange fsSafeWrong)

/-- 'reelkeeperlaw19.FsGrows': WHATEVER THE INPUT: true; the input reads as it did. -/
def fsGrowsSpec : ChangeSpec := { name := "fsGrows", fn := fun _ => fun
  | [d1, d2, d3, d4, d5] => { results := [.lit (.bool true)], args := [d1, d2, d3, d4, d5] }
  | _ => none }
def fsGrowsRow : OpenClaim := { program := "ytklbnfpjjcidiaa", sum := "012b42317dfcd33c6ee3959be7efd8b58f1d478926f688667a164dc4ac421116", func := "reelkeeper/reelkeeperlaw19.FsGrows", spec := "fsGrows", inPlace := ["internal/bytealg.IndexByteString", "internal/bytealg.IndexString", "internal/bytealg.abigen_runtime_cmpstring", "slices.overlaps[reelkeeper/api.Node]"], unfollowed := true, recurses := true, named := ["internal/bytealg.MaxLen"], apart := false }
def FsGrowsSaid : Prop := fsGrowsRow.holds Try.pinned (OpenSpec.ofChange fsGrowsSpec)

/-- ITS FALSE NEIGHBOUR: 'it returns false'. Refute it at one input. -/
def fsGrowsWrong : ChangeSpec := { name := "fsGrows", fn := fun _ => fun
  | [d1, d2, d3, d4, d5] => { results := [.lit (.bool false)], args := [d1, d2, d3, d4, d5] }
  | _ => none }
def FsGrowsWrongFalsely : Prop := fsGrowsRow.holds Try.pinned (OpenSpec.ofChange fsGrowsWrong)

/-- 'reelkeeperlaw19.FsOrder': WHATEVER THE INPUT: true; the input reads as it did. -/
def fsOrderSpec : ChangeSpec := { name := "fsOrder", fn := fun _ => fun
  | [d1, d2, d3] => { results := [.lit (.bool true)], args := [d1, d2, d3] }
  | _ => none }
def fsOrderRow : OpenClaim := { program := "ytklbnfpjjcidiaa", sum := "012b42317dfcd33c6ee3959be7efd8b58f1d478926f688667a164dc4ac421116", func := "reelkeeper/reelkeeperlaw19.FsOrder", spec := "fsOrder", inPlace := ["internal/bytealg.IndexByteString", "internal/bytealg.IndexString", "internal/bytealg.abigen_runtime_cmpstring", "slices.overlaps[reelkeeper/api.Node]"], unfollowed := true, recurses := true, named := ["internal/bytealg.MaxLen"], apart := false }
def FsOrderSaid : Prop := fsOrderRow.holds Try.pinned (OpenSpec.ofChange fsOrderSpec)

/-- ITS FALSE NEIGHBOUR: 'it returns false'. Refute it at one input. -/
def fsOrderWrong : ChangeSpec := { name := "fsOrder", fn := fun _ => fun
  | [d1, d2, d3] => { results := [.lit (.bool false)], args := [d1, d2, d3] }
  | _ => none }
def FsOrderWrongFalsely : Prop := fsOrderRow.holds Try.pinned (OpenSpec.ofChange fsOrderWrong)

/-- 'reelkeeperlaw19.FsTree': WHATEVER THE INPUT: true; the input reads as it did. -/
def fsTreeSpec : ChangeSpec := { name := "fsTree", fn := fun _ => fun
  | [d1, d2] => { results := [.lit (.bool true)], args := [d1, d2] }
  | _ => none }
def fsTreeRow : OpenClaim := { program := "ytklbnfpjjcidiaa", sum := "012b42317dfcd33c6ee3959be7efd8b58f1d478926f688667a164dc4ac421116", func := "reelkeeper/reelkeeperlaw19.FsTree", spec := "fsTree", inPlace := ["internal/bytealg.IndexByteString", "internal/bytealg.IndexString", "internal/bytealg.abigen_runtime_cmpstring", "slices.overlaps[reelkeeper/api.Node]"], unfollowed := true, recurses := true, named := ["internal/bytealg.MaxLen"], apart := false }
def FsTreeSaid : Prop := fsTreeRow.holds Try.pinned (OpenSpec.ofChange fsTreeSpec)

/-- ITS FALSE NEIGHBOUR: 'it returns false'. Refute it at one input. -/
def fsTreeWrong : ChangeSpec := { name := "fsTree", fn := fun _ => fun
  | [d1, d2] => { results := [.lit (.bool false)], args := [d1, d2] }
  | _ => none }
def FsTreeWrongFalsely : Prop := fsTreeRow.holds Try.pinned (OpenSpec.ofChange fsTreeWrong)

/- THE SECOND FORM. 'bulk': how many values and letters a reading holds, each counted each time it is reached (what is shared counts as often as it is met; a slice's spare places count too). A statement '..UptoSaid' is the law's where the arguments, and the package variables that the reading takes, are together of bulk at most 1048576: NARROWER than '..Said'. Prove '..Said' where nothing that the law and all that it calls make is longer than what came in: it says more and counts as full. Else prove '..UptoSaid'. A law counts once. -/
mutual
def uptoBulk {H : Type} : DataW H → Nat
  | .lit (.string bytes) => bytes.length + 1
  | .lit _ => 1
  | .nil => 1
  | .ptr d => uptoBulk d + 1
  | .slice elems spare => uptoBulkAll elems + uptoBulkAll spare + 1
  | .agg parts => uptoBulkAll parts + 1
  | .iface _ d => uptoBulk d + 1
  | .map entries => uptoBulkEntries entries + 1
  | .held _ => 1
def uptoBulkAll {H : Type} : List (DataW H) → Nat
  | [] => 0
  | d :: r => uptoBulk d + uptoBulkAll r
def uptoBulkEntries {H : Type} : List (Lit × DataW H) → Nat
  | [] => 0
  | x :: r => uptoBulkEntry x + uptoBulkEntries r
def uptoBulkEntry {H : Type} : Lit × DataW H → Nat
  | (.string bytes, d) => bytes.length + uptoBulk d + 1
  | (_, d) => uptoBulk d + 1
 end
def uptoSmall : (H : Type) → List (DataW H) → Bool := fun _ ds => decide (uptoBulkAll ds ≤ 1048576)
def OpenSpec.upto (s : _root_.Go.ChangeSpec) : _root_.Go.OpenSpec := { _root_.Go.OpenSpec.ofChange s with cond := some uptoSmall }

/-- 'reelkeeperlaw19.FsTells', WHERE WHAT IT READS IS OF BULK AT MOST 1048576: true; the input reads as it did. -/
def fsTellsUptoRow : OpenClaim := { program := "ytklbnfpjjcidiaa", sum := "012b42317dfcd33c6ee3959be7efd8b58f1d478926f688667a164dc4ac421116", func := "reelkeeper/reelkeeperlaw19.FsTells", spec := "fsTells", inPlace := ["internal/bytealg.IndexByteString", "internal/bytealg.IndexString", "internal/bytealg.abigen_runtime_cmpstring", "slices.overlaps[reelkeeper/api.Node]"], unfollowed := true, recurses := true, named := ["internal/bytealg.MaxLen"], apart := false, narrowed := true }
def FsTellsUptoSaid : Prop := fsTellsUptoRow.holds Try.pinned (OpenSpec.upto fsTellsSpec)

/-- 'reelkeeperlaw19.FsPuts', WHERE WHAT IT READS IS OF BULK AT MOST 1048576: true; the input reads as it did. -/
def fsPutsUptoRow : OpenClaim := { program := "ytklbnfpjjcidiaa", sum := "012b42317dfcd33c6ee3959be7efd8b58f1d478926f688667a164dc4ac421116", func := "reelkeeper/reelkeeperlaw19.FsPuts", spec := "fsPuts", inPlace := ["internal/bytealg.IndexByteString", "internal/bytealg.IndexString", "internal/bytealg.abigen_runtime_cmpstring", "slices.overlaps[reelkeeper/api.Node]"], unfollowed := true, recurses := true, named := ["internal/bytealg.MaxLen"], apart := false, narrowed := true }
def FsPutsUptoSaid : Prop := fsPutsUptoRow.holds Try.pinned (OpenSpec.upto fsPutsSpec)

/-- 'reelkeeperlaw19.FsSafe', WHERE WHAT IT READS IS OF BULK AT MOST 1048576: true; the input reads as it did. -/
def fsSafeUptoRow : OpenClaim := { program := "ytklbnfpjjcidiaa", sum := "012b42317dfcd33c6ee3959be7efd8b58f1d478926f688667a164dc4ac421116", func := "reelkeeper/reelkeeperlaw19.FsSafe", spec := "fsSafe", inPlace := ["internal/bytealg.IndexByteString", "internal/bytealg.IndexString", "internal/bytealg.abigen_runtime_cmpstring", "slices.overlaps[reelkeeper/api.Node]"], unfollowed := true, recurses := true, named := ["internal/bytealg.MaxLen"], apart := false, narrowed := true }
def FsSafeUptoSaid : Prop := fsSafeUptoRow.holds Try.pinned (OpenSpec.upto fsSafeSpec)

/-- 'reelkeeperlaw19.FsGrows', WHERE WHAT IT READS IS OF BULK AT MOST 1048576: true; the input reads as it did. -/
def fsGrowsUptoRow : OpenClaim := { program := "ytklbnfpjjcidiaa", sum := "012b42317dfcd33c6ee3959be7efd8b58f1d478926f688667a164dc4ac421116", func := "reelkeeper/reelkeeperlaw19.FsGrows", spec := "fsGrows", inPlace := ["internal/bytealg.IndexByteString", "internal/bytealg.IndexString", "internal/bytealg.abigen_runtime_cmpstring", "slices.overlaps[reelkeeper/api.Node]"], unfollowed := true, recurses := true, named := ["internal/bytealg.MaxLen"], apart := false, narrowed := true }
def FsGrowsUptoSaid : Prop := fsGrowsUptoRow.holds Try.pinned (OpenSpec.upto fsGrowsSpec)

/-- 'reelkeeperlaw19.FsOrder', WHERE WHAT IT READS IS OF BULK AT MOST 1048576: true; the input reads as it did. -/
def fsOrderUptoRow : OpenClaim := { program := "ytklbnfpjjcidiaa", sum := "012b42317dfcd33c6ee3959be7efd8b58f1d478926f688667a164dc4ac421116", func := "reelkeeper/reelkeeperlaw19.FsOrder", spec := "fsOrder", inPlace := ["internal/bytealg.IndexByteString", "internal/bytealg.IndexString", "internal/bytealg.abigen_runtime_cmpstring", "slices.overlaps[reelkeeper/api.Node]"], unfollowed := true, recurses := true, named := ["internal/bytealg.MaxLen"], apart := false, narrowed := true }
def FsOrderUptoSaid : Prop := fsOrderUptoRow.holds Try.pinned (OpenSpec.upto fsOrderSpec)

/-- 'reelkeeperlaw19.FsTree', WHERE WHAT IT READS IS OF BULK AT MOST 1048576: true; the input reads as it did. -/
def fsTreeUptoRow : OpenClaim := { program := "ytklbnfpjjcidiaa", sum := "012b42317dfcd33c6ee3959be7efd8b58f1d478926f688667a164dc4ac421116", func := "reelkeeper/reelkeeperlaw19.FsTree", spec := "fsTree", inPlace := ["internal/bytealg.IndexByteString", "internal/bytealg.IndexString", "internal/bytealg.abigen_runtime_cmpstring", "slices.overlaps[reelkeeper/api.Node]"], unfollowed := true, recurses := true, named := ["internal/bytealg.MaxLen"], apart := false, narrowed := true }
def FsTreeUptoSaid : Prop := fsTreeUptoRow.holds Try.pinned (OpenSpec.upto fsTreeSpec)

end Rows
end Go.Proofs.Ytklbnfpjjcidiaa
