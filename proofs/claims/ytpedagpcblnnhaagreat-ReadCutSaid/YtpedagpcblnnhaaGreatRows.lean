/-
  No cell of these rows narrows 'for every input' (looked for: loops, veiled, ifaces, maps, wideKeys, modest, calm, conditions, laid).
  DERIVED. THE GIVEN ROWS OF THIS SEAT. 3 by the template 'for every input the law returns true; each argument reads behind the call as it read before'; 0 by the template 'total and deterministic' (their statements: YtpedagpcblnnhaaGreatTotals.lean).
  GIVEN WITH THE SEED: the statements are not yours to turn. If you find one false, say at which input.
  Laid BY PROGRAM, IN A SANDBOX (cutbox-rows.mjs): the forced cells as the released guide's own fill.sh prints them over the translation a687e60447ee5387… (all of the seat's roots in one cut). By AI agents, Wed Nov 11 2026. No macro, syntax, notation, axiom, sorry.
-/
import Derived.Test.YtpedagpcblnnhaaGreatChecked
import GoSem.Claim
import GoSem.ClaimJoined
import GoSem.ClaimMapViews
import Derived.JoinedTies
import Derived.KernelRfl
namespace Go.Proofs.YtpedagpcblnnhaaGreat
/- THE CELL 'sum', in the pinned program and in every row, IS THE sha256 OF THE DUMP (.gsa) THAT YtpedagpcblnnhaaGreatProg.lean LOADS. Nothing in Lean hashes anything: it is a label: what it is worth is what the hold of that sum in a sandbox is worth. -/
noncomputable def Tryz.pinned : Pinned := { name := "ytpedagpcblnnhaagreat", sum := "a687e60447ee53879501211eadd4b593d7c46159f2f8eea544a0b6ac777f066f", checked := Tryz.checked }
namespace Rows
def none {H : Type} : Left H := { results := [], args := [] }

/-- 'reelkeeperlaw10.ReadTells': WHATEVER THE INPUT: true; the input reads as it did. -/
def readTellsSpec : ChangeSpec := { name := "readTells", fn := fun _ => fun
  | [d1, d2] => { results := [.lit (.bool true)], args := [d1, d2] }
  | _ => none }
def readTellsRow : OpenClaim := { program := "ytpedagpcblnnhaagreat", sum := "a687e60447ee53879501211eadd4b593d7c46159f2f8eea544a0b6ac777f066f", func := "reelkeeper/reelkeeperlaw10.ReadTells", spec := "readTells", inPlace := ["internal/bytealg.IndexByteString", "internal/bytealg.IndexString", "internal/bytealg.IndexByte", "internal/bytealg.Index"], unfollowed := true, recurses := true, named := ["internal/bytealg.MaxLen"], apart := false }
def ReadTellsSaid : Prop := readTellsRow.holds Tryz.pinned (OpenSpec.ofChange readTellsSpec)

/-- ITS FALSE NEIGHBOUR: 'it returns false'. Refute it at one input. -/
def readTellsWrong : ChangeSpec := { name := "readTells", fn := fun _ => fun
  | [d1, d2] => { results := [.lit (.bool false)], args := [d1, d2] }
  | _ => none }
def ReadTellsWrongFalsely : Prop := readTellsRow.holds Tryz.pinned (OpenSpec.ofChange readTellsWrong)

/-- 'reelkeeperlaw10.ReadBack': WHATEVER THE INPUT: true; the input reads as it did. -/
def readBackSpec : ChangeSpec := { name := "readBack", fn := fun _ => fun
  | [d1, d2] => { results := [.lit (.bool true)], args := [d1, d2] }
  | _ => none }
def readBackRow : OpenClaim := { program := "ytpedagpcblnnhaagreat", sum := "a687e60447ee53879501211eadd4b593d7c46159f2f8eea544a0b6ac777f066f", func := "reelkeeper/reelkeeperlaw10.ReadBack", spec := "readBack", inPlace := ["internal/bytealg.IndexByteString", "internal/bytealg.IndexString", "internal/bytealg.IndexByte", "internal/bytealg.Index"], unfollowed := true, recurses := true, named := ["internal/bytealg.MaxLen"], apart := false }
def ReadBackSaid : Prop := readBackRow.holds Tryz.pinned (OpenSpec.ofChange readBackSpec)

/-- ITS FALSE NEIGHBOUR: 'it returns false'. Refute it at one input. -/
def readBackWrong : ChangeSpec := { name := "readBack", fn := fun _ => fun
  | [d1, d2] => { results := [.lit (.bool false)], args := [d1, d2] }
  | _ => none }
def ReadBackWrongFalsely : Prop := readBackRow.holds Tryz.pinned (OpenSpec.ofChange readBackWrong)

/-- 'reelkeeperlaw10.ReadCut': WHATEVER THE INPUT: true; the input reads as it did. -/
def readCutSpec : ChangeSpec := { name := "readCut", fn := fun _ => fun
  | [d1, d2] => { results := [.lit (.bool true)], args := [d1, d2] }
  | _ => none }
def readCutRow : OpenClaim := { program := "ytpedagpcblnnhaagreat", sum := "a687e60447ee53879501211eadd4b593d7c46159f2f8eea544a0b6ac777f066f", func := "reelkeeper/reelkeeperlaw10.ReadCut", spec := "readCut", inPlace := ["internal/bytealg.IndexByteString", "internal/bytealg.IndexString", "internal/bytealg.IndexByte", "internal/bytealg.Index"], unfollowed := true, recurses := true, named := ["internal/bytealg.MaxLen"], apart := false }
def ReadCutSaid : Prop := readCutRow.holds Tryz.pinned (OpenSpec.ofChange readCutSpec)

/-- ITS FALSE NEIGHBOUR: 'it returns false'. Refute it at one input. -/
def readCutWrong : ChangeSpec := { name := "readCut", fn := fun _ => fun
  | [d1, d2] => { results := [.lit (.bool false)], args := [d1, d2] }
  | _ => none }
def ReadCutWrongFalsely : Prop := readCutRow.holds Tryz.pinned (OpenSpec.ofChange readCutWrong)

/- THE SECOND FORM. 'bulk': how many values and letters a reading holds, each counted each time it is reached (what is shared counts as often as it is met; a slice's spare places count too). A statement '..UptoSaid' is the law's where the arguments, and the package variables that the reading takes, are together of bulk at most 1048576: NARROWER than '..Said'. Prove '..Said' where nothing that the law and all that it calls make is longer than what came in: it says more and counts as full. Else prove '..UptoSaid'. A law counts once. -/
mutual
def uptoBulk {H : Type} : DataW H → Nat
  | .lit (.string bytes) => bytes.length + 1
  | .lit _ => 1
  | .nil => 1
  | .ptr d => uptoBulk d + 1
  | .slice elems spare => uptoBulkAll elems + uptoBulkAll spare + 1
  | .agg parts => uptoBulkAll parts + 1
  | .iface _ d => uptoBulk d + 1
  | .map entries => uptoBulkEntries entries + 1
  | .held _ => 1
def uptoBulkAll {H : Type} : List (DataW H) → Nat
  | [] => 0
  | d :: r => uptoBulk d + uptoBulkAll r
def uptoBulkEntries {H : Type} : List (Lit × DataW H) → Nat
  | [] => 0
  | x :: r => uptoBulkEntry x + uptoBulkEntries r
def uptoBulkEntry {H : Type} : Lit × DataW H → Nat
  | (.string bytes, d) => bytes.length + uptoBulk d + 1
  | (_, d) => uptoBulk d + 1
 end
def uptoSmall : (H : Type) → List (DataW H) → Bool := fun _ ds => decide (uptoBulkAll ds ≤ 1048576)
def OpenSpec.upto (s : _root_.Go.ChangeSpec) : _root_.Go.OpenSpec := { _root_.Go.OpenSpec.ofChange s with cond := some uptoSmall }

/-- 'reelkeeperlaw10.ReadTells', WHERE WHAT IT READS IS OF BULK AT MOST 1048576: true; the input reads as it did. -/
def readTellsUptoRow : OpenClaim := { program := "ytpedagpcblnnhaagreat", sum := "a687e60447ee53879501211eadd4b593d7c46159f2f8eea544a0b6ac777f066f", func := "reelkeeper/reelkeeperlaw10.ReadTells", spec := "readTells", inPlace := ["internal/bytealg.IndexByteString", "internal/bytealg.IndexString", "internal/bytealg.IndexByte", "internal/bytealg.Index"], unfollowed := true, recurses := true, named := ["internal/bytealg.MaxLen"], apart := false, narrowed := true }
def ReadTellsUptoSaid : Prop := readTellsUptoRow.holds Tryz.pinned (OpenSpec.upto readTellsSpec)

/-- 'reelkeeperlaw10.ReadBack', WHERE WHAT IT READS IS OF BULK AT MOST 1048576: true; the input reads as it did. -/
def readBackUptoRow : OpenClaim := { program := "ytpedagpcblnnhaagreat", sum := "a687e60447ee53879501211eadd4b593d7c46159f2f8eea544a0b6ac777f066f", func := "reelkeeper/reelkeeperlaw10.ReadBack", spec := "readBack", inPlace := ["internal/bytealg.IndexByteString", "internal/bytealg.IndexString", "internal/bytealg.IndexByte", "internal/bytealg.Index"], unfollowed := true, recurses := true, named := ["internal/bytealg.MaxLen"], apart := false, narrowed := true }
def ReadBackUptoSaid : Prop := readBackUptoRow.holds Tryz.pinned (OpenSpec.upto readBackSpec)

/-- 'reelkeeperlaw10.ReadCut', WHERE WHAT IT READS IS OF BULK AT MOST 1048576: true; the input reads as it did. -/
def readCutUptoRow : OpenClaim := { program := "ytpedagpcblnnhaagreat", sum := "a687e60447ee53879501211eadd4b593d7c46159f2f8eea544a0b6ac777f066f", func := "reelkeeper/reelkeeperlaw10.ReadCut", spec := "readCut", inPlace := ["internal/bytealg.IndexByteString", "internal/bytealg.IndexString", "internal/bytealg.IndexByte", "internal/bytealg.Index"], unfollowed := true, recurses := true, named := ["internal/bytealg.MaxLen"], apart := false, narrowed := true }
def ReadCutUptoSaid : Prop := readCutUptoRow.holds Tryz.pinned (OpenSpec.upto readCutSpec)

end Rows
end Go.Proofs.YtpedagpcblnnhaaGreat
