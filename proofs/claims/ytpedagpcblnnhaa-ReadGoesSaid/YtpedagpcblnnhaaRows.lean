/-
  No cell of these rows narrows 'for every input' (looked for: loops, veiled, ifaces, maps, wideKeys, modest, calm, conditions, laid).
  DERIVED. THE GIVEN ROWS OF THIS SEAT. 3 by the template 'for every input the law returns true; each argument reads behind the call as it read before'; 0 by the template 'total and deterministic' (their statements: YtpedagpcblnnhaaTotals.lean).
  GIVEN WITH THE SEED: the statements are not yours to turn. If you find one false, say at which input.
  Laid BY PROGRAM, IN A SANDBOX (cutbox-rows.mjs): the forced cells as the released guide's own fill.sh prints them over the translation 527816a7d773b5e4… (all of the seat's roots in one cut). By AI agents, Wed Nov 11 2026. No macro, syntax, notation, axiom, sorry.
-/
import Derived.Test.YtpedagpcblnnhaaChecked
import GoSem.Claim
import GoSem.ClaimJoined
import GoSem.ClaimMapViews
import Derived.JoinedTies
import Derived.KernelRfl
namespace Go.Proofs.Ytpedagpcblnnhaa
/- THE CELL 'sum', in the pinned program and in every row, IS THE sha256 OF THE DUMP (.gsa) THAT YtpedagpcblnnhaaProg.lean LOADS. Nothing in Lean hashes anything: it is a label: what it is worth is what the hold of that sum in a sandbox is worth. -/
noncomputable def Try.pinned : Pinned := { name := "ytpedagpcblnnhaa", sum := "527816a7d773b5e4aca0af23554b5939cebfee071c949cd36df1543a88e4eb08", checked := Try.checked }
namespace Rows
def none {H : Type} : Left H := { results := [], args := [] }

/-- 'reelkeeperlaw10.ReadSafe': WHATEVER THE INPUT: true; the input reads as it did. -/
def readSafeSpec : ChangeSpec := { name := "readSafe", fn := fun _ => fun
  | [d] => { results := [.lit (.bool true)], args := [d] }
  | _ => none }
def readSafeRow : OpenClaim := { program := "ytpedagpcblnnhaa", sum := "527816a7d773b5e4aca0af23554b5939cebfee071c949cd36df1543a88e4eb08", func := "reelkeeper/reelkeeperlaw10.ReadSafe", spec := "readSafe", inPlace := ["internal/bytealg.IndexByteString", "internal/bytealg.IndexString", "internal/bytealg.IndexByte", "internal/bytealg.Index"], unfollowed := true, recurses := true, named := ["internal/bytealg.MaxLen"], apart := false }
def ReadSafeSaid : Prop := readSafeRow.holds Try.pinned (OpenSpec.ofChange readSafeSpec)

/-- ITS FALSE NEIGHBOUR: 'it returns false'. Refute it at one input. -/
def readSafeWrong : ChangeSpec := { name := "readSafe", fn := fun _ => fun
  | [d] => { results := [.lit (.bool false)], args := [d] }
  | _ => none }
def ReadSafeWrongFalsely : Prop := readSafeRow.holds Try.pinned (OpenSpec.ofChange readSafeWrong)

/-- 'reelkeeperlaw10.ReadGoes': WHATEVER THE INPUT: true; the input reads as it did. -/
def readGoesSpec : ChangeSpec := { name := "readGoes", fn := fun _ => fun
  | [d1, d2] => { results := [.lit (.bool true)], args := [d1, d2] }
  | _ => none }
def readGoesRow : OpenClaim := { program := "ytpedagpcblnnhaa", sum := "527816a7d773b5e4aca0af23554b5939cebfee071c949cd36df1543a88e4eb08", func := "reelkeeper/reelkeeperlaw10.ReadGoes", spec := "readGoes", inPlace := ["internal/bytealg.IndexByteString", "internal/bytealg.IndexString", "internal/bytealg.IndexByte", "internal/bytealg.Index"], unfollowed := true, recurses := true, named := ["internal/bytealg.MaxLen"], apart := false }
def ReadGoesSaid : Prop := readGoesRow.holds Try.pinned (OpenSpec.ofChange readGoesSpec)

/-- ITS FALSE NEIGHBOUR: 'it returns false'. Refute it at one input. -/
def readGoesWrong : ChangeSpec := { name := "readGoes", fn := fun _ => fun
  | [d1, d2] => { results := [.lit (.bool false)], args := [d1, d2] }
  | _ => none }
def ReadGoesWrongFalsely : Prop := readGoesRow.holds Try.pinned (OpenSpec.ofChange readGoesWrong)

/-- 'reelkeeperlaw10.ReadGathers': WHATEVER THE INPUT: true; the input reads as it did. -/
def readGathersSpec : ChangeSpec := { name := "readGathers", fn := fun _ => fun
  | [d1, d2] => { results := [.lit (.bool true)], args := [d1, d2] }
  | _ => none }
def readGathersRow : OpenClaim := { program := "ytpedagpcblnnhaa", sum := "527816a7d773b5e4aca0af23554b5939cebfee071c949cd36df1543a88e4eb08", func := "reelkeeper/reelkeeperlaw10.ReadGathers", spec := "readGathers", inPlace := ["internal/bytealg.IndexByteString", "internal/bytealg.IndexString", "internal/bytealg.IndexByte", "internal/bytealg.Index"], unfollowed := true, recurses := true, named := ["internal/bytealg.MaxLen"], apart := false }
def ReadGathersSaid : Prop := readGathersRow.holds Try.pinned (OpenSpec.ofChange readGathersSpec)

/-- ITS FALSE NEIGHBOUR: 'it returns false'. Refute it at one input. -/
def readGathersWrong : ChangeSpec := { name := "readGathers", fn := fun _ => fun
  | [d1, d2] => { results := [.lit (.bool false)], args := [d1, d2] }
  | _ => none }
def ReadGathersWrongFalsely : Prop := readGathersRow.holds Try.pinned (OpenSpec.ofChange readGathersWrong)

/- THE SECOND FORM. 'bulk': how many values and letters a reading holds, each counted each time it is reached (what is shared counts as often as it is met; a slice's spare places count too). A statement '..UptoSaid' is the law's where the arguments, and the package variables that the reading takes, are together of bulk at most 1048576: NARROWER than '..Said'. Prove '..Said' where nothing that the law and all that it calls make is longer than what came in: it says more and counts as full. Else prove '..UptoSaid'. A law counts once. -/
mutual
def uptoBulk {H : Type} : DataW H → Nat
  | .lit (.string bytes) => bytes.length + 1
  | .lit _ => 1
  | .nil => 1
  | .ptr d => uptoBulk d + 1
  | .slice elems spare => uptoBulkAll elems + uptoBulkAll spare + 1
  | .agg parts => uptoBulkAll parts + 1
  | .iface _ d => uptoBulk d + 1
  | .map entries => uptoBulkEntries entries + 1
  | .held _ => 1
def uptoBulkAll {H : Type} : List (DataW H) → Nat
  | [] => 0
  | d :: r => uptoBulk d + uptoBulkAll r
def uptoBulkEntries {H : Type} : List (Lit × DataW H) → Nat
  | [] => 0
  | x :: r => uptoBulkEntry x + uptoBulkEntries r
def uptoBulkEntry {H : Type} : Lit × DataW H → Nat
  | (.string bytes, d) => bytes.length + uptoBulk d + 1
  | (_, d) => uptoBulk d + 1
 end
def uptoSmall : (H : Type) → List (DataW H) → Bool := fun _ ds => decide (uptoBulkAll ds ≤ 1048576)
def OpenSpec.upto (s : _root_.Go.ChangeSpec) : _root_.Go.OpenSpec := { _root_.Go.OpenSpec.ofChange s with cond := some uptoSmall }

/-- 'reelkeeperlaw10.ReadSafe', WHERE WHAT IT READS IS OF BULK AT MOST 1048576: true; the input reads as it did. -/
def readSafeUptoRow : OpenClaim := { program := "ytpedagpcblnnhaa", sum := "527816a7d773b5e4aca0af23554b5939cebfee071c949cd36df1543a88e4eb08", func := "reelkeeper/reelkeeperlaw10.ReadSafe", spec := "readSafe", inPlace := ["internal/bytealg.IndexByteString", "internal/bytealg.IndexString", "internal/bytealg.IndexByte", "internal/bytealg.Index"], unfollowed := true, recurses := true, named := ["internal/bytealg.MaxLen"], apart := false, narrowed := true }
def ReadSafeUptoSaid : Prop := readSafeUptoRow.holds Try.pinned (OpenSpec.upto readSafeSpec)

/-- 'reelkeeperlaw10.ReadGoes', WHERE WHAT IT READS IS OF BULK AT MOST 1048576: true; the input reads as it did. -/
def readGoesUptoRow : OpenClaim := { program := "ytpedagpcblnnhaa", sum := "527816a7d773b5e4aca0af23554b5939cebfee071c949cd36df1543a88e4eb08", func := "reelkeeper/reelkeeperlaw10.ReadGoes", spec := "readGoes", inPlace := ["internal/bytealg.IndexByteString", "internal/bytealg.IndexString", "internal/bytealg.IndexByte", "internal/bytealg.Index"], unfollowed := true, recurses := true, named := ["internal/bytealg.MaxLen"], apart := false, narrowed := true }
def ReadGoesUptoSaid : Prop := readGoesUptoRow.holds Try.pinned (OpenSpec.upto readGoesSpec)

/-- 'reelkeeperlaw10.ReadGathers', WHERE WHAT IT READS IS OF BULK AT MOST 1048576: true; the input reads as it did. -/
def readGathersUptoRow : OpenClaim := { program := "ytpedagpcblnnhaa", sum := "527816a7d773b5e4aca0af23554b5939cebfee071c949cd36df1543a88e4eb08", func := "reelkeeper/reelkeeperlaw10.ReadGathers", spec := "readGathers", inPlace := ["internal/bytealg.IndexByteString", "internal/bytealg.IndexString", "internal/bytealg.IndexByte", "internal/bytealg.Index"], unfollowed := true, recurses := true, named := ["internal/bytealg.MaxLen"], apart := false, narrowed := true }
def ReadGathersUptoSaid : Prop := readGathersUptoRow.holds Try.pinned (OpenSpec.upto readGathersSpec)

end Rows
end Go.Proofs.Ytpedagpcblnnhaa
