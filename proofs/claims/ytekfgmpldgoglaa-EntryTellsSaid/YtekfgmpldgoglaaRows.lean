/-
  No cell of these rows narrows 'for every input' (looked for: loops, veiled, ifaces, maps, wideKeys, modest, calm, conditions, laid).
  DERIVED. THE GIVEN ROWS OF THIS SEAT. 7 by the template 'for every input the law returns true; each argument reads behind the call as it read before'; 0 by the template 'total and deterministic' (their statements: YtekfgmpldgoglaaTotals.lean).
  GIVEN WITH THE SEED: the statements are not yours to turn. If you find one false, say at which input.
  Laid BY PROGRAM, IN A SANDBOX (cutbox-rows.mjs): the forced cells as the released guide's own fill.sh prints them over the translation 57058ecd198b09b0… (all of the seat's roots in one cut). By AI agents, Wed Nov 11 2026. No macro, syntax, notation, axiom, sorry.
-/
import Derived.Test.YtekfgmpldgoglaaChecked
import GoSem.Claim
import GoSem.ClaimJoined
import GoSem.ClaimMapViews
import Derived.JoinedTies
import Derived.KernelRfl
namespace Go.Proofs.Ytekfgmpldgoglaa
/- THE CELL 'sum', in the pinned program and in every row, IS THE sha256 OF THE DUMP (.gsa) THAT YtekfgmpldgoglaaProg.lean LOADS. Nothing in Lean hashes anything: it is a label: what it is worth is what the hold of that sum in a sandbox is worth. -/
noncomputable def Try.pinned : Pinned := { name := "ytekfgmpldgoglaa", sum := "57058ecd198b09b0e5b916dff0b90bca3b881499ef6f7135f3ec9b0c20492b70", checked := Try.checked }
namespace Rows
def none {H : Type} : Left H := { results := [], args := [] }

/-- 'reelkeeperlaw15.ContTells': WHATEVER THE INPUT: true; the input reads as it did. -/
def contTellsSpec : ChangeSpec := { name := "contTells", fn := fun _ => fun
  | [d1, d2, d3] => { results := [.lit (.bool true)], args := [d1, d2, d3] }
  | _ => none }
def contTellsRow : OpenClaim := { program := "ytekfgmpldgoglaa", sum := "57058ecd198b09b0e5b916dff0b90bca3b881499ef6f7135f3ec9b0c20492b70", func := "reelkeeper/reelkeeperlaw15.ContTells", spec := "contTells", inPlace := ["internal/bytealg.IndexByteString", "internal/bytealg.IndexString", "internal/bytealg.IndexByte", "internal/bytealg.Index"], unfollowed := true, recurses := true, named := ["internal/bytealg.MaxLen"], apart := false }
def ContTellsSaid : Prop := contTellsRow.holds Try.pinned (OpenSpec.ofChange contTellsSpec)

/-- ITS FALSE NEIGHBOUR: 'it returns false'. Refute it at one input. -/
def contTellsWrong : ChangeSpec := { name := "contTells", fn := fun _ => fun
  | [d1, d2, d3] => { results := [.lit (.bool false)], args := [d1, d2, d3] }
  | _ => none }
def ContTellsWrongFalsely : Prop := contTellsRow.holds Try.pinned (OpenSpec.ofChange contTellsWrong)

/-- 'reelkeeperlaw15.ContHead': WHATEVER THE INPUT: true; the input reads as it did. -/
def contHeadSpec : ChangeSpec := { name := "contHead", fn := fun _ => fun
  | [d1, d2] => { results := [.lit (.bool true)], args := [d1, d2] }
  | _ => none }
def contHeadRow : OpenClaim := { program := "ytekfgmpldgoglaa", sum := "57058ecd198b09b0e5b916dff0b90bca3b881499ef6f7135f3ec9b0c20492b70", func := "reelkeeper/reelkeeperlaw15.ContHead", spec := "contHead", inPlace := ["internal/bytealg.IndexByteString", "internal/bytealg.IndexString", "internal/bytealg.IndexByte", "internal/bytealg.Index"], unfollowed := true, recurses := true, named := ["internal/bytealg.MaxLen"], apart := false }
def ContHeadSaid : Prop := contHeadRow.holds Try.pinned (OpenSpec.ofChange contHeadSpec)

/-- ITS FALSE NEIGHBOUR: 'it returns false'. Refute it at one input. -/
def contHeadWrong : ChangeSpec := { name := "contHead", fn := fun _ => fun
  | [d1, d2] => { results := [.lit (.bool false)], args := [d1, d2] }
  | _ => none }
def ContHeadWrongFalsely : Prop := contHeadRow.holds Try.pinned (OpenSpec.ofChange contHeadWrong)

/-- 'reelkeeperlaw15.ContGot': WHATEVER THE INPUT: true; the input reads as it did. -/
def contGotSpec : ChangeSpec := { name := "contGot", fn := fun _ => fun
  | [d] => { results := [.lit (.bool true)], args := [d] }
  | _ => none }
def contGotRow : OpenClaim := { program := "ytekfgmpldgoglaa", sum := "57058ecd198b09b0e5b916dff0b90bca3b881499ef6f7135f3ec9b0c20492b70", func := "reelkeeper/reelkeeperlaw15.ContGot", spec := "contGot", inPlace := ["internal/bytealg.IndexByteString", "internal/bytealg.IndexString", "internal/bytealg.IndexByte", "internal/bytealg.Index"], unfollowed := true, recurses := true, named := ["internal/bytealg.MaxLen"], apart := false }
def ContGotSaid : Prop := contGotRow.holds Try.pinned (OpenSpec.ofChange contGotSpec)

/-- ITS FALSE NEIGHBOUR: 'it returns false'. Refute it at one input. -/
def contGotWrong : ChangeSpec := { name := "contGot", fn := fun _ => fun
  | [d] => { results := [.lit (.bool false)], args := [d] }
  | _ => none }
def ContGotWrongFalsely : Prop := contGotRow.holds Try.pinned (OpenSpec.ofChange contGotWrong)

/-- 'reelkeeperlaw15.ContApart': WHATEVER THE INPUT: true; the input reads as it did. -/
def contApartSpec : ChangeSpec := { name := "contApart", fn := fun _ => fun
  | [d1, d2, d3, d4] => { results := [.lit (.bool true)], args := [d1, d2, d3, d4] }
  | _ => none }
def contApartRow : OpenClaim := { program := "ytekfgmpldgoglaa", sum := "57058ecd198b09b0e5b916dff0b90bca3b881499ef6f7135f3ec9b0c20492b70", func := "reelkeeper/reelkeeperlaw15.ContApart", spec := "contApart", inPlace := ["internal/bytealg.IndexByteString", "internal/bytealg.IndexString", "internal/bytealg.IndexByte", "internal/bytealg.Index"], unfollowed := true, recurses := true, named := ["internal/bytealg.MaxLen"], apart := false }
def ContApartSaid : Prop := contApartRow.holds Try.pinned (OpenSpec.ofChange contApartSpec)

/-- ITS FALSE NEIGHBOUR: 'it returns false'. Refute it at one input. -/
def contApartWrong : ChangeSpec := { name := "contApart", fn := fun _ => fun
  | [d1, d2, d3, d4] => { results := [.lit (.bool false)], args := [d1, d2, d3, d4] }
  | _ => none }
def ContApartWrongFalsely : Prop := contApartRow.holds Try.pinned (OpenSpec.ofChange contApartWrong)

/-- 'reelkeeperlaw15.ContPlaces': WHATEVER THE INPUT: true; the input reads as it did. -/
def contPlacesSpec : ChangeSpec := { name := "contPlaces", fn := fun _ => fun
  | [d1, d2] => { results := [.lit (.bool true)], args := [d1, d2] }
  | _ => none }
def contPlacesRow : OpenClaim := { program := "ytekfgmpldgoglaa", sum := "57058ecd198b09b0e5b916dff0b90bca3b881499ef6f7135f3ec9b0c20492b70", func := "reelkeeper/reelkeeperlaw15.ContPlaces", spec := "contPlaces", inPlace := ["internal/bytealg.IndexByteString", "internal/bytealg.IndexString", "internal/bytealg.IndexByte", "internal/bytealg.Index"], unfollowed := true, recurses := true, named := ["internal/bytealg.MaxLen"], apart := false }
def ContPlacesSaid : Prop := contPlacesRow.holds Try.pinned (OpenSpec.ofChange contPlacesSpec)

/-- ITS FALSE NEIGHBOUR: 'it returns false'. Refute it at one input. -/
def contPlacesWrong : ChangeSpec := { name := "contPlaces", fn := fun _ => fun
  | [d1, d2] => { results := [.lit (.bool false)], args := [d1, d2] }
  | _ => none }
def ContPlacesWrongFalsely : Prop := contPlacesRow.holds Try.pinned (OpenSpec.ofChange contPlacesWrong)

/-- 'reelkeeperlaw15.ContBack': WHATEVER THE INPUT: true; the input reads as it did. -/
def contBackSpec : ChangeSpec := { name := "contBack", fn := fun _ => fun
  | [d1, d2, d3] => { results := [.lit (.bool true)], args := [d1, d2, d3] }
  | _ => none }
def contBackRow : OpenClaim := { program := "ytekfgmpldgoglaa", sum := "57058ecd198b09b0e5b916dff0b90bca3b881499ef6f7135f3ec9b0c20492b70", func := "reelkeeper/reelkeeperlaw15.ContBack", spec := "contBack", inPlace := ["internal/bytealg.IndexByteString", "internal/bytealg.IndexString", "internal/bytealg.IndexByte", "internal/bytealg.Index"], unfollowed := true, recurses := true, named := ["internal/bytealg.MaxLen"], apart := false }
def ContBackSaid : Prop := contBackRow.holds Try.pinned (OpenSpec.ofChange contBackSpec)

/-- ITS FALSE NEIGHBOUR: 'it returns false'. Refute it at one input. -/
def contBackWrong : ChangeSpec := { name := "contBack", fn := fun _ => fun
  | [d1, d2, d3] => { results := [.lit (.bool false)], args := [d1, d2, d3] }
  | _ => none }
def ContBackWrongFalsely : Prop := contBackRow.holds Try.pinned (OpenSpec.ofChange contBackWrong)

/-- 'reelkeeperlaw07.EntryTells': WHATEVER THE INPUT: true; the input reads as it did. -/
def entryTellsSpec : ChangeSpec := { name := "entryTells", fn := fun _ => fun
  | [d] => { results := [.lit (.bool true)], args := [d] }
  | _ => none }
def entryTellsRow : OpenClaim := { program := "ytekfgmpldgoglaa", sum := "57058ecd198b09b0e5b916dff0b90bca3b881499ef6f7135f3ec9b0c20492b70", func := "reelkeeper/reelkeeperlaw07.EntryTells", spec := "entryTells", inPlace := ["internal/bytealg.IndexByteString", "internal/bytealg.IndexString"], unfollowed := true, recurses := true, named := ["internal/bytealg.MaxLen"], apart := false }
def EntryTellsSaid : Prop := entryTellsRow.holds Try.pinned (OpenSpec.ofChange entryTellsSpec)

/-- ITS FALSE NEIGHBOUR: 'it returns false'. Refute it at one input. -/
def entryTellsWrong : ChangeSpec := { name := "entryTells", fn := fun _ => fun
  | [d] => { results := [.lit (.bool false)], args := [d] }
  | _ => none }
def EntryTellsWrongFalsely : Prop := entryTellsRow.holds Try.pinned (OpenSpec.ofChange entryTellsWrong)

/- THE SECOND FORM. 'bulk': how many values and letters a reading holds, each counted each time it is reached (what is shared counts as often as it is met; a slice's spare places count too). A statement '..UptoSaid' is the law's where the arguments, and the package variables that the reading takes, are together of bulk at most 1048576: NARROWER than '..Said'. Prove '..Said' where nothing that the law and all that it calls make is longer than what came in: it says more and counts as full. Else prove '..UptoSaid'. A law counts once. -/
mutual
def uptoBulk {H : Type} : DataW H → Nat
  | .lit (.string bytes) => bytes.length + 1
  | .lit _ => 1
  | .nil => 1
  | .ptr d => uptoBulk d + 1
  | .slice elems spare => uptoBulkAll elems + uptoBulkAll spare + 1
  | .agg parts => uptoBulkAll parts + 1
  | .iface _ d => uptoBulk d + 1
  | .map entries => uptoBulkEntries entries + 1
  | .held _ => 1
def uptoBulkAll {H : Type} : List (DataW H) → Nat
  | [] => 0
  | d :: r => uptoBulk d + uptoBulkAll r
def uptoBulkEntries {H : Type} : List (Lit × DataW H) → Nat
  | [] => 0
  | x :: r => uptoBulkEntry x + uptoBulkEntries r
def uptoBulkEntry {H : Type} : Lit × DataW H → Nat
  | (.string bytes, d) => bytes.length + uptoBulk d + 1
  | (_, d) => uptoBulk d + 1
 end
def uptoSmall : (H : Type) → List (DataW H) → Bool := fun _ ds => decide (uptoBulkAll ds ≤ 1048576)
def OpenSpec.upto (s : _root_.Go.ChangeSpec) : _root_.Go.OpenSpec := { _root_.Go.OpenSpec.ofChange s with cond := some uptoSmall }

/-- 'reelkeeperlaw15.ContTells', WHERE WHAT IT READS IS OF BULK AT MOST 1048576: true; the input reads as it did. -/
def contTellsUptoRow : OpenClaim := { program := "ytekfgmpldgoglaa", sum := "57058ecd198b09b0e5b916dff0b90bca3b881499ef6f7135f3ec9b0c20492b70", func := "reelkeeper/reelkeeperlaw15.ContTells", spec := "contTells", inPlace := ["internal/bytealg.IndexByteString", "internal/bytealg.IndexString", "internal/bytealg.IndexByte", "internal/bytealg.Index"], unfollowed := true, recurses := true, named := ["internal/bytealg.MaxLen"], apart := false, narrowed := true }
def ContTellsUptoSaid : Prop := contTellsUptoRow.holds Try.pinned (OpenSpec.upto contTellsSpec)

/-- 'reelkeeperlaw15.ContHead', WHERE WHAT IT READS IS OF BULK AT MOST 1048576: true; the input reads as it did. -/
def contHeadUptoRow : OpenClaim := { program := "ytekfgmpldgoglaa", sum := "57058ecd198b09b0e5b916dff0b90bca3b881499ef6f7135f3ec9b0c20492b70", func := "reelkeeper/reelkeeperlaw15.ContHead", spec := "contHead", inPlace := ["internal/bytealg.IndexByteString", "internal/bytealg.IndexString", "internal/bytealg.IndexByte", "internal/bytealg.Index"], unfollowed := true, recurses := true, named := ["internal/bytealg.MaxLen"], apart := false, narrowed := true }
def ContHeadUptoSaid : Prop := contHeadUptoRow.holds Try.pinned (OpenSpec.upto contHeadSpec)

/-- 'reelkeeperlaw15.ContGot', WHERE WHAT IT READS IS OF BULK AT MOST 1048576: true; the input reads as it did. -/
def contGotUptoRow : OpenClaim := { program := "ytekfgmpldgoglaa", sum := "57058ecd198b09b0e5b916dff0b90bca3b881499ef6f7135f3ec9b0c20492b70", func := "reelkeeper/reelkeeperlaw15.ContGot", spec := "contGot", inPlace := ["internal/bytealg.IndexByteString", "internal/bytealg.IndexString", "internal/bytealg.IndexByte", "internal/bytealg.Index"], unfollowed := true, recurses := true, named := ["internal/bytealg.MaxLen"], apart := false, narrowed := true }
def ContGotUptoSaid : Prop := contGotUptoRow.holds Try.pinned (OpenSpec.upto contGotSpec)

/-- 'reelkeeperlaw15.ContApart', WHERE WHAT IT READS IS OF BULK AT MOST 1048576: true; the input reads as it did. -/
def contApartUptoRow : OpenClaim := { program := "ytekfgmpldgoglaa", sum := "57058ecd198b09b0e5b916dff0b90bca3b881499ef6f7135f3ec9b0c20492b70", func := "reelkeeper/reelkeeperlaw15.ContApart", spec := "contApart", inPlace := ["internal/bytealg.IndexByteString", "internal/bytealg.IndexString", "internal/bytealg.IndexByte", "internal/bytealg.Index"], unfollowed := true, recurses := true, named := ["internal/bytealg.MaxLen"], apart := false, narrowed := true }
def ContApartUptoSaid : Prop := contApartUptoRow.holds Try.pinned (OpenSpec.upto contApartSpec)

/-- 'reelkeeperlaw15.ContPlaces', WHERE WHAT IT READS IS OF BULK AT MOST 1048576: true; the input reads as it did. -/
def contPlacesUptoRow : OpenClaim := { program := "ytekfgmpldgoglaa", sum := "57058ecd198b09b0e5b916dff0b90bca3b881499ef6f7135f3ec9b0c20492b70", func := "reelkeeper/reelkeeperlaw15.ContPlaces", spec := "contPlaces", inPlace := ["internal/bytealg.IndexByteString", "internal/bytealg.IndexString", "internal/bytealg.IndexByte", "internal/bytealg.Index"], unfollowed := true, recurses := true, named := ["internal/bytealg.MaxLen"], apart := false, narrowed := true }
def ContPlacesUptoSaid : Prop := contPlacesUptoRow.holds Try.pinned (OpenSpec.upto contPlacesSpec)

/-- 'reelkeeperlaw15.ContBack', WHERE WHAT IT READS IS OF BULK AT MOST 1048576: true; the input reads as it did. -/
def contBackUptoRow : OpenClaim := { program := "ytekfgmpldgoglaa", sum := "57058ecd198b09b0e5b916dff0b90bca3b881499ef6f7135f3ec9b0c20492b70", func := "reelkeeper/reelkeeperlaw15.ContBack", spec := "contBack", inPlace := ["internal/bytealg.IndexByteString", "internal/bytealg.IndexString", "internal/bytealg.IndexByte", "internal/bytealg.Index"], unfollowed := true, recurses := true, named := ["internal/bytealg.MaxLen"], apart := false, narrowed := true }
def ContBackUptoSaid : Prop := contBackUptoRow.holds Try.pinned (OpenSpec.upto contBackSpec)

/-- 'reelkeeperlaw07.EntryTells', WHERE WHAT IT READS IS OF BULK AT MOST 1048576: true; the input reads as it did. -/
def entryTellsUptoRow : OpenClaim := { program := "ytekfgmpldgoglaa", sum := "57058ecd198b09b0e5b916dff0b90bca3b881499ef6f7135f3ec9b0c20492b70", func := "reelkeeper/reelkeeperlaw07.EntryTells", spec := "entryTells", inPlace := ["internal/bytealg.IndexByteString", "internal/bytealg.IndexString"], unfollowed := true, recurses := true, named := ["internal/bytealg.MaxLen"], apart := false, narrowed := true }
def EntryTellsUptoSaid : Prop := entryTellsUptoRow.holds Try.pinned (OpenSpec.upto entryTellsSpec)

end Rows
end Go.Proofs.Ytekfgmpldgoglaa
